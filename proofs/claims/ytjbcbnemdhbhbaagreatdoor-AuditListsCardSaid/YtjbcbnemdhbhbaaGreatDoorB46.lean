import Derived.Test.YtjbcbnemdhbhbaaGreatDoorB44
import Derived.Test.YtjbcbnemdhbhbaaGreatDoorB1
import Derived.Test.YtjbcbnemdhbhbaaGreatDoorB8
import Derived.Test.YtjbcbnemdhbhbaaGreatDoorB45
import Derived.BigQuiet
import Derived.Test.YtjbcbnemdhbhbaaGreatDoorB32
set_option maxRecDepth 100000
set_option linter.unusedVariables false
set_option linter.unusedSimpArgs false
set_option maxHeartbeats 40000000
open Array renaming length_toList→ack
open ByteArray renaming size→aek
open Go renaming Value→IS,World→AI,heap_alloc_new→acb,info_parts→aco,maxLen→abi
open Go.Lib renaming hid→sh
open Go.RowKit renaming Below→No
open Go.RowKit.Below renaming refl→IN
open Go.Value renaming oneCell'→acA,slice→acf
open Go.World renaming cell?_of_block→acq,news_of_block→abV,ownsRow_lit→adD
open Go.World.ownsRow renaming lt→abr
open List renaming append_assoc→OF,eq_nil_of_length_eq_zero→abZ,filter_append→afe,filter_eq_self→aeE,flatMap_append→aeD,flatMap_cons→abL,getElem?_eq_getElem→aaG,getElem?_map→acz,getElem_mem→abw,length_append→BY,length_pos_iff→acU,map_append→abH,mem_append→AT,mem_flatMap→abp,mem_map→abO,mem_map_of_mem→abR,mem_singleton→By,pairwise_cons→adf,take_append_drop→abm,take_of_length_le→abI,take_succ_eq_append_getElem→aaT
open List.Pairwise renaming sublist→afh
open List.Sublist renaming refl→agx
open Nat renaming le_refl→AS,lt_of_lt_of_le→aaf,zero_le→abc
open Option.some renaming inj→adW,injEq→acI
namespace Go.Proofs.YtjbcbnemdhbhbaaGreatDoor
open Go.Proofs.Tryz
open Go.RowKit
theorem Bn:(prog.info? 5).map (fun i=>(i.zero,i.size,i.bytes))=some (some (.int .u8 0),1,1):=by kernel_rfl
structure Bg (w:AI) (v:IS) (l:List UInt8) (wr:AI):Prop where
 own:wr.ownsRow w.heap.size 5 1 v l.length (kX l)
 below:No w.heap.size w wr
theorem Bg.bJ{w wr:AI}{m:Nat}{v:IS}{l:List UInt8}(h:Bg w v l wr)(hm:m=l.length)(o:Obj):(wr.alloc o).ownsRow w.heap.size 5 1 v m (kX l):=by
 subst hm;exact(ah.ae ((IN _ wr).alloc (AS _) o) []).own h.own (by simp)
theorem Bg.next{w wr w2:AI}{A A2:Option Addr}{m q c c2:Nat}{l l' x:List UInt8}{o:Obj}(h:Bg w (.slice A m c) l wr)(hm:m=l.length)(hl:l'=l++x)(hq:q=x.length)(ho:w2.ownsRow w.heap.size 5 1 (.slice A2 (m+q) c2) (m+q) (kX l++kX x))(hg:(wr.alloc o).grownBy w2 (acf A m c).ownBlock):m+q=l'.length/\Bg w (.slice A2 (m+q) c2) l' w2:=by
 subst hm hl hq;refine⟨by simp,?_,?_⟩
 ·rw[GR,BY]
  exact ho
 ·exact((ah.ae (h.below.alloc h.below.size o) []).grown hg (fun g hg=> .inr (abr h.own g hg).1)).below (AS _) (by simp)
theorem qP(l:List UInt8)(k:Nat):(ec (l.take k)).length<=(ec l).length:=by
 have:ec l=ec (l.take k)++ec (l.drop k):=by rw[<-nF,abm]
 rw[this,BY];omega
theorem yW(ps:List ByteArray)(j:Nat):(bq (ps.take j)).length<=(bq ps).length:=by
 have:bq ps=bq (ps.take j)++bq (ps.drop j):=by rw[<-mh,abm]
 rw[this,BY];omega
theorem sr{b:UInt8}:ec [b]=if b=0 then [0,255]else [b]:=by
 rw[lF];split<;>rfl
theorem Fa{w:AI}{A:Option Addr}{c:Nat}{ps:List ByteArray}(h:Sl w A (ps.map .string))(hn:ps.length<=3)(hf:(bq ps).length<=4096):
  Calls prog 149 #[.slice A ps.length c] w (fun e w'=>e= .returned (.tuple #[.string ⟨(bq ps).toArray⟩,.int .i64 0])/\No w.heap.size w w'):=by
 obtain⟨i0,hi,ef,dK,dY⟩:=aco Bn;have HS:=sh h;have z0:decide ((16:Int)<(ps.length:Int))=false:=decide_eq_false (by omega);have fP:=sh (show Bg w (.slice (some ⟨w.heap.size,0,none⟩) 0 0) [] (w.alloc (.cells #[] 5)) from ⟨adD w #[] 0 (AS _) (by unfold abi;omega) rfl,(IN _ w).alloc (AS _) _⟩);clear h;go_enter func149,ntmps149
 go_wp2_with fail
 go_loopw [4,5] (fun ov iv wr=>∃(j m g' c':Nat),iv= .int .i64 j/\j<=ps.length/\ov= .slice (some ⟨g',0,none⟩) m c'/\m<=4096/\Hid (m=(bq (ps.take j)).length/\Bg w (.slice (some ⟨g',0,none⟩) m c') (bq (ps.take j)) wr)) (fun _ iv _=>ps.length-(intOf iv).toNat)
 case atStart=>exact⟨0,0,_,_,rfl,abc _,rfl,by omega,sh ⟨rfl,fP.out⟩⟩
 case round=>
  obtain⟨j,m,g',c',rfl,hj,rfl,hm,HR⟩:=hrel;by_cases aI:j<ps.length
  ·have z1: decide ((j:Int)<(ps.length:Int))=true:=decide_eq_true (by omega)
   obtain⟨p,hp⟩:∃p,p=ps[j]:=⟨_,rfl⟩;obtain⟨b9,o9,rfl,jt,p0⟩:=HS.out j (.string p) (by rw[hp];simp[aI]);have HP:=sh hp;have Dh:=sh p0;have CK:=sh (show bq (ps.take (j+1))=bq (ps.take j)++(ec p.data.toList++[0,1])by
    rw[aaT aI,mh,<-hp];simp[bq])
   have abn:=yW ps (j+1);rw[CK.out,BY,BY]at abn;have cZ:p.size<=4096:=by have:=Cv (show p∈ps by rw[hp];exact abw aI);omega
   have Df:=sh (show m+(ec p.data.toList).length+2<=4096 by have h9:=HR.out.1;have:([0,1]:List UInt8).length=2:=rfl;omega);have hbj:j<=3:=by omega
   clear hp p0 abn fP;go_wp2_with fail
   go_loopw [4,6] (fun ov kv wq=>∃(k m2 g2 c2:Nat),kv= .int .i64 k/\k<=p.size/\ov= .slice (some ⟨g2,0,none⟩) m2 c2/\m2<=4094/\Hid (m2=(bq (ps.take j)++ec (p.data.toList.take k)).length/\Bg w (.slice (some ⟨g2,0,none⟩) m2 c2) (bq (ps.take j)++ec (p.data.toList.take k)) wq)) (fun _ kv _=>p.size-(intOf kv).toNat)
   case atStart=>exact⟨0,m,g',c',rfl,abc _,rfl,by have:=Df.out;omega,sh (by simpa[ec]using HR.out)⟩
   case round=>
    obtain⟨k,m2,g2,c2,rfl,hk,rfl,mF,HQ⟩:=hrel;have p1:=(acq (a:=⟨b9,o9+j,none⟩) (HQ.out.2.below.block b9 jt)).trans Dh.out;have l1:b9<wr.heap.size:=aaf jt HQ.out.2.below.size;by_cases gT:k<p.size
    ·have z2:decide ((k:Int)<(p.size:Int))=true:=decide_eq_true (by omega)
     have z3:decide ((m2:Int)<=4096)=true:=decide_eq_true (by omega);have PA:=sh (jY p k gT);have AG:=qP p.data.toList (k+1);have RS:=sh (show ec (p.data.toList.take (k+1))=ec (p.data.toList.take k)++ec [p[k]]by rw[PA.out,nF]);have iw:m2+(ec [p[k]]).length<=4094:=by
      have h1:=HQ.out.1;have h2:=Df.out;have h3:=HR.out.1;rw[RS.out,BY]at AG;rw[BY]at h1;omega
     clear AG;by_cases hz:p[k]=0
     ·have hxv:(p[k].toNat:Int)=0:=by rw[hz];rfl
      have MS:m2+2<=4094:=by rw[hz]at iw;exact iw
      have xN:=sh (show bq (ps.take j)++ec (p.data.toList.take (k+1))=((bq (ps.take j)++ec (p.data.toList.take k))++[0])++[255]by rw[RS.out,hz];simp[ec]);clear iw hz;go_wp2_with (first
       | (at_builtin;refine aD _ rfl (.tmp 31) (.tmp 38) 36 rfl w.heap.size 5 i0 _ 1 1 underlying36 hi ef dK dY rfl (by omega) (.slice (some ⟨g2,0,none⟩) (m2) c2) (m2) (kX (bq (ps.take j)++ec (p.data.toList.take k))) rfl (HQ.out.2.bJ HQ.out.1 _) (some ⟨wr.heap.size,0,none⟩) 1 1 [.int .u8 0] rfl rfl (fun hh=>by cases hh) (fun ad eo=>by
        injection eo with eo;subst eo;exact abV (cs:= #[.int .u8 0]) (acb wr _)) (by simp[acA]) (by unfold abi;omega) (by omega) (by have:=HQ.out.2.below.size;simp;omega) ?_;intro A3 c3 w3 aw aF;obtain⟨g3,rfl⟩:=cO aw (by omega);have dN:=sh (HQ.out.2.next HQ.out.1 (l':=(bq (ps.take j)++ec (p.data.toList.take k))++[0]) (x:=[0]) (q:=1) rfl rfl aw aF);have p3:=(acq (a:=⟨b9,o9+j,none⟩) (dN.out.2.below.block b9 jt)).trans Dh.out;have l3:b9<w3.heap.size:=aaf jt dN.out.2.below.size;clear aw aF)
       | (at_builtin;refine aD _ rfl (.tmp 47) (.tmp 48) 36 rfl w.heap.size 5 i0 _ 1 1 underlying36 hi ef dK dY rfl (by omega) (.slice (some ⟨g3,0,none⟩) (m2+1) c3) (m2+1) (kX ((bq (ps.take j)++ec (p.data.toList.take k))++[0])) rfl (dN.out.2.bJ dN.out.1 _) (some ⟨w3.heap.size,0,none⟩) 1 1 [.int .u8 255] rfl rfl (fun hh=>by cases hh) (fun ad eo=>by
        injection eo with eo;subst eo;exact abV (cs:= #[.int .u8 255]) (acb w3 _)) (by simp[acA]) (by unfold abi;omega) (by omega) (by have:=dN.out.2.below.size;simp;omega) ?_;intro A4 c4 w4 bM cd;obtain⟨g4,rfl⟩:=cO bM (by omega);have G7:=sh (dN.out.2.next dN.out.1 (l':=((bq (ps.take j)++ec (p.data.toList.take k))++[0])++[255]) (x:=[255]) (q:=1) rfl rfl bM cd);clear bM cd)
       | fail)
      go_roundw
      case rel=>exact⟨k+1,m2+1+1,g4,c4,by go_num,by omega,rfl,by omega,by rw[xN.out];exact G7⟩
      case measure=>simp[intOf];omega
     ·have We:((p[k].toNat:Int)==0)=false:=by
       rw[beq_eq_false_iff_ne];intro e;have h9:p[k].toNat=0:=by omega
       exact hz (by rw[<-UInt8.toNat_inj,h9];rfl)
      have MS:m2+1<=4094:=by rw[sr,if_neg hz]at iw;exact iw
      have xN:=sh (show bq (ps.take j)++ec (p.data.toList.take (k+1))=(bq (ps.take j)++ec (p.data.toList.take k))++[p[k]]by rw[RS.out,sr,if_neg hz,OF]);clear iw hz;go_wp2_with (first
       | (at_builtin;refine aD _ rfl (.tmp 31) (.tmp 38) 36 rfl w.heap.size 5 i0 _ 1 1 underlying36 hi ef dK dY rfl (by omega) (.slice (some ⟨g2,0,none⟩) (m2) c2) (m2) (kX (bq (ps.take j)++ec (p.data.toList.take k))) rfl (HQ.out.2.bJ HQ.out.1 _) (some ⟨wr.heap.size,0,none⟩) 1 1 [.int .u8 (p[k].toNat:Nat)] rfl rfl (fun hh=>by cases hh) (fun ad eo=>by
        injection eo with eo;subst eo;exact abV (cs:= #[.int .u8 (p[k].toNat:Nat)]) (acb wr _)) (by simp[acA]) (by unfold abi;omega) (by omega) (by have:=HQ.out.2.below.size;simp;omega) ?_;intro A3 c3 w3 aw aF;obtain⟨g3,rfl⟩:=cO aw (by omega);have dN:=sh (HQ.out.2.next HQ.out.1 (l':=(bq (ps.take j)++ec (p.data.toList.take k))++[p[k]]) (x:=[p[k]]) (q:=1) rfl rfl aw aF);have p3:=(acq (a:=⟨b9,o9+j,none⟩) (dN.out.2.below.block b9 jt)).trans Dh.out;have l3:b9<w3.heap.size:=aaf jt dN.out.2.below.size;clear aw aF)
       | fail)
      go_roundw
      case rel=>exact⟨k+1,m2+1,g3,c3,by go_num,by omega,rfl,by omega,by rw[xN.out];exact dN⟩
      case measure=>simp[intOf];omega
    ·have z2:decide ((k:Int)<(p.size:Int))=false:=decide_eq_false (by omega)
     have Vv:p.data.toList.take k=p.data.toList:=abI (by have:p.data.toList.length=p.size:=ack;omega);have xN:=sh (show bq (ps.take (j+1))=(bq (ps.take j)++ec (p.data.toList.take k))++[0,1]by rw[CK.out,Vv,OF]);clear Vv;go_wp2_with (first
      | (at_builtin;refine aD _ rfl (.tmp 50) (.tmp 51) 36 rfl w.heap.size 5 i0 _ 1 1 underlying36 hi ef dK dY rfl (by omega) (.slice (some ⟨g2,0,none⟩) (m2) c2) (m2) (kX (bq (ps.take j)++ec (p.data.toList.take k))) rfl (HQ.out.2.bJ HQ.out.1 _) (some ⟨wr.heap.size,0,none⟩) 2 2 [.int .u8 0,.int .u8 1] rfl rfl (fun hh=>by cases hh) (fun ad eo=>by
        injection eo with eo;subst eo;exact abV (cs:= #[.int .u8 0,.int .u8 1]) (acb wr _)) (by simp[acA]) (by unfold abi;omega) (by omega) (by have:=HQ.out.2.below.size;simp;omega) ?_;intro A3 c3 w3 aw aF;obtain⟨g3,rfl⟩:=cO aw (by omega);have dN:=sh (HQ.out.2.next HQ.out.1 (l':=(bq (ps.take j)++ec (p.data.toList.take k))++[0,1]) (x:=[0,1]) (q:=2) rfl rfl aw aF);clear aw aF)
      | fail)
     go_roundw
     case rel=>exact⟨j+1,m2+2,g3,c3,by go_num,by omega,rfl,by omega,by rw[xN.out];exact dN⟩
     case measure=>simp[intOf];omega
  ·have z1:decide ((j:Int)<(ps.length:Int))=false:=decide_eq_false (by omega)
   have vo:ps.take j=ps:=by rw[show j=ps.length by omega,List.take_length]
   have Ar:=HR.out;rw[vo]at Ar;have z3:decide ((4096:Int)<(m:Int))=false:=decide_eq_false (by omega);have L6:=oE (n:=m) Ar.2.own;have HB:=sh Ar.2.below;clear Ar fP vo;go_wp2_with fail
   go_ret2
   exact⟨rfl,HB.out⟩
theorem xp{w:AI}(n k0 v:ByteArray)(h1:n.size<=120)(h2:k0.size<=120)(hv:v.size<=4000):
  Calls prog 95 #[.agg #[.string n,.string k0,.string v]] w (fun e w'=>e= .returned (.string (aR ⟨n,k0,v⟩))/\No w.heap.size w w'):=by
 obtain⟨i0,hi,ef,dK,dY⟩:=aco Bn;have ht2:=Oo h1 h2;have fF:=N8 (w.alloc (.cells #[.string n,.string k0,.string v] 143)) (.string n) (.string k0);rw[show (w.alloc (.cells #[.string n,.string k0,.string v] 143)).heap.size=w.heap.size+1 from by simp]at fF;have HT:=sh (Fa (c:=2) (ps:=[n,k0]) fF (by simp) (by omega));have kR:=sh (((IN w.heap.size w).alloc (AS _) (.cells #[.string n,.string k0,.string v] 143)).alloc (by simp) (.cells #[.string n,.string k0] 9));have T1:=sh ((Bk.new w 143 #[.string n,.string k0,.string v]).alloc (.cells #[.string n,.string k0] 9));obtain⟨a,ha⟩:∃a:ByteArray,a=⟨(bq [n,k0]).toArray⟩:=⟨_,rfl⟩;have has:a.size=(bq [n,k0]).length:=by rw[ha];simp[aek]
 rw[<-ha]at HT;have pN:=sh (show aR ⟨n,k0,v⟩=if (bq [n,k0,v]).length<=4096 then ⟨(bq [n,k0,v]).toArray⟩else a++v by
  unfold aR JN;rw[if_pos (show (bq [n,k0]).length<=4096 by omega),<-ha])
 have OL:=sh (show (bq [n,k0,v]).length=a.size+(ec v.data.toList).length+2 by rw[has];simp[bq];omega);obtain⟨s3,oo⟩:∃s3:ByteArray,s3=⟨(ec v.data.toList++[0,1]).toArray⟩:=⟨_,rfl⟩;have Se:=sh oo;have alT:s3.size=(ec v.data.toList).length+2:=by rw[oo];simp[aek]
 have IW:v.data.toList.length=v.size:=ack;have hle:=(pX v.data.toList).2;have ac2:=sh (show (⟨(bq [n,k0,v]).toArray⟩:ByteArray)=a++s3 by
  rw[ha,oo];apply ByteArray.ext;simp[bq])
 have qq:a.size+v.size<=abi:=by unfold abi;omega
 have Bl:a.size+s3.size<=abi:=by unfold abi;omega
 have haz:a.size<=484:=by omega
 clear ha has oo h1 h2 fF;go_enter func95,ntmps95
 go_wp2_with fail
 refine HT.out.mono ?_;rintro e w2 ⟨rfl,az⟩;have bz:=sh (kR.out.trans (az.mono (by simp;omega)));have bO:Bk w2 w.heap.size 143 #[.string n,.string k0,.string v]:=af T1.out az;have Dh:=sh (bO.cell 2);have jt:=bO.lt;have fP:=sh (show Bg w2 (.slice (some ⟨w2.heap.size,0,none⟩) 0 0) [] (w2.alloc (.cells #[] 5)) from ⟨adD w2 #[] 0 (AS _) (by unfold abi;omega) rfl,(IN _ w2).alloc (AS _) _⟩);clear az bO;go_wp2_with fail
 go_loopw [5,6] (fun ov kv wr=>∃(k m g' c':Nat),kv= .int .i64 k/\k<=v.size/\ov= .slice (some ⟨g',0,none⟩) m c'/\m<=8000/\Hid (m=(ec (v.data.toList.take k)).length/\Bg w2 (.slice (some ⟨g',0,none⟩) m c') (ec (v.data.toList.take k)) wr)) (fun _ kv _=>v.size-(intOf kv).toNat)
 case atStart=>exact⟨0,0,_,_,rfl,abc _,rfl,by omega,sh ⟨rfl,fP.out⟩⟩
 case round=>
  obtain⟨k,m,g',c',rfl,hk,rfl,hm,HQ⟩:=hrel;have p1:=(acq (a:=⟨w.heap.size,2,none⟩) (HQ.out.2.below.block w.heap.size jt)).trans Dh.out;have l1:w.heap.size<wr.heap.size:=aaf jt HQ.out.2.below.size;by_cases gT:k<v.size
  ·have z2: decide ((k:Int)<(v.size:Int))=true:=decide_eq_true (by omega)
   have PA:=sh (jY v k gT);have AG:=qP v.data.toList (k+1);have RS:=sh (show ec (v.data.toList.take (k+1))=ec (v.data.toList.take k)++ec [v[k]]by rw[PA.out,nF]);have iw:m+(ec [v[k]]).length<=8000:=by
    have h1:=HQ.out.1;rw[RS.out,BY]at AG;omega
   clear AG;by_cases hz:v[k]=0
   ·have hxv:(v[k].toNat:Int)=0:=by rw[hz];rfl
    have MS:m+2<=8000:=by rw[hz]at iw;exact iw
    have xN:=sh (show ec (v.data.toList.take (k+1))=(ec (v.data.toList.take k)++[0])++[255]by rw[RS.out,hz];simp[ec]);clear iw hz fP;go_wp2_with (first
     | (at_builtin;refine aD _ rfl (.tmp 24) (.tmp 29) 36 rfl w2.heap.size 5 i0 _ 1 1 underlying36 hi ef dK dY rfl (by omega) (.slice (some ⟨g',0,none⟩) (m) c') (m) (kX (ec (v.data.toList.take k))) rfl (HQ.out.2.bJ HQ.out.1 _) (some ⟨wr.heap.size,0,none⟩) 1 1 [.int .u8 0] rfl rfl (fun hh=>by cases hh) (fun ad eo=>by
        injection eo with eo;subst eo;exact abV (cs:= #[.int .u8 0]) (acb wr _)) (by simp[acA]) (by unfold abi;omega) (by omega) (by have:=HQ.out.2.below.size;simp;omega) ?_;intro A3 c3 w3 aw aF;obtain⟨g3,rfl⟩:=cO aw (by omega);have dN:=sh (HQ.out.2.next HQ.out.1 (l':=(ec (v.data.toList.take k))++[0]) (x:=[0]) (q:=1) rfl rfl aw aF);have p3:=(acq (a:=⟨w.heap.size,2,none⟩) (dN.out.2.below.block w.heap.size jt)).trans Dh.out;have l3:w.heap.size<w3.heap.size:=aaf jt dN.out.2.below.size;clear aw aF)
     | (at_builtin;refine aD _ rfl (.tmp 36) (.tmp 37) 36 rfl w2.heap.size 5 i0 _ 1 1 underlying36 hi ef dK dY rfl (by omega) (.slice (some ⟨g3,0,none⟩) (m+1) c3) (m+1) (kX ((ec (v.data.toList.take k))++[0])) rfl (dN.out.2.bJ dN.out.1 _) (some ⟨w3.heap.size,0,none⟩) 1 1 [.int .u8 255] rfl rfl (fun hh=>by cases hh) (fun ad eo=>by
        injection eo with eo;subst eo;exact abV (cs:= #[.int .u8 255]) (acb w3 _)) (by simp[acA]) (by unfold abi;omega) (by omega) (by have:=dN.out.2.below.size;simp;omega) ?_;intro A4 c4 w4 bM cd;obtain⟨g4,rfl⟩:=cO bM (by omega);have G7:=sh (dN.out.2.next dN.out.1 (l':=((ec (v.data.toList.take k))++[0])++[255]) (x:=[255]) (q:=1) rfl rfl bM cd);clear bM cd)
     | fail)
    go_roundw
    case rel=>exact⟨k+1,m+1+1,g4,c4,by go_num,by omega,rfl,by omega,by rw[xN.out];exact G7⟩
    case measure=>simp[intOf];omega
   ·have We:((v[k].toNat:Int)==0)=false:=by
     rw[beq_eq_false_iff_ne];intro e;have h9:v[k].toNat=0:=by omega
     exact hz (by rw[<-UInt8.toNat_inj,h9];rfl)
    have MS:m+1<=8000:=by rw[sr,if_neg hz]at iw;exact iw
    have xN:=sh (show ec (v.data.toList.take (k+1))=ec (v.data.toList.take k)++[v[k]]by rw[RS.out,sr,if_neg hz]);clear iw hz fP;go_wp2_with (first
     | (at_builtin;refine aD _ rfl (.tmp 24) (.tmp 29) 36 rfl w2.heap.size 5 i0 _ 1 1 underlying36 hi ef dK dY rfl (by omega) (.slice (some ⟨g',0,none⟩) (m) c') (m) (kX (ec (v.data.toList.take k))) rfl (HQ.out.2.bJ HQ.out.1 _) (some ⟨wr.heap.size,0,none⟩) 1 1 [.int .u8 (v[k].toNat:Nat)] rfl rfl (fun hh=>by cases hh) (fun ad eo=>by
        injection eo with eo;subst eo;exact abV (cs:= #[.int .u8 (v[k].toNat:Nat)]) (acb wr _)) (by simp[acA]) (by unfold abi;omega) (by omega) (by have:=HQ.out.2.below.size;simp;omega) ?_;intro A3 c3 w3 aw aF;obtain⟨g3,rfl⟩:=cO aw (by omega);have dN:=sh (HQ.out.2.next HQ.out.1 (l':=(ec (v.data.toList.take k))++[v[k]]) (x:=[v[k]]) (q:=1) rfl rfl aw aF);have p3:=(acq (a:=⟨w.heap.size,2,none⟩) (dN.out.2.below.block w.heap.size jt)).trans Dh.out;have l3:w.heap.size<w3.heap.size:=aaf jt dN.out.2.below.size;clear aw aF)
     | fail)
    go_roundw
    case rel=>exact⟨k+1,m+1,g3,c3,by go_num,by omega,rfl,by omega,by rw[xN.out];exact dN⟩
    case measure=>simp[intOf];omega
  ·have z2: decide ((k:Int)<(v.size:Int))=false:=decide_eq_false (by omega)
   have Vv:v.data.toList.take k=v.data.toList:=abI (by omega);rw[Vv]at HQ;have hmq:m=(ec v.data.toList).length:=HQ.out.1;clear Vv fP;by_cases hf:(bq [n,k0,v]).length<=4096
   ·have z3:decide ((4096:Int)<(a.size:Int)+((m+2:Nat):Int))=false:=decide_eq_false (by have:=OL.out;omega)
    have z3b:decide ((4096:Int)<(a.size:Int)+((m:Int)+2))=false:=decide_eq_false (by have:=OL.out;omega);have HR:=sh (show aR ⟨n,k0,v⟩=a++s3 by rw[pN.out,if_pos hf,ac2.out]);clear hf hmq;go_wp2_with (first
     | (at_builtin;refine aD _ rfl (.tmp 39) (.tmp 40) 36 rfl w2.heap.size 5 i0 _ 1 1 underlying36 hi ef dK dY rfl (by omega) (.slice (some ⟨g',0,none⟩) (m) c') (m) (kX (ec v.data.toList)) rfl (HQ.out.2.bJ HQ.out.1 _) (some ⟨wr.heap.size,0,none⟩) 2 2 [.int .u8 0,.int .u8 1] rfl rfl (fun hh=>by cases hh) (fun ad eo=>by
        injection eo with eo;subst eo;exact abV (cs:= #[.int .u8 0,.int .u8 1]) (acb wr _)) (by simp[acA]) (by unfold abi;omega) (by omega) (by have:=HQ.out.2.below.size;simp;omega) ?_;intro A3 c3 w3 aw aF;obtain⟨g3,rfl⟩:=cO aw (by omega);have dN:=sh (HQ.out.2.next HQ.out.1 (l':=(ec v.data.toList)++[0,1]) (x:=[0,1]) (q:=2) rfl rfl aw aF);have p3:=(acq (a:=⟨w.heap.size,2,none⟩) (dN.out.2.below.block w.heap.size jt)).trans Dh.out;have l3:w.heap.size<w3.heap.size:=aaf jt dN.out.2.below.size;have L6:=oE (n:=m+2) (L:=ec v.data.toList++[0,1]) (by have h9:=dN.out.2.own;exact h9);rw[<-Se.out]at L6;have hzb:(a.size+m+2:Nat)=(bq [n,k0,v]).length:=(by rw[OL.out];have h8:=HQ.out.1;omega);clear aw aF)
     | fail)
    have HFB:=sh (bz.out.trans (dN.out.2.below.mono bz.out.size));go_ret
    exact⟨by rw[HR.out];rfl,HFB.out⟩
   ·have z3:decide ((4096:Int)<(a.size:Int)+((m+2:Nat):Int))=true:=decide_eq_true (by have:=OL.out;omega)
    have z3b:decide ((4096:Int)<(a.size:Int)+((m:Int)+2))=true:=decide_eq_true (by have:=OL.out;omega);have HR:=sh (show aR ⟨n,k0,v⟩=a++v by rw[pN.out,if_neg hf]);clear hf hmq;go_wp2_with (first
     | (at_builtin;refine aD _ rfl (.tmp 39) (.tmp 40) 36 rfl w2.heap.size 5 i0 _ 1 1 underlying36 hi ef dK dY rfl (by omega) (.slice (some ⟨g',0,none⟩) (m) c') (m) (kX (ec v.data.toList)) rfl (HQ.out.2.bJ HQ.out.1 _) (some ⟨wr.heap.size,0,none⟩) 2 2 [.int .u8 0,.int .u8 1] rfl rfl (fun hh=>by cases hh) (fun ad eo=>by
        injection eo with eo;subst eo;exact abV (cs:= #[.int .u8 0,.int .u8 1]) (acb wr _)) (by simp[acA]) (by unfold abi;omega) (by omega) (by have:=HQ.out.2.below.size;simp;omega) ?_;intro A3 c3 w3 aw aF;obtain⟨g3,rfl⟩:=cO aw (by omega);have dN:=sh (HQ.out.2.next HQ.out.1 (l':=(ec v.data.toList)++[0,1]) (x:=[0,1]) (q:=2) rfl rfl aw aF);have p3:=(acq (a:=⟨w.heap.size,2,none⟩) (dN.out.2.below.block w.heap.size jt)).trans Dh.out;have l3:w.heap.size<w3.heap.size:=aaf jt dN.out.2.below.size;have L6:=oE (n:=m+2) (L:=ec v.data.toList++[0,1]) (by have h9:=dN.out.2.own;exact h9);rw[<-Se.out]at L6;have hzb:(a.size+m+2:Nat)=(bq [n,k0,v]).length:=(by rw[OL.out];have h8:=HQ.out.1;omega);clear aw aF)
     | fail)
    have HFB:=sh (bz.out.trans (dN.out.2.below.mono bz.out.size));go_ret
    exact⟨by rw[HR.out];rfl,HFB.out⟩
def PE (l:List Tl3):Prop:=∀r∈l,r.name.size<=120/\r.key.size<=120/\r.val.size<=4000
theorem E9{w:AI}{B:Nat}{A:Option Addr}{n c:Nat}{l:List Tl3}(h:eD w B (.slice A n c) l)(hl:l.length<=10000)(hs:PE l):
  Calls prog 40 #[.slice A n c] w (fun e w'=>e= .returned (.int .u32 (nZ l:Nat))/\No w.heap.size w w'):=by
 obtain rfl:=h.len;have HP:=sh h;have HS:=sh hs;clear h hs;go_enter func40,ntmps40
 go_wp2_with fail
 go_loopw [3,4] (fun sv iv wr=>∃(j q:Nat),iv= .int .i64 j/\j<=l.length/\sv= .int .u32 q/\Hid (q=nZ (l.take j)/\No w.heap.size w wr)) (fun _ iv _=>l.length-(intOf iv).toNat)
 case atStart=>exact⟨0,0,rfl,abc _,rfl,sh ⟨rfl,IN _ _⟩⟩
 case round=>
  obtain⟨j,q,rfl,hj,rfl,HR⟩:=hrel;by_cases aI:j<l.length
  ·have z1:decide ((j:Int)<(l.length:Int))=true:=decide_eq_true (by omega)
   obtain⟨g,rfl,lg,q0,q1,q2⟩:=(HP.out.below HR.out.2).at j aI;obtain⟨t,ht⟩:∃t,t=l[j]:=⟨_,rfl⟩;have hf:=HS.out t (by rw[ht];exact abw aI);have HT:=sh fun(W:AI)=>xp (w:=W) t.name t.key t.val hf.1 hf.2.1 hf.2.2;have IV:(⟨t.name,t.key,t.val⟩:Tl3)=t:=rfl;have cZ:=um t hf.2.2;obtain⟨s,hs⟩:∃s,s=aR t:=⟨_,rfl⟩;rw[IV,<-hs]at HT;have hq:q<4294967296:=by rw[HR.out.1];exact GN _
   have HO:=sh fun(W:AI)=>yO q hq s W (by rw[hs];unfold abi;omega);obtain⟨q2',IP⟩:∃q2',q2'=Crc.on q s.data.toList:=⟨_,rfl⟩;rw[<-IP]at HO;have HN:=sh (show q2'=nZ (l.take (j+1))by rw[aaT aI,qE,<-HR.out.1,<-ht,<-hs,IP]);rw[<-ht]at q0 q1 q2;obtain⟨tn,ri⟩:∃x,x=t.name:=⟨_,rfl⟩;obtain⟨tk,ey⟩:∃x,x=t.key:=⟨_,rfl⟩;obtain⟨tv,MK⟩:∃x,x=t.val:=⟨_,rfl⟩;rw[<-ri]at HT q0;rw[<-ey]at HT q1;rw[<-MK]at HT q2;have J3:=sh HR.out.2;clear ht hf IV cZ hs hq IP ri ey MK HR;go_wp2_with fail
   refine(HT.out _).mono ?_;rintro e w3 ⟨rfl,aQ⟩;have dt:=sh (J3.out.trans (aQ.mono J3.out.size));clear aQ;go_wp2_with fail
   refine(HO.out _).mono ?_;rintro e w4 ⟨rfl,rfl⟩;go_wp2_with fail
   go_roundw
   case rel=>exact⟨j+1,q2',by go_num,by omega,rfl,sh ⟨HN.out,dt.out⟩⟩
   case measure=>simp[intOf];omega
  ·have z1:decide ((j:Int)<(l.length:Int))=false:=decide_eq_false (by omega)
   have HE:=sh (show q=nZ l/\No w.heap.size w wr by
    have h9:=HR.out;rw[abI (by omega)]at h9;exact h9)
   clear HR;go_wp2_with fail
   go_ret
   exact⟨by rw[HE.out.1];rfl,HE.out.2⟩
def jX (l:List ByteArray):List IS:=l.map fun n=> .string n
def namesTo (l:List Tl3):Nat->List ByteArray
 | 0=>[]
 | j+1=>match l[j]? with
  | none=>namesTo l j
  | some r=>if j=0 then [r.name]else if (l[j-1]?.map (·.name))=some r.name then namesTo l j else namesTo l j++[r.name]
theorem ry(l:List Tl3):∀j,(namesTo l j).length<=j
 | 0=>AS _
 | j+1=>by
  have:=ry l j;unfold namesTo;split
  ·omega
  ·split
   ·simp
   ·split
    ·omega
    ·rw[BY];simp;omega
theorem wS:(prog.info? 9).map (fun i=>(i.zero,i.size,i.bytes))=some (some (.string ByteArray.empty),1,16):=by kernel_rfl
structure Sg (w:AI) (v:IS) (l:List ByteArray) (wr:AI):Prop where
 own:wr.ownsRow w.heap.size 9 1 v l.length (jX l)
 below:No w.heap.size w wr
theorem Sg.bJ{w wr:AI}{m:Nat}{v:IS}{l:List ByteArray}(h:Sg w v l wr)(hm:m=l.length)(o:Obj):(wr.alloc o).ownsRow w.heap.size 9 1 v m (jX l):=by
 subst hm;exact(ah.ae ((IN _ wr).alloc (AS _) o) []).own h.own (by simp)
theorem Sg.under{w wr wq:AI}{v:IS}{l:List ByteArray}(h:Sg w v l wr)(hb:No wr.heap.size wr wq):Sg w v l wq:=⟨(ah.ae hb []).own h.own (by simp),h.below.trans (hb.mono h.below.size)⟩
theorem Sg.next{w wr w2:AI}{A A2:Option Addr}{m c c2:Nat}{l l':List ByteArray}{x:ByteArray}{o:Obj}(h:Sg w (.slice A m c) l wr)(hm:m=l.length)(hl:l'=l++[x])(ho:w2.ownsRow w.heap.size 9 1 (.slice A2 (m+1) c2) (m+1) (jX l++[.string x]))(hg:(wr.alloc o).grownBy w2 (acf A m c).ownBlock):m+1=l'.length/\Sg w (.slice A2 (m+1) c2) l' w2:=by
 subst hm hl;refine⟨by simp,?_,?_⟩
 ·unfold jX
  rw[abH,BY];exact ho
 ·exact((ah.ae (h.below.alloc h.below.size o) []).grown hg (fun g hg=> .inr (abr h.own g hg).1)).below (AS _) (by simp)
theorem E3{w:AI}{B:Nat}{A:Option Addr}{n c:Nat}{l:List Tl3}(h:eD w B (.slice A n c) l)(hl:l.length<=10000):
  Calls prog 32 #[.slice A n c] w (fun e w'=>∃g c':Nat,e= .returned (.slice (some ⟨g,0,none⟩) (namesTo l l.length).length c')/\Sg w (.slice (some ⟨g,0,none⟩) (namesTo l l.length).length c') (namesTo l l.length) w'):=by
 obtain rfl:=h.len;obtain⟨i0,hi,ef,dK,dY⟩:=aco wS;have HP:=sh h;clear h;have fP:=sh (show Sg w (.slice (some ⟨w.heap.size,0,none⟩) 0 0) (namesTo l 0) (w.alloc (.cells #[] 9)) from ⟨adD w #[] 0 (AS _) (by unfold abi;omega) rfl,(IN _ w).alloc (AS _) _⟩);go_enter func32,ntmps32
 go_wp2_with fail
 go_loopw [3,4] (fun ov iv wr=>∃(j m g':Nat) (c':Nat),iv= .int .i64 j/\j<=l.length/\ov= .slice (some ⟨g',0,none⟩) m c'/\m<=j/\Hid (m=(namesTo l j).length/\Sg w (.slice (some ⟨g',0,none⟩) m c') (namesTo l j) wr)) (fun _ iv _=>l.length-(intOf iv).toNat)
 case atStart=>exact⟨0,0,_,_,rfl,abc _,rfl,AS _,sh ⟨rfl,fP.out⟩⟩
 case round=>
  obtain⟨j,m,g',c',rfl,hj,rfl,hm,HR⟩:=hrel;by_cases aI:j<l.length
  ·have z1: decide ((j:Int)<(l.length:Int))=true:=decide_eq_true (by omega)
   obtain⟨g,rfl,lg,q0,-,-⟩:=(HP.out.below HR.out.2.below).at j aI;obtain⟨nm,qj⟩:∃nm,nm=l[j].name:=⟨_,rfl⟩;rw[<-qj]at q0;have AF:l[j]? =some l[j]:=aaG aI;have fj:(((j:Int)==0)=true/\j=0/\namesTo l (j+1)=namesTo l j++[nm])\/(((j:Int)==0)=false/\∃k pn,j=k+1/\(0:Int)<=(j:Int)/\(j:Int)<(l.length:Int)/\wr.cell? ⟨g,k*3,none⟩=some (.string pn)/\(((nm.toList==pn.toList)=true/\namesTo l (j+1)=namesTo l j)\/((nm.toList==pn.toList)=false/\namesTo l (j+1)=namesTo l j++[nm]))):=by
    cases j with
    | zero=>
     refine .inl ⟨rfl,rfl,?_⟩;show (match l[0]? with|none=>_|some r=>_)=_;rw[AF,qj];rfl
    | succ k=>
     obtain⟨g2,e2,-,p0,-,-⟩:=(HP.out.below HR.out.2.below).at k (by omega);cases e2
     refine .inr ⟨by rw[beq_eq_false_iff_ne];omega,k,_,rfl,by omega,by omega,p0,?_⟩;have hgk:l[k]? =some l[k]:=aaG (by omega);have e1:namesTo l (k+1+1)=if l[k].name=nm then namesTo l (k+1)else namesTo l (k+1)++[nm]:=by
      show (match l[k+1]? with|none=>_|some r=>_)=_;rw[AF];simp only[Nat.succ_ne_zero,if_false,Nat.add_sub_cancel,hgk,Option.map_some,acI,qj]
     rw[e1];by_cases he:l[k].name=nm
     ·exact .inl ⟨by rw[he];simp,if_pos he⟩
     ·refine .inr ⟨?_,if_neg he⟩
      rw[beq_eq_false_iff_ne];exact fun e=>he (Nd.gx e).symm
   rcases fj with⟨z2,ID,pI⟩|⟨z2,k,pn,F9,y3,y4,p0,hw⟩
   ·have oc:=sh pI
    clear pI qj AF fP;subst ID;go_wp2_with fail
    go_quiet (fail)
    have zg:=below_drewN (IN wr.heap.size wr) nq;have gM:=sh (show m=(namesTo l (0)).length/\Sg w (.slice (some ⟨g',0,none⟩) m c') (namesTo l (0)) (wr.drewN nq) from ⟨HR.out.1,HR.out.2.under zg⟩);have q9:=(zg.cell (p:=⟨g,(0)*3,none⟩) lg).trans q0;have lg9:g<(wr.drewN nq).heap.size:=aaf lg zg.size;clear zg;generalize wr.drewN nq=W2 at gM q9 lg9 |-;go_wp2_with (first
     | (at_builtin;refine aD _ rfl (.tmp 28) (.tmp 34) 72 rfl w.heap.size 9 i0 _ 1 16 underlying72 hi ef dK dY rfl (by omega) (.slice (some ⟨g',0,none⟩) m c') m (jX (namesTo l (0))) rfl (gM.out.2.bJ gM.out.1 _) (some ⟨W2.heap.size,0,none⟩) 1 1 [.string nm] rfl rfl (fun hh=>by cases hh) (fun ad eo=>by
       injection eo with eo;subst eo;exact abV (cs:= #[.string nm]) (acb W2 _)) (by simp[acA]) (by unfold abi;omega) (by omega) (by have:=gM.out.2.below.size;simp;omega) ?_;intro A2 c2 w2 bf iu;obtain⟨g2,rfl⟩:=cO bf (by omega);have HN:=sh (gM.out.2.next gM.out.1 oc.out bf iu);clear bf iu)
     | fail)
    go_roundw
    case rel=>exact⟨0+1,m+1,g2,c2,by go_num,by omega,rfl,by omega,HN⟩
    case measure=>simp[intOf];omega
   ·have y1:(0:Int)<=(k:Int):=by omega
    have y2:(k:Int)<(l.length:Int):=by omega
    have Mf:(j:Int)-1=(k:Int):=by omega
    have Wd:IntKind.i64.wrap ((j:Int)-1)=(k:Int):=by rw[Mf];exact wrap_i64 _ (by omega)
    have HJK:=sh F9;clear F9;rcases hw with⟨e1,pI⟩|⟨e1,pI⟩
    ·have oc:=sh pI
     clear pI qj AF fP;go_wp2_with fail
     go_quiet (fail)
     have HN:=sh (show m=(namesTo l (j+1)).length/\Sg w (.slice (some ⟨g',0,none⟩) m c') (namesTo l (j+1)) (wr.drewN nq) from by rw[oc.out];exact⟨HR.out.1,HR.out.2.under (below_drewN (IN wr.heap.size wr) nq)⟩);go_wp2_with fail
     go_roundw
     case rel=>exact⟨j+1,m,g',c',by go_num,by omega,rfl,by omega,HN⟩
     case measure=>simp[intOf];omega
    ·have oc:=sh pI
     clear pI qj AF fP;go_wp2_with fail
     go_quiet (fail)
     have zg:=below_drewN (IN wr.heap.size wr) nq;have gM:=sh (show m=(namesTo l j).length/\Sg w (.slice (some ⟨g',0,none⟩) m c') (namesTo l j) (wr.drewN nq) from ⟨HR.out.1,HR.out.2.under zg⟩);have q9:=(zg.cell (p:=⟨g,j*3,none⟩) lg).trans q0;have lg9:g<(wr.drewN nq).heap.size:=aaf lg zg.size;clear zg;generalize wr.drewN nq=W2 at gM q9 lg9 |-;go_wp2_with (first
      | (at_builtin;refine aD _ rfl (.tmp 28) (.tmp 34) 72 rfl w.heap.size 9 i0 _ 1 16 underlying72 hi ef dK dY rfl (by omega) (.slice (some ⟨g',0,none⟩) m c') m (jX (namesTo l j)) rfl (gM.out.2.bJ gM.out.1 _) (some ⟨W2.heap.size,0,none⟩) 1 1 [.string nm] rfl rfl (fun hh=>by cases hh) (fun ad eo=>by
        injection eo with eo;subst eo;exact abV (cs:= #[.string nm]) (acb W2 _)) (by simp[acA]) (by unfold abi;omega) (by omega) (by have:=gM.out.2.below.size;simp;omega) ?_;intro A2 c2 w2 bf iu;obtain⟨g2,rfl⟩:=cO bf (by omega);have HN:=sh (gM.out.2.next gM.out.1 oc.out bf iu);clear bf iu)
      | fail)
     go_roundw
     case rel=>exact⟨j+1,m+1,g2,c2,by go_num,by omega,rfl,by omega,HN⟩
     case measure=>simp[intOf];omega
  ·have z1:decide ((j:Int)<(l.length:Int))=false:=decide_eq_false (by omega)
   obtain rfl:j=l.length:=by omega
   have HE:=sh HR.out;clear HR fP;go_wp2_with fail
   go_ret
   obtain⟨h8,h7⟩:=HE.out;subst h8;exact⟨g',c',rfl,h7⟩
theorem B8{w:AI}{B:Nat}{A:Option Addr}{n c:Nat}{l:List Tl3}{most:Int}(h:eD w B (.slice A n c) l)(hl:l.length<=10000)(hs:PE l):
  Calls prog 39 #[.slice A n c,.int .i64 most] w (fun e w'=>∃g m c':Nat,e= .returned (.slice (some ⟨g,0,none⟩) m c')/\m=((l.take most.toNat).map aR).length/\Sg w (.slice (some ⟨g,0,none⟩) m c') ((l.take most.toNat).map aR) w'):=by
 obtain rfl:=h.len;obtain⟨i0,hi,ef,dK,dY⟩:=aco wS;have HP:=sh h;have HS:=sh hs;clear h hs;have fP:=sh (show Sg w (.slice (some ⟨w.heap.size,0,none⟩) 0 0) ((l.take 0).map aR) (w.alloc (.cells #[] 9)) from ⟨adD w #[] 0 (AS _) (by unfold abi;omega) rfl,(IN _ w).alloc (AS _) _⟩);go_enter func39,ntmps39
 go_wp2_with fail
 go_loopw [5,6] (fun ov iv wr=>∃(j m g':Nat) (c':Nat),iv= .int .i64 j/\j<=l.length/\(j=0\/(j:Int)<=most)/\ov= .slice (some ⟨g',0,none⟩) m c'/\m<=j/\Hid (m=((l.take j).map aR).length/\Sg w (.slice (some ⟨g',0,none⟩) m c') ((l.take j).map aR) wr)) (fun _ iv _=>l.length-(intOf iv).toNat)
 case atStart=>exact⟨0,0,_,_,rfl,abc _,.inl rfl,rfl,AS _,sh ⟨rfl,fP.out⟩⟩
 case round=>
  obtain⟨j,m,g',c',rfl,hj,hjm,rfl,hm,HR⟩:=hrel;by_cases aI:j<l.length
  ·have z1:decide ((j:Int)<(l.length:Int))=true:=decide_eq_true (by omega)
   by_cases hmo:(j:Int)<most
   ·have z2:decide ((j:Int)<most)=true:=decide_eq_true hmo
    obtain⟨g,rfl,lg,q0,q1,q2⟩:=(HP.out.below HR.out.2.below).at j aI;obtain⟨t,ht⟩:∃t,t=l[j]:=⟨_,rfl⟩;have hf:=HS.out t (by rw[ht];exact abw aI);have HT:=sh fun(W:AI)=>xp (w:=W) t.name t.key t.val hf.1 hf.2.1 hf.2.2;have IV:(⟨t.name,t.key,t.val⟩:Tl3)=t:=rfl;obtain⟨s,hs⟩:∃s,s=aR t:=⟨_,rfl⟩;rw[IV,<-hs]at HT;have oc:=sh (show (l.take (j+1)).map aR=(l.take j).map aR++[s]by rw[aaT aI,abH,<-ht,hs];rfl);rw[<-ht]at q0 q1 q2;obtain⟨tn,ri⟩:∃x,x=t.name:=⟨_,rfl⟩;obtain⟨tk,ey⟩:∃x,x=t.key:=⟨_,rfl⟩;obtain⟨tv,MK⟩:∃x,x=t.val:=⟨_,rfl⟩;rw[<-ri]at HT q0;rw[<-ey]at HT q1;rw[<-MK]at HT q2;clear ht hf IV hs ri ey MK fP;go_wp2_with fail
    refine(HT.out _).mono ?_;rintro e w3 ⟨rfl,aQ⟩;have gM:=sh (show m=((l.take j).map aR).length/\Sg w (.slice (some ⟨g',0,none⟩) m c') ((l.take j).map aR) w3 from ⟨HR.out.1,HR.out.2.under aQ⟩);clear aQ;go_wp2_with (first
     | (at_builtin;refine aD _ rfl (.tmp 19) (.tmp 25) 72 rfl w.heap.size 9 i0 _ 1 16 underlying72 hi ef dK dY rfl (by omega) (.slice (some ⟨g',0,none⟩) m c') m (jX ((l.take j).map aR)) rfl (gM.out.2.bJ gM.out.1 _) (some ⟨w3.heap.size,0,none⟩) 1 1 [.string s] rfl rfl (fun hh=>by cases hh) (fun ad eo=>by
       injection eo with eo;subst eo;exact abV (cs:= #[.string s]) (acb w3 _)) (by simp[acA]) (by unfold abi;omega) (by omega) (by have:=gM.out.2.below.size;simp;omega) ?_;intro A2 c2 w2 bf iu;obtain⟨g2,rfl⟩:=cO bf (by omega);have HN:=sh (gM.out.2.next gM.out.1 oc.out bf iu);clear bf iu)
     | fail)
    go_roundw
    case rel=>exact⟨j+1,m+1,g2,c2,by go_num,by omega,by omega,rfl,by omega,HN⟩
    case measure=>simp[intOf];omega
   ·have z2:decide ((j:Int)<most)=false:=decide_eq_false hmo
    have HE:=sh (show m=((l.take most.toNat).map aR).length/\Sg w (.slice (some ⟨g',0,none⟩) m c') ((l.take most.toNat).map aR) wr by
     rw[show most.toNat=j by omega];exact HR.out)
    clear HR fP;go_wp2_with fail
    go_ret
    exact⟨_,_,_,rfl,by have h9:=HE.out.1;simpa using h9,by first|exact HE.out.2|(rw[<-List.map_take];exact HE.out.2)⟩
  ·have z1:decide ((j:Int)<(l.length:Int))=false:=decide_eq_false (by omega)
   have HE:=sh (show m=((l.take most.toNat).map aR).length/\Sg w (.slice (some ⟨g',0,none⟩) m c') ((l.take most.toNat).map aR) wr by
    have e:l.take most.toNat=l.take j:=by
     rcases hjm with rfl|h9
     ·have:l=[]:=abZ (by omega)
      rw[this];simp
     ·rw[abI (by omega),abI (by omega)]
    rw[e];exact HR.out)
   clear HR fP;go_wp2_with fail
   go_ret
   exact⟨_,_,_,rfl,by have h9:=HE.out.1;simpa using h9,by first|exact HE.out.2|(rw[<-List.map_take];exact HE.out.2)⟩
def eE:ByteArray:=⟨#[97,0]⟩
def eI:ByteArray:=⟨#[98]⟩
theorem ej:eE≠eI:=by decide
theorem zF:eg eE:=⟨by decide,by decide⟩
theorem zG:eg eI:=⟨by decide,by decide⟩
namespace Tr
theorem xi(key:ByteArray):∀(b:List En),((rest key b).flatMap (·.aa)).length<=(b.flatMap (·.aa)).length
 | []=>AS _
 | y::t=>by
  simp only[rest];split
  ·rw[abL,BY];omega
  ·exact AS _
theorem LC(key:ByteArray)(L:List En):(eL key L).Sublist L:=by
 obtain⟨a,b,rfl,h1,h2⟩:=bj key L;rw[de a b key h1 h2];exact(agx a).append (ui key b)
theorem Jr(key:ByteArray)(y:En)(L:List En):((dL key y L).flatMap (·.aa)).length<=(L.flatMap (·.aa)).length+y.aa.length:=by
 obtain⟨a,b,rfl,h1,h2⟩:=bj key L;rw[et a b key y h1 h2];have h3:=xi key b;simp only[aeD,BY,abL,List.flatMap_nil,List.append_nil];omega
theorem Hu(key:ByteArray)(L:List En):((eL key L).flatMap (·.aa)).length<=(L.flatMap (·.aa)).length:=by
 obtain⟨a,b,rfl,h1,h2⟩:=bj key L;rw[de a b key h1 h2];have h3:=xi key b;simp only[aeD,BY];omega
theorem Ht{key:ByteArray}{L:List En}(hr:bB L)(h:∃x∈L,x.cell.key=key):(eL key L).length+1<=L.length:=by
 obtain⟨x,hx,hk⟩:=h;have h1:=jd (((eL key L).map (·.cell.key))++[key]) (L.map (·.cell.key)) (by
  rw[List.nodup_append];refine⟨l9 (afh (LC key L) hr),by simp,fun a ha b hb e=> ?_⟩;rw[By]at hb;subst hb e;obtain⟨y,hy,QZ⟩:=abO.1 ha;exact((oF hr y).1 hy).2 QZ) (fun k CV=>by
  rcases AT.1 CV with CV|CV
  ·obtain⟨y,hy,rfl⟩:=abO.1 CV
   exact abR ((oF hr y).1 hy).1
  ·rw[By]at CV
   subst CV;rw[<-hk];exact abR hx)
 simpa using h1
end Tr
namespace Forest
def size (F:Forest):Nat:=(F.tr eE).L.length+(F.tr eI).L.length
def mj (F:Forest):Nat:=((F.tr eE).L.flatMap (·.aa)).length+((F.tr eI).L.flatMap (·.aa)).length
def Dt (F:Forest):Prop:=∀n∈F.NS,n=eE\/n=eI
theorem Dt.len{F:Forest}{σ :ag}(h:F.Dt)(ho:F.Ok σ):F.NS.length<=2:=by
 have:=jd F.NS [eE,eI] ho.nd (fun n hn=>by simpa using h n hn);simpa using this
theorem Qf(tr:ByteArray->Tn):∀(l:List ByteArray),l.Nodup->(∀n∈l,n=eE\/n=eI)->(flat tr l).length<=(tr eE).P.length+(tr eI).P.length
 | [],_,_=>by simp[flat]
 | [a],_,h=>by
  rcases h a (by simp)with rfl|rfl<;>simp[flat]
 | [a,b],hn,h=>by
  have oL:a≠b:=by
   intro e;subst e;simp at hn
  rcases h a (by simp)with rfl|rfl<;>rcases h b (by simp)with rfl|rfl
  ·exact absurd rfl oL
  ·simp[flat]
  ·simp[flat];omega
  ·exact absurd rfl oL
 | a::b::c::t,hn,h=>by
  have:=jd (a::b::c::t) [eE,eI] hn (fun n hn=>by simpa using h n hn);simp at this
theorem Dt.aa{F:Forest}{σ :ag}(h:F.Dt)(ho:F.Ok σ):F.aa.length<=1+2*F.size+F.mj:=by
 unfold Forest.aa;rw[BY];have h1:=(ho.BC (h.len ho)).1;have h2:=Qf F.tr F.NS ho.nd h;have h3:=(ho.each eE).size;have h4:=(ho.each eI).size;unfold size mj;omega
theorem ud(F:Forest)(n:ByteArray)(t:Tn)(m:ByteArray):(F.put n t).tr m=if m=n then t else F.tr m:=rfl
theorem NK(F:Forest)(n:ByteArray)(t:Tn):(F.put n t).main=F.main:=(F.GV n).2.2.1
theorem Dt.put{F:Forest}(h:F.Dt){n:ByteArray}(hn:n=eE\/n=eI)(t:Tn):(F.put n t).Dt:=by
 intro m hm;have hm:m∈(F.dB n).NS:=hm;unfold dB at hm;split at hm
 ·exact h m hm
 ·rcases List.mem_cons.1 hm with rfl|hm
  ·exact hn
  ·exact h m hm
end Forest
structure Ph (σ :ag) (U:List Nat) (Fo:Forest) (x w:Nat):Prop where
 leaf:∃N:List Nat,N.length<=2*x/\∀name,∀n∈(Fo.tr name).P,Tr.pQ σ n->n∈N\/n∈U
 eH:∃W:List Nat,W.length<=w/\∀name,∀e∈(Fo.tr name).L,∀n∈e.aa,n∈W\/n∈U
 main:∀n∈Fo.main.P,n∈U
theorem Ph.begin{σ :ag}{Fo:Forest}(ho:Fo.Ok σ):Ph σ Fo.aa Fo 0 0:=by
 have dv:∀name,∀n∈(Fo.tr name).P,n∈Fo.aa:=fun name n hn=>by
  have hm:name∈Fo.NS:=by
   by_cases hc:name∈Fo.NS
   ·exact hc
   ·rw[ho.out name hc]at hn;cases hn
  exact AT.2 (.inr (abp.2 ⟨name,hm,hn⟩))
 exact⟨⟨[],by simp,fun name n hn _=> .inr (dv name n hn)⟩,⟨[],by simp,fun name e he n hn=> .inr (dv name n ((ho.each name).inner e he n hn))⟩,fun n hn=>AT.2 (.inl hn)⟩
theorem Ph.ax{σ :ag}{U:List Nat}{Fo:Forest}{x w:Nat}(h:Ph σ U Fo x w)(ho:Fo.Ok σ)(h2:Fo.Dt){dk:List Nat}(hn:dk.Nodup)(hd:∀n∈dk,σ n≠none/\n∉U):dk.length<=2*x+Fo.size+w/\dk.length<=2*Fo.size+w:=by
 obtain⟨N,n1,n2⟩:=h.leaf;obtain⟨W,w1,w2⟩:=h.eH;obtain⟨La,Ba,a1,a2,a3⟩:=(ho.each eE).kinds;obtain⟨Lb,Bb,b1,b2,b3⟩:=(ho.each eI).kinds;have key:∀n∈dk,∃name,(name=eE\/name=eI)/\n∈(Fo.tr name).P/\n∉U:=fun n oh=>by
  obtain⟨g1,g2⟩:=hd n oh;rcases AT.1 (ho.full n g1)with g3|g3
  ·exact absurd (h.main n g3) g2
  ·obtain⟨name,g4,g5⟩:=abp.1 g3
   exact⟨name,h2 name g4,g5,g2⟩
 have e1:=jd dk (Ba++(Bb++(N++W))) hn fun n oh=>by
  obtain⟨name,g1,g2,g3⟩:=key n oh;simp only[AT];rcases g1 with rfl|rfl
  ·rcases a3 n g2 with g|⟨g,-⟩|⟨e,g,g'⟩
   ·exact .inl g
   ·exact .inr (.inr (.inl ((n2 _ n g2 g).resolve_right g3)))
   ·exact .inr (.inr (.inr ((w2 _ e g n g').resolve_right g3)))
  ·rcases b3 n g2 with g|⟨g,-⟩|⟨e,g,g'⟩
   ·exact .inr (.inl g)
   ·exact .inr (.inr (.inl ((n2 _ n g2 g).resolve_right g3)))
   ·exact .inr (.inr (.inr ((w2 _ e g n g').resolve_right g3)))
 have e2:=jd dk (Ba++(Bb++(La++(Lb++W)))) hn fun n oh=>by
  obtain⟨name,g1,g2,g3⟩:=key n oh;simp only[AT];rcases g1 with rfl|rfl
  ·rcases a3 n g2 with g|⟨-,g⟩|⟨e,g,g'⟩
   ·exact .inl g
   ·exact .inr (.inr (.inl g))
   ·exact .inr (.inr (.inr (.inr ((w2 _ e g n g').resolve_right g3))))
  ·rcases b3 n g2 with g|⟨-,g⟩|⟨e,g,g'⟩
   ·exact .inr (.inl g)
   ·exact .inr (.inr (.inr (.inl g)))
   ·exact .inr (.inr (.inr (.inr ((w2 _ e g n g').resolve_right g3))))
 simp only[BY]at e1 e2;unfold Forest.size;omega
theorem Ph.put{σ σ':ag}{U:List Nat}{Fo:Forest}{x w:Nat}(h:Ph σ U Fo x w)(ho:Fo.Ok σ){name:ByteArray}{t:Tn}(hm:Tr.aE 2 σ (Fo.tr name).P σ' t.P){Y:List Nat}(hL:∀e∈t.L,(∀n∈e.aa,n∈Y)\/e∈(Fo.tr name).L):Ph σ' U (Fo.put name t) (x+1) (w+Y.length):=by
 obtain⟨N,n1,n2⟩:=h.leaf;obtain⟨W,w1,w2⟩:=h.eH;obtain⟨N',k1,k2⟩:=hm.oG;refine⟨⟨N++N',by rw[BY];omega,fun m n hn hl=> ?_⟩,⟨W++Y,by rw[BY];omega,fun m e he n hn=> ?_⟩,by rw[Forest.NK];exact h.main⟩
 ·rw[Forest.ud]at hn
  split at hn
  ·next e=>
   rcases k2 n hn hl with g|⟨g1,g2⟩
   ·exact .inl (by simp[g])
   ·obtain⟨b,hb⟩:=hl
    exact(n2 _ n g1 ⟨b,g2.symm.trans hb⟩).imp (fun g=>by simp[g]) id
  ·next e=>
   have g1:=ho.apart e hn;have g2:=hm.keep n g1 ((ho.each m).mem n hn).2.2;obtain⟨b,hb⟩:=hl;exact(n2 _ n hn ⟨b,g2.symm.trans hb⟩).imp (fun g=>by simp[g]) id
 ·rw[Forest.ud]at he
  split at he
  ·rcases hL e he with g|g
   ·exact .inl (by simp[g n hn])
   ·exact(w2 _ e g n hn).imp (fun g=>by simp[g]) id
  ·exact(w2 _ e he n hn).imp (fun g=>by simp[g]) id
def cz (n:ByteArray) (L:List En):List Tl3:=L.map fun x=>⟨n,x.cell.key,⟨x.val.toArray⟩⟩
theorem mg(n:ByteArray)(a b:List En):cz n (a++b)=cz n a++cz n b:=abH
theorem fL(n:ByteArray)(a:List En):(cz n a).length=a.length:=List.length_map ..
def Forest.rows (F:Forest):List Tl3:=cz eE (F.tr eE).L++cz eI (F.tr eI).L
theorem Forest.Cd(F:Forest):F.rows.length=F.size:=by unfold Forest.rows Forest.size;rw[BY,fL,fL]
theorem Su:Nd.lt eE eI=true:=by
 unfold Nd.lt eE eI;simp[Op.bytesLess,ByteArray.toList_eq]
theorem Dx:Nd.lt eI eE=false:=Nd.lt_asymm Su
namespace Tr
theorem RB{key:ByteArray}{b:List En}(hr:bB b)(h2:∀y t,b=y::t->Nd.lt y.cell.key key=false):∀x∈rest key b,x.cell.key≠key:=fun x hx e=>by
 have h:=pq hr h2 x hx;rw[e,Nd.lt_irrefl]at h;cases h
end Tr
theorem at_false{n m key k:ByteArray}{v:ByteArray}(h:n≠m\/k≠key):Tl3.at_ m key ⟨n,k,v⟩=false:=by
 unfold Tl3.at_;rcases h with h|h
 ·simp[h]
 ·simp[h]
theorem mz{n m key:ByteArray}(h:n≠m)(L:List En):Tl3.del m key (cz n L)=cz n L:=by
 unfold Tl3.del cz;rw[aeE];intro r hr;obtain⟨x,-,rfl⟩:=abO.1 hr;rw[at_false (.inl h)];rfl
theorem sX{n key:ByteArray}{L:List En}(hr:Tr.bB L):Tl3.del n key (cz n L)=cz n (Tr.eL key L):=by
 obtain⟨a,b,rfl,h1,h2⟩:=Tr.bj key L;obtain⟨r1,r2,r3⟩:=Tr.eZ hr;rw[Tr.de a b key h1 h2];have bL:∀ {c d:ByteArray},Nd.lt c d=true->c≠d:=fun h e=>by subst e;rw[Nd.lt_irrefl]at h;cases h
 have ha:∀x∈a,Tl3.at_ n key ⟨n,x.cell.key,⟨x.val.toArray⟩⟩=false:=fun x hx=>at_false (.inr (bL (h1 x hx)));have hb:∀x∈Tr.rest key b,Tl3.at_ n key ⟨n,x.cell.key,⟨x.val.toArray⟩⟩=false:=fun x hx=>at_false (.inr (Tr.RB r2 h2 x hx));unfold Tl3.del;rw[mg,afe,mg]
 congr 1
 ·rw[aeE]
  intro r hr;obtain⟨x,hx,rfl⟩:=abO.1 hr;rw[ha x hx];rfl
 ·cases b with
  | nil=>rfl
  | cons y t=>
   simp only[Tr.rest]at hb |-;split at hb
   ·next hk=>
    have hk:y.cell.key=key:=Nd.gx (by simpa using hk);rw[if_pos (by rw[hk];simp)];show List.filter _ (⟨n,y.cell.key,⟨y.val.toArray⟩⟩::cz n t)=cz n t;rw[List.filter_cons_of_neg (by simp[Tl3.at_,hk]),aeE];intro r hr;obtain⟨x,hx,rfl⟩:=abO.1 hr;rw[hb x hx];rfl
   ·next hk=>
    rw[if_neg hk,aeE];intro r hr;obtain⟨x,hx,rfl⟩:=abO.1 hr;rw[hb x hx];rfl
theorem wY{n k k' v v':ByteArray}:Tl3.less ⟨n,k,v⟩ ⟨n,k',v'⟩=Nd.lt k k':=by
 unfold Tl3.less;simp[Nd.lt_irrefl]
theorem tR{n m k k' v v':ByteArray}(h:n≠m):Tl3.less ⟨n,k,v⟩ ⟨m,k',v'⟩=Nd.lt n m:=by
 unfold Tl3.less;simp[h]
theorem NQ{F:Forest}{name key:ByteArray}(hn:name=eE\/name=eI)(hr:∀n,Tr.bB (F.tr n).L):cz eE (if eE=name then Tr.eL key (F.tr eE).L else (F.tr eE).L)++cz eI (if eI=name then Tr.eL key (F.tr eI).L else (F.tr eI).L)=Tl3.del name key F.rows:=by
 unfold Forest.rows;have e:Tl3.del name key (cz eE (F.tr eE).L++cz eI (F.tr eI).L)=Tl3.del name key (cz eE (F.tr eE).L)++Tl3.del name key (cz eI (F.tr eI).L):=afe ..;rw[e];rcases hn with rfl|rfl
 ·rw[if_pos rfl,if_neg (fun e=>ej e.symm),sX (hr _),mz (fun e=>ej e.symm)]
 ·rw[if_pos rfl,if_neg ej,sX (hr _),mz ej]
theorem BZ{n key:ByteArray}{L:List En}{y:En}(hk:y.cell.key=key)(hr:Tr.bB L)(A B:List Tl3)(hA:∀r∈A,Tl3.less r ⟨n,key,⟨y.val.toArray⟩⟩=true)(hB:∀r∈B,Tl3.less r ⟨n,key,⟨y.val.toArray⟩⟩=false)(hdA:Tl3.del n key A=A)(hdB:Tl3.del n key B=B):
  Tl3.put ⟨n,key,⟨y.val.toArray⟩⟩ (A++(cz n L++B))=A++(cz n (Tr.dL key y L)++B):=by
 have e:Tl3.del n key (A++(cz n L++B))=A++(cz n (Tr.eL key L)++B):=by
  have e1:Tl3.del n key (A++(cz n L++B))=Tl3.del n key A++(Tl3.del n key (cz n L)++Tl3.del n key B):=by
   unfold Tl3.del;rw[afe,afe]
  rw[e1,hdA,hdB,sX hr]
 unfold Tl3.put;simp only[e];obtain⟨a,b,rfl,h1,h2⟩:=Tr.bj key L;obtain⟨r1,r2,r3⟩:=Tr.eZ hr;rw[Tr.de a b key h1 h2,Tr.et a b key y h1 h2];have hg:=Tr.pq r2 h2;have e2:A++(cz n (a++Tr.rest key b)++B)=(A++cz n a)++(cz n (Tr.rest key b)++B):=by rw[mg];simp
 obtain⟨s1,s2⟩:=Tl3.uv (p:=fun r=>Tl3.less r ⟨n,key,⟨y.val.toArray⟩⟩) (A++cz n a) (cz n (Tr.rest key b)++B) (fun r hr=>by
  rcases AT.1 hr with hr|hr
  ·exact hA r hr
  ·obtain⟨x,hx,rfl⟩:=abO.1 hr
   show Tl3.less _ _=true;rw[wY];exact h1 x hx) (fun z t hz=>by
  cases hc:Tr.rest key b with
  | nil=>
   rw[hc]at hz;exact hB z (by rw[show cz n ([]:List En)++B=B from rfl]at hz;rw[hz];simp)
  | cons x u=>
   rw[hc]at hz;injection hz with qq Bl;rw[<-qq,wY];exact Nd.lt_asymm (hg x (by rw[hc];simp)))
 rw[e2,s1,s2,mg,mg];have e3:cz n [y]=[⟨n,key,⟨y.val.toArray⟩⟩]:=by unfold cz;rw[List.map_cons,hk];rfl
 rw[e3];simp
theorem NT{F:Forest}{name key:ByteArray}{y:En}(hk:y.cell.key=key)(hn:name=eE\/name=eI)(hr:∀n,Tr.bB (F.tr n).L):cz eE (if eE=name then Tr.dL key y (F.tr eE).L else (F.tr eE).L)++cz eI (if eI=name then Tr.dL key y (F.tr eI).L else (F.tr eI).L)=Tl3.put ⟨name,key,⟨y.val.toArray⟩⟩ F.rows:=by
 unfold Forest.rows;rcases hn with rfl|rfl
 ·rw[if_pos rfl,if_neg (fun e=>ej e.symm)]
  have h:=BZ (n:=eE) hk (hr eE) [] (cz eI (F.tr eI).L) (by simp) (fun r hr=>by
   obtain⟨x,hx,rfl⟩:=abO.1 hr;show Tl3.less _ _=false;rw[tR (fun e=>ej e.symm)];exact Dx) rfl (mz (fun e=>ej e.symm) _)
  simpa using h.symm
 ·rw[if_pos rfl,if_neg ej]
  have h:=BZ (n:=eI) hk (hr eI) (cz eE (F.tr eE).L) [] (fun r hr=>by
   obtain⟨x,hx,rfl⟩:=abO.1 hr;show Tl3.less _ _=true;rw[tR ej];exact Su) (by simp) (mz ej _) rfl
  simpa using h.symm
theorem Forest.Jw{F:Forest}{name key:ByteArray}{y:En}{t:Tn}(hk:y.cell.key=key)(hn:name=eE\/name=eI)(hr:∀n,Tr.bB (F.tr n).L)(ht:t.L=Tr.dL key y (F.tr name).L):(F.put name t).rows=Tl3.put ⟨name,key,⟨y.val.toArray⟩⟩ F.rows:=by
 rw[<-NT hk hn hr];unfold Forest.rows;simp only[Forest.ud];rcases hn with rfl|rfl
 ·rw[if_pos rfl,if_neg (fun e=>ej e.symm),if_pos rfl,if_neg (fun e=>ej e.symm),ht]
 ·rw[if_pos rfl,if_neg ej,if_pos rfl,if_neg ej,ht]
theorem Forest.Jv{F:Forest}{name key:ByteArray}{t:Tn}(hn:name=eE\/name=eI)(hr:∀n,Tr.bB (F.tr n).L)(ht:t.L=Tr.eL key (F.tr name).L):(F.put name t).rows=Tl3.del name key F.rows:=by
 rw[<-NQ hn hr];unfold Forest.rows;simp only[Forest.ud];rcases hn with rfl|rfl
 ·rw[if_pos rfl,if_neg (fun e=>ej e.symm),if_pos rfl,if_neg (fun e=>ej e.symm),ht]
 ·rw[if_pos rfl,if_neg ej,if_pos rfl,if_neg ej,ht]
theorem Forest.RC{F:Forest}{name key:ByteArray}(hn:name=eE\/name=eI)(h:∀x∈(F.tr name).L,x.cell.key≠key):Tl3.del name key F.rows=F.rows:=by
 unfold Tl3.del;rw[aeE];intro r hr;unfold Forest.rows at hr;rcases AT.1 hr with hr|hr
 ·obtain⟨x,hx,rfl⟩:=abO.1 hr
  rw[at_false];rfl;by_cases e:eE=name
  ·subst e;exact .inr (h x hx)
  ·exact .inl e
 ·obtain⟨x,hx,rfl⟩:=abO.1 hr
  rw[at_false];rfl;by_cases e:eI=name
  ·subst e;exact .inr (h x hx)
  ·exact .inl e
def sq (F:Forest):List ByteArray:=(if (F.tr eE).L=[]then []else [eE])++(if (F.tr eI).L=[]then []else [eI])
theorem Q7{F:Forest}{σ :ag}(ho:F.Ok σ)(hR:∀n,F.R n=none)(n:ByteArray):n∈F.main.L.map (·.cell.key)↔(F.tr n).L≠[]:=by
 have h1:=ho.yD n (hR n);have hz:=(ho.each n).zero;constructor
 ·intro hn
  obtain⟨e,he,rfl⟩:=abO.1 hn;have h2:bF F.main.L e.cell.key (ai ⟨e.val.toArray⟩ 0 4):= .inl ⟨e,he,rfl,rfl⟩;have h3:=bF.LQ ho.main.rising h1 h2;have h4:=(ho.names e he).2.1;intro hc;have:=hz.2 hc;omega
 ·intro hc
  rcases h1 with⟨e,he,hk,-⟩|⟨-,h0⟩
  ·exact abO.2 ⟨e,he,hk⟩
  ·exact absurd (hz.1 h0) hc
theorem tV{F:Forest}{σ :ag}(ho:F.Ok σ)(hR:∀n,F.R n=none)(h2:F.Dt):F.main.L.map (·.cell.key)=sq F:=by
 have hm:=Q7 ho hR;have dv:∀n∈F.main.L.map (·.cell.key),n=eE\/n=eI:=fun n hn=>h2 n (ho.qu n hn);have hp:(F.main.L.map (·.cell.key)).Pairwise (fun a b=>Nd.lt a b=true):=List.pairwise_map.2 ho.main.rising;obtain⟨ks,jb⟩:∃ks,ks=F.main.L.map (·.cell.key):=⟨_,rfl⟩;rw[<-jb]at hm dv hp |-;have hA:=hm eE;have hB:=hm eI;unfold sq;have bL:∀a:ByteArray,Nd.lt a a=true->False:=fun a h=>by rw[Nd.lt_irrefl]at h;cases h
 match ks,dv,hp,hA,hB with
 | [],_,_,hA,hB=>
  rw[if_pos (by simpa using hA),if_pos (by simpa using hB)];rfl
 | [a],dv,hp,hA,hB=>
  rcases dv a (by simp)with rfl|rfl
  ·rw[if_neg (by simpa using hA),if_pos (Classical.byContradiction fun h=>by have:=hB.2 h;rw[By]at this;exact ej this.symm)]
   rfl
  ·rw[if_pos (Classical.byContradiction fun h=>by have:=hA.2 h;rw[By]at this;exact ej this),if_neg (by simpa using hB)]
   rfl
 | a::b::t,dv,hp,hA,hB=>
  obtain⟨p1,p2⟩:=adf.1 hp;have q1:=p1 b (by simp);have ha:a=eE:=by
   rcases dv a (by simp)with h|h
   ·exact h
   ·rcases dv b (by simp)with h9|h9
    ·subst h h9;rw[Dx]at q1;cases q1
    ·subst h h9;exact(bL _ q1).elim
  have hb:b=eI:=by
   rcases dv b (by simp)with h9|h9
   ·subst ha h9;exact(bL _ q1).elim
   ·exact h9
  subst ha hb;have ht:t=[]:=by
   cases t with
   | nil=>rfl
   | cons c t=>
    have q2:=(adf.1 p2).1 c (by simp);rcases dv c (by simp)with h9|h9
    ·subst h9;rw[Dx]at q2;cases q2
    ·subst h9;exact(bL _ q2).elim
  subst ht;rw[if_neg (by simpa using hA),if_neg (by simpa using hB)];rfl
theorem xB{F:Forest}{σ :ag}(ho:F.Ok σ)(hR:∀n,F.R n=none)(h2:F.Dt):F.cB F.main.L=F.rows:=by
 have e:F.cB F.main.L=(F.main.L.map (·.cell.key)).flatMap fun n=>cz n (F.tr n).L:=by
  unfold Forest.cB cz;rw[List.flatMap_map]
 rw[e,tV ho hR h2];unfold sq Forest.rows;by_cases hA:(F.tr eE).L=[]<;>by_cases hB:(F.tr eI).L=[]<;>simp[hA,hB,cz]
theorem o7(La Lb:List En):∀j,j<=(cz eE La++cz eI Lb).length->namesTo (cz eE La++cz eI Lb) j=(if j=0 then []else if j<=La.length then [eE]else (if La=[]then []else [eE])++[eI])
 | 0,_=>rfl
 | j+1,h=>by
  have ih:=o7 La Lb j (by omega);have hl:(cz eE La++cz eI Lb).length=La.length+Lb.length:=by rw[BY,fL,fL]
  rw[hl]at h;have oN:∀i,i<La.length+Lb.length->((cz eE La++cz eI Lb)[i]?).map (·.name)=some (if i<La.length then eE else eI):=fun i hi=>by
   by_cases hc:i<La.length
   ·rw[if_pos hc,List.getElem?_append_left (by rw[fL];exact hc)]
    unfold cz;rw[acz,aaG hc];rfl
   ·rw[if_neg hc,List.getElem?_append_right (by rw[fL];omega),fL]
    unfold cz;rw[acz,aaG (by omega)];rfl
  have h1:=oN j (by omega);unfold namesTo;cases hg:(cz eE La++cz eI Lb)[j]? with
  | none=>rw[hg]at h1;cases h1
  | some r=>
   rw[hg]at h1;have h1:r.name=if j<La.length then eE else eI:=by simpa using h1
   simp only;rw[if_neg (Nat.succ_ne_zero j),ih];by_cases h0:j=0
   ·subst h0
    rw[if_pos rfl,h1];by_cases hc:0<La.length
    ·rw[if_pos hc,if_pos (show 0+1<=La.length by omega)]
    ·have:La=[]:=abZ (by omega)
     rw[if_neg hc,if_neg (show ¬ (0+1<=La.length)by omega),if_pos this];rfl
   ·have h2:=oN (j-1) (by omega)
    rw[if_neg h0,h2,h1];by_cases hc:j<La.length
    ·rw[if_pos hc,if_pos (show j-1<La.length by omega),if_pos rfl,if_pos (show j<=La.length by omega),if_pos (show j+1<=La.length by omega),if_neg h0]
    ·rw[if_neg hc]
     by_cases hd:j=La.length
     ·have bL:La≠[]:=fun e=>by rw[e]at hd;simp at hd;exact h0 hd
      rw[if_pos (show j-1<La.length by omega),if_neg (show ¬ (some eE=some eI) from fun e=>ej (adW e)),if_pos (show j<=La.length by omega),if_neg (show ¬ (j+1<=La.length)by omega),if_neg bL,if_neg h0]
     ·rw[if_neg (show ¬ j-1<La.length by omega),if_pos rfl,if_neg (show ¬ (j<=La.length)by omega),if_neg (show ¬ (j+1<=La.length)by omega),if_neg h0]
theorem EE{F:Forest}{σ :ag}(ho:F.Ok σ)(hR:∀n,F.R n=none)(h2:F.Dt):namesTo F.rows F.rows.length=F.main.L.map (·.cell.key):=by
 rw[tV ho hR h2];unfold Forest.rows;rw[o7 _ _ _ (AS _),BY,fL,fL];unfold sq;by_cases hA:(F.tr eE).L=[]<;>by_cases hB:(F.tr eI).L=[]
 ·rw[hA,hB];simp
 ·have:=acU.2 hB
  rw[hA,if_neg (by simp;exact hB),if_neg (by simp;omega),if_pos rfl,if_neg hB]
 ·have:=acU.2 hA
  rw[hB,if_neg (by simp;exact hA),if_pos (by simp),if_neg hA,if_pos rfl];rfl
 ·have h3:=acU.2 hB
  have h4:=acU.2 hA;rw[if_neg (by omega),if_neg (by omega),if_neg hA,if_neg hB]
end Go.Proofs.YtjbcbnemdhbhbaaGreatDoor
