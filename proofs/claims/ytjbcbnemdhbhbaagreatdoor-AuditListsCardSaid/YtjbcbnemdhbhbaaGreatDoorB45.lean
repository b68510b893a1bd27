import Derived.Shelf.Strings.Replace
import Derived.Ground.NamesProg
import Derived.Test.YtjbcbnemdhbhbaaGreatDoorProg
import Derived.Ground.SlgmProg
import Derived.Test.YtjbcbnemdhbhbaaGreatDoorB44
import Derived.Test.YtjbcbnemdhbhbaaGreatDoorB2
import Derived.Test.YtjbcbnemdhbhbaaGreatDoorB1
import Derived.Lib.ReplaceLaws
import Derived.Test.YtjbcbnemdhbhbaaGreatDoorB8
set_option maxRecDepth 100000
set_option linter.unusedVariables false
set_option linter.unusedSimpArgs false
set_option maxHeartbeats 40000000
open Array renaming getElem?_eq_none→adR,length_toList→ack
open ByteArray renaming empty→aca,size→aek
open Go renaming Calls→aag,Value→IS,World→AI,maxLen→abi
open Go.Lib renaming hid→sh
open Go.RowKit renaming Below→No
open Go.RowKit.Below renaming heap_alloc→aeS,refl→IN
open Go.World renaming cell?_of_block→acq,frozen?_of_block→agb
open Go.World.ownsRow renaming lt→abr
open List renaming length_append→BY,mem_cons→IT,mem_singleton→By,take_of_length_le→abI,take_succ_eq_append_getElem→aaT
open Nat renaming le_refl→AS,lt_of_lt_of_le→aaf,lt_or_ge→agh,xor_lt_two_pow→agc,zero_add→abU,zero_le→abc
open Option renaming mem_toList→abz
namespace Go.Proofs
open Go.Proofs.Tryz
open Go.Shelf
def Tryz.lays155_ren:Go.Shelf.Ren:=⟨fun|155=>205|154=>245|138=>264|165=>260|143=>265|166=>204|197=>266|169=>207|195=>281|218=>282|240=>244|241=>279|219=>283|260=>284|276=>263|277=>293|217=>294|225=>295|224=>296|267=>297|266=>299|314=>300|n=>n,fun|9=>9|3=>3|4=>4|72=>300|0=>0|76=>303|105=>359|21=>21|5=>5|70=>298|20=>20|37=>36|75=>302|127=>342|164=>357|46=>127|119=>377|139=>380|138=>379|146=>305|51=>81|80=>133|n=>n,fun|1=>1|3=>2|4=>3|n=>n⟩
theorem Tryz.lays155:Go.Proofs.Lays.n155 prog Tryz.lays155_ren:={
 mixed:=by kernel_rfl
 f138:=func264.trans (congrArg some (by kernel_rfl))
 f143:=func265.trans (congrArg some (by kernel_rfl))
 f154:=func245.trans (congrArg some (by kernel_rfl))
 f155:=func205.trans (congrArg some (by kernel_rfl))
 f165:=func260.trans (congrArg some (by kernel_rfl))
 f166:=func204.trans (congrArg some (by kernel_rfl))
 f169:=func207.trans (congrArg some (by kernel_rfl))
 f195:=func281.trans (congrArg some (by kernel_rfl))
 f197:=func266.trans (congrArg some (by kernel_rfl))
 f217:=func294.trans (congrArg some (by kernel_rfl))
 f218:=func282.trans (congrArg some (by kernel_rfl))
 f219:=func283.trans (congrArg some (by kernel_rfl))
 f224:=func296.trans (congrArg some (by kernel_rfl))
 f225:=func295.trans (congrArg some (by kernel_rfl))
 f240:=func244.trans (congrArg some (by kernel_rfl))
 f241:=func279.trans (congrArg some (by kernel_rfl))
 f260:=func284.trans (congrArg some (by kernel_rfl))
 f266:=func299.trans (congrArg some (by kernel_rfl))
 f267:=func297.trans (congrArg some (by kernel_rfl))
 f276:=func263.trans (congrArg some (by kernel_rfl))
 f277:=func293.trans (congrArg some (by kernel_rfl))
 f314:=func300.trans (congrArg some (by kernel_rfl))
 t0:=underlying0
 a0:=isAgg0
 z0:=sizeOf0
 v0:=zeroValue0
 t3:=underlying3
 a3:=isAgg3
 z3:=sizeOf3
 v3:=zeroValue3
 t4:=underlying4
 a4:=isAgg4
 z4:=sizeOf4
 v4:=zeroValue4
 t5:=underlying5
 a5:=isAgg5
 z5:=sizeOf5
 v5:=zeroValue5
 t9:=underlying9
 a9:=isAgg9
 z9:=sizeOf9
 v9:=zeroValue9
 t20:=underlying20
 a20:=isAgg20
 z20:=sizeOf20
 v20:=zeroValue20
 t21:=underlying21
 a21:=isAgg21
 z21:=sizeOf21
 v21:=zeroValue21
 t37:=underlying36
 a37:=isAgg36
 z37:=sizeOf36
 v37:=zeroValue36
 t46:=underlying127
 a46:=isAgg127
 z46:=sizeOf127
 v46:=zeroValue127
 t51:=underlying81
 a51:=isAgg81
 z51:=sizeOf81
 v51:=zeroValue81
 t70:=underlying298
 a70:=isAgg298
 z70:=sizeOf298
 v70:=zeroValue298
 t72:=underlying300
 a72:=isAgg300
 z72:=sizeOf300
 v72:=zeroValue300
 t75:=underlying302
 a75:=isAgg302
 z75:=sizeOf302
 v75:=zeroValue302
 t76:=underlying303
 a76:=isAgg303
 z76:=sizeOf303
 v76:=zeroValue303
 t105:=underlying359
 a105:=isAgg359
 z105:=sizeOf359
 v105:=zeroValue359
 t119:=underlying377
 a119:=isAgg377
 z119:=sizeOf377
 t127:=underlying342
 a127:=isAgg342
 z127:=sizeOf342
 v127:=zeroValue342
 t138:=underlying379
 a138:=isAgg379
 z138:=sizeOf379
 v138:=zeroValue379
 t139:=underlying380
 a139:=isAgg380
 z139:=sizeOf380
 v139:=zeroValue380
 t146:=underlying305
 a146:=isAgg305
 z146:=sizeOf305
 v146:=zeroValue305
 t164:=underlying357
 a164:=isAgg357
 z164:=sizeOf357
 v164:=zeroValue357
 g1:=by kernel_rfl
 g3:=by kernel_rfl
 g4:=by kernel_rfl }
theorem Tryz.Builder_Extra_155:Builder.Extra prog Tryz.lays155_ren:={
 sizeBuilder:=by kernel_rfl
 liesBuilder:=by kernel_rfl
 t5:=underlying5
 a5:=isAgg5
 z5:=sizeOf5
 v5:=zeroValue5
 infoByte:=by kernel_rfl
 cellsByte:=by kernel_rfl
 sizeByte:=by kernel_rfl
 neB5:=by decide }
open Go.RowKit Go.Lib in
theorem Tryz.strings_ReplaceAll(s old new:ByteArray)(m:Int)(w:AI)(hs:s.size<4294967281)(hm:w.cell? ⟨1,0,none⟩=some (.int .i64 m))(h1:1<=old.size)(hlen:s.size+Lib.countB s old*new.size<=140737488355328):
  aag prog 205 #[.string s,.string old,.string new] w fun e w'=>
   e= .returned (.string ⟨(Lib.replaceAll s.data.toList old.data.toList new.data.toList).toArray⟩)/\No w.heap.size w w':=Any.strings_ReplaceAll Tryz.lays155 Tryz.Builder_Extra_155 s old new m w hs hm h1 hlen
end Go.Proofs
namespace Go.Proofs.YtjbcbnemdhbhbaaGreatDoor
open Go.Proofs.Tryz
open Go.RowKit
def fA (w:AI):Prop:=∃m:Int,w.cell? ⟨1,0,none⟩=some (.int .i64 m)
theorem fA.lt{w:AI}(h:fA w):1<w.heap.size:=by
 obtain⟨m,h⟩:=h;rcases agh 1 w.heap.size with aI|yt
 ·exact aI
 ·simp[World.cell?,adR yt]at h
theorem fA.below{w w':AI}(h:fA w){B:Nat}(hb:No B w w')(hB:1<B):fA w':=by
 obtain⟨m,h1⟩:=h;exact⟨m,(acq (hb.block _ hB)).trans h1⟩
theorem fA.off{w w':AI}(h:fA w){U:List Nat}(ho:ah U w w')(hU:1∉U):fA w':=by
 have hl:=h.lt;obtain⟨m,h1⟩:=h;exact⟨m,(ho.cell (p:=⟨1,0,none⟩) hl hU).trans h1⟩
theorem B3{w:AI}(h:fA w){s:ByteArray}(hs:s.size<=4096):aag prog 205 #[.string s,.string ⟨#[0]⟩,.string ⟨#[0,255]⟩] w (fun e w'=>e= .returned (.string ⟨(ec s.data.toList).toArray⟩)/\No w.heap.size w w'):=by
 obtain⟨m,hm⟩:=h;have hc:=Lib.countB_mul_le ⟨#[0]⟩ (by decide) s.size s (AS _);have e1:(⟨#[0]⟩:ByteArray).size=1:=rfl;have e2:(⟨#[0,255]⟩:ByteArray).size=2:=rfl;rw[e1,Nat.mul_one]at hc;refine(Tryz.strings_ReplaceAll s ⟨#[0]⟩ ⟨#[0,255]⟩ m w (by omega) hm (by decide) (by rw[e2];omega)).mono ?_;rintro e w' ⟨rfl,hb⟩;refine⟨?_,hb⟩;rw[show (⟨#[0]⟩:ByteArray).data.toList=[0] from rfl,show (⟨#[0,255]⟩:ByteArray).data.toList=[0,255] from rfl,B4]
def zC (w:AI) (A:Option Addr) (ps:List ByteArray) (j:Nat) (wr:AI):Prop:=No w.heap.size w wr/\SB w.heap.size w.heap.size (bq (ps.take j)) wr/\(∀p∈ps.take j,p.size<=4096)/\w.heap.size<wr.heap.size
theorem zC.step{w:AI}{A:Option Addr}{ps:List ByteArray}{j:Nat}{w1 w2:AI}(hj:j<ps.length)(h1:No w.heap.size w w1)(h2:SB w.heap.size w.heap.size (bq (ps.take j)++(⟨(ec (ps[j]).data.toList).toArray⟩:ByteArray).data.toList++(⟨#[0,1]⟩:ByteArray).data.toList) w1)(h3:∀p∈ps.take j,p.size<=4096)(h4:(ps[j]).size<=4096)(h5:w.heap.size<w1.heap.size):zC w A ps (j+1) w1:=by
 refine⟨h1,?_,fun p hp=> ?_,h5⟩
 ·rw[aaT hj,mh]
  simpa[bq,List.append_assoc]using h2
 ·rw[aaT hj]at hp
  rcases List.mem_append.1 hp with hp|hp
  ·exact h3 p hp
  ·rw[By]at hp
   exact hp ▸ h4
theorem xE{w:AI}{A:Option Addr}{c:Nat}{ps:List ByteArray}(hm:fA w)(h:Sl w A (ps.map .string))(hn:ps.length<=3):
  aag prog 148 #[.slice A ps.length c] w (fun e w'=>No w.heap.size w w'/\((Ss ps/\e= .returned (.tuple #[.string ⟨(bq ps).toArray⟩,.int .i64 0]))\/(¬ Ss ps/\e= .returned (.tuple #[.string ⟨#[]⟩,.int .i64 5])))):=by
 have HM:=sh hm;have HS:=sh h;have z0:decide ((16:Int)<(ps.length:Int))=false:=decide_eq_false (by omega);have h0:Hid (zC w A ps 0 (w.alloc (.cells #[.pointer none,.slice none 0 0] 300))):=sh ⟨(IN _ _).alloc (AS _) _,NY w,by simp,by simp⟩;clear hm h;go_enter func148,ntmps148
 go_wp2_with fail
 go_loopw [12] (fun iv wr=>∃j:Nat,iv= .int .i64 j/\j<=ps.length/\Hid (zC w A ps j wr)) (fun iv _=>ps.length-(intOf iv).toNat)
 case atStart=>exact⟨0,rfl,abc _,h0⟩
 case round=>
  obtain⟨j,rfl,hj,HT⟩:=hrel;by_cases aI:j<ps.length
  ·have z2:decide ((j:Int)<(ps.length:Int))=true:=decide_eq_true (by omega)
   obtain⟨p,hp⟩:∃p,p=ps[j]:=⟨_,rfl⟩;obtain⟨b9,o9,rfl,jt,p0⟩:=HS.out j (.string p) (by rw[hp];simp[aI]);have p1:wr.cell? ⟨b9,o9+j,none⟩=some (.string p):=(acq (HT.out.1.block b9 jt)).trans p0;by_cases h4:4096<p.size
   ·have z3:decide ((4096:Int)<(p.size:Int))=true:=decide_eq_true (by omega)
    have HE:=sh (show No w.heap.size w wr/\¬ Ss ps from ⟨HT.out.1,fun ht=>by
     have:=ht.1 p (by rw[hp];exact List.getElem_mem aI);omega⟩)
    clear h0 HT p0 hp;go_wp2_with fail
    go_ret2
    exact⟨HE.out.1,.inr ⟨HE.out.2,rfl⟩⟩
   ·have z3:decide ((4096:Int)<(p.size:Int))=false:=decide_eq_false (by omega)
    have HMR:=sh (HM.out.below HT.out.1 HM.out.lt);have HR:=sh (B3 HMR.out (s:=p) (by omega));have HP:=sh hp;have hT3:=HT.out.2.2.1;have HT3:=sh hT3;have HB:=sh HT.out.1;have Uo:=sh HT.out.2.1;have afs:=HT.out.2.2.2;have hle:(bq (ps.take j)).length<=30000:=by
     have key:∀l:List ByteArray,(∀p∈l,p.size<=4096)->(bq l).length<=l.length*8194:=by
      intro l;induction l with
      | nil=>intro _;exact abc _
      | cons x l ih=>
       intro hx;have g1:=ih fun p hp=>hx p (List.mem_cons_of_mem _ hp);have g2:=hx x List.mem_cons_self;have g3:=(pX x.data.toList).2;have g4:x.data.toList.length=x.size:=ack;have g5:(x::l).length=l.length+1:=rfl;rw[xD,BY,BY,g5];show _+2+_<=_;omega
     have:=key _ hT3;rw[List.length_take]at this;omega
    have he4:(ec p.data.toList).length<=8192:=by
     have g3:=(pX p.data.toList).2;have g4:p.data.toList.length=p.size:=ack;omega
    have hes:(⟨(ec p.data.toList).toArray⟩:ByteArray).size=(ec p.data.toList).length:=by simp[aek]
    obtain⟨s,hs⟩:∃s:ByteArray,s=⟨(ec p.data.toList).toArray⟩:=⟨_,rfl⟩;rw[<-hs]at hes HR;have HQ:=sh hs;clear h0 HT p0 hp hT3 hs;go_wp2_with fail
    refine HR.out.mono ?_;rintro e w2 ⟨rfl,az⟩;have bz:=sh (HB.out.trans (az.mono (by omega)));have jw:=az.size;have HW:=sh (jW _ _ _ s w2 (Uo.out.below az) (by omega) (by omega));clear az HR;go_wp2_with fail
    refine HW.out.mono ?_;rintro e w3 ⟨rfl,aa8,aQ⟩;have dt:=sh (bz.out.trans aQ);have oo:=aQ.size;have HW2:=sh (jW _ _ _ ⟨#[0,1]⟩ w3 aa8 (by
     rw[BY];have:s.data.toList.length=s.size:=ack;show _+2<=_;omega) (by omega))
    clear aQ aa8 HW;go_wp2_with fail
    refine HW2.out.mono ?_;rintro e w4 ⟨rfl,aa9,b7⟩;have HN:=sh (zC.step (A:=some ⟨b9,o9,none⟩) (w2:=w4) aI (dt.out.trans b7) (by rw[<-HP.out,<-HQ.out];exact aa9) HT3.out (by rw[<-HP.out];omega) (by have:=b7.size;omega));clear b7 aa9 HW2;go_wp2_with fail
    go_roundw
    case rel=>exact⟨j+1,by go_num,by omega,HN⟩
    case measure=>simp[intOf];omega
  ·have z2:decide ((j:Int)<(ps.length:Int))=false:=decide_eq_false (by omega)
   have vo:ps.take j=ps:=by rw[show j=ps.length by omega,List.take_length]
   have Uo:=sh HT.out.2.1;have HB:=sh HT.out.1;have h3:=HT.out.2.2.1;have afs:=HT.out.2.2.2;rw[vo]at Uo h3;obtain⟨n,oh⟩:∃n,n=(bq ps).length:=⟨_,rfl⟩;have HL:=sh (Wu _ _ _ wr Uo.out);rw[<-oh]at HL;by_cases h4:4096<n
   ·have z3:decide ((4096:Int)<(n:Int))=true:=decide_eq_true (by omega)
    have HE:=sh (show No w.heap.size w wr/\¬ Ss ps from ⟨HB.out,fun ht=>by have:=ht.2;omega⟩);clear h0 HT vo h3 oh;go_wp2_with fail
    refine HL.out.mono ?_;rintro e w2 ⟨rfl,rfl⟩;go_wp2_with fail
    go_ret2
    exact⟨HE.out.1,.inr ⟨HE.out.2,rfl⟩⟩
   ·have z3:decide ((4096:Int)<(n:Int))=false:=decide_eq_false (by omega)
    have HE:=sh (show Ss ps from ⟨h3,by omega⟩);have j5:=sh (xt _ _ _ wr Uo.out (by omega));clear h0 HT vo h3 oh;go_wp2_with fail
    refine HL.out.mono ?_;rintro e w2 ⟨rfl,rfl⟩;go_wp2_with fail
    refine j5.out.mono ?_;rintro e w3 ⟨rfl,aQ⟩;have dt:=sh (HB.out.trans aQ);clear aQ;go_wp2_with fail
    go_ret2
    exact⟨dt.out,.inl ⟨HE.out,rfl⟩⟩
theorem N7(w:AI)(a b c:IS):Sl (w.alloc (.cells #[a,b,c] 9)) (some ⟨w.heap.size,0,none⟩) [a,b,c]:=by
 have hb:=Bk.new w 9 #[a,b,c];intro j u hu;refine⟨w.heap.size,0,rfl,hb.lt,?_⟩;rw[abU,hb.cell j];simpa using hu
theorem N8(w:AI)(a b:IS):Sl (w.alloc (.cells #[a,b] 9)) (some ⟨w.heap.size,0,none⟩) [a,b]:=by
 have hb:=Bk.new w 9 #[a,b];intro j u hu;refine⟨w.heap.size,0,rfl,hb.lt,?_⟩;rw[abU,hb.cell j];simpa using hu
theorem Ct{w:AI}(hm:fA w)(n k v:ByteArray)(hv:v.size<=4000):
  aag prog 92 #[.string n,.string k,.string v] w (fun e w'=>e= .returned (.string (aR ⟨n,k,v⟩))/\No w.heap.size w w'):=by
 have hl:=hm.lt;have HM:=sh hm;have H3:=sh (xE (c:=3) (ps:=[n,k,v]) (hm.below ((IN w.heap.size w).alloc (AS _) (.cells #[.string n,.string k,.string v] 9)) hl) (N7 w (.string n) (.string k) (.string v)) (by simp));have HB:=sh ((IN w.heap.size w).alloc (AS _) (.cells #[.string n,.string k,.string v] 9));have HT:=sh (show (Ss [n,k,v]->aR ⟨n,k,v⟩=⟨(bq [n,k,v]).toArray⟩)/\(¬ Ss [n,k,v]->aR ⟨n,k,v⟩=JN [n,k]++v) from ⟨fun h=>if_pos ((mR _).1 h),fun h=>if_neg (fun h9=>h ((mR _).2 h9))⟩);obtain⟨s,hs⟩:∃s:ByteArray,s=aR ⟨n,k,v⟩:=⟨_,rfl⟩;rw[<-hs]at HT |-;clear hm hs;go_enter func92,ntmps92
 go_wp2_with fail
 refine H3.out.mono ?_;rintro e w1 ⟨ar,⟨ht,rfl⟩|⟨ht,rfl⟩⟩
 ·have bh:=sh (HB.out.trans (ar.mono (by simp)))
  rw[<-HT.out.1 ht];clear ar HT;go_wp2_with fail
  go_ret
  exact⟨rfl,bh.out⟩
 ·have bh:=sh (HB.out.trans (ar.mono (by simp)))
  have pK:=bh.out.size;have H2:=sh (xE (c:=2) (ps:=[n,k]) (HM.out.below (bh.out.alloc (by omega) (.cells #[.string n,.string k] 9)) hl) (N8 w1 (.string n) (.string k)) (by simp));have bz:=sh (bh.out.alloc (by omega) (.cells #[.string n,.string k] 9));have Km:=HT.out.2 ht;have HV:=sh Km;clear ar HT Km;go_wp2_with fail
  refine H2.out.mono ?_;rintro e w2 ⟨az,⟨ht,rfl⟩|⟨ht,rfl⟩⟩
  ·have dt:=sh (bz.out.trans (az.mono (by simp;omega)))
   have Km:=HV.out;unfold JN at Km;rw[if_pos ((mR _).1 ht)]at Km;have HX:=sh Km;have SZ:(⟨(bq [n,k]).toArray⟩:ByteArray).size<=4096:=by have:=(mR _).1 ht;simpa[aek]using this
   have hz:(⟨(bq [n,k]).toArray⟩:ByteArray).size+v.size<=abi:=by unfold abi;omega
   have Bl:(bq [n,k]).length+v.size<=abi:=by have:=(mR _).1 ht;unfold abi;omega
   clear az Km HV;go_wp2_with fail
   go_ret
   exact⟨by rw[HX.out];rfl,dt.out⟩
  ·have dt:=sh (bz.out.trans (az.mono (by simp;omega)))
   have Km:=HV.out;unfold JN at Km;rw[if_neg (fun h9=>ht ((mR _).2 h9))]at Km;have HX:=sh Km;have hz:(⟨#[]⟩:ByteArray).size+v.size<=abi:=by have:(⟨#[]⟩:ByteArray).size=0:=rfl;unfold abi;omega
   clear az Km HV;go_wp2_with fail
   go_ret
   exact⟨by rw[HX.out];rfl,dt.out⟩
def kB (l:List Tl3):List IS:=l.map fun t=> .string (aR t)
structure KX (B rb bb:Nat) (most:Int) (v:IS) (l:List Tl3) (w:AI):Prop where
 row:Bk w rb 72 #[v]
 own:w.ownsRow B 9 1 v l.length (kB l)
 box:Bk w bb 3 #[.int .i64 most]
 max:fA w
 oG:l=[]\/(l.length:Int)<=most
def LsI (B rb bb:Nat) (most:Int) (l:List Tl3) (X:List Nat) (w:AI):Prop:=∃v,KX B rb bb most v l w/\X=rb::bb::v.ownBlock.toList
def LsD (B rb bb:Nat) (most:Int) (l:List Tl3) (w:AI):Prop:=∃v,KX B rb bb most v l w/\most<=l.length
theorem Q2:(prog.info? 9).map (fun i=>(i.zero,i.size,i.bytes))=some (some (.string aca),1,16):=by kernel_rfl
theorem Nh{w4:AI}{b o:Nat}{v:IS}(h1:w4.cell? ⟨b,o,none⟩=some v)(h2:w4.frozen? ⟨b,o,none⟩=false)(aI:b<w4.heap.size):∀x:Obj,(w4.alloc x).cell? ⟨b,o,none⟩=some v/\(w4.alloc x).frozen? ⟨b,o,none⟩=false:=
 fun x=>⟨(acq (a:=⟨b,o,none⟩) (aeS w4 x b aI)).trans h1,(agb (a:=⟨b,o,none⟩) (aeS w4 x b aI)).trans h2⟩
theorem Ni{w w5:AI}{b o:Nat}{v:IS}{row:Option Nat}(h:w.cell? ⟨b,o,none⟩=some v/\w.frozen? ⟨b,o,none⟩=false)(hg:w.grownBy w5 row)(bL:row≠some b)(aI:b<w.heap.size):w5.cell? ⟨b,o,none⟩=some v/\w5.frozen? ⟨b,o,none⟩=false:=
 ⟨(acq (a:=⟨b,o,none⟩) (hg.block b aI (fun e=>bL e.symm))).trans h.1,(agb (a:=⟨b,o,none⟩) (hg.block b aI (fun e=>bL e.symm))).trans h.2⟩
theorem Q3(w4:AI)(s:ByteArray):∀(j:Nat) (y:IS),[Value.string s][j]? =some y->(w4.alloc (.cells #[.string s] 9)).cell? ((⟨w4.heap.size,0,none⟩:Addr).add j)=some y:=by
 have h:=World.news_of_block (cs:= #[.string s]) (t:=9) (fr:=(0,0)) (heap_alloc_new w4 (.cells #[.string s] 9));simpa using h
theorem KX.next{B rb bb:Nat}{most:Int}{v:IS}{l:List Tl3}{t:Tl3}{w w4 w5:AI}{gg cap:Nat}{u:IS}(h:KX B rb bb most v l w)(vi:1<B)(OP:B<=rb)(hB3:B<=bb)(hm:(l.length:Int)<most)(h4:No w.heap.size w w4)(ho:w5.ownsRow B 9 1 (.slice (some ⟨gg,0,none⟩) (l.length+1) cap) (l.length+1) (kB l++[.string (aR t)]))(hg:w4.grownBy w5 v.ownBlock)(cL:v.ownBlock=some gg\/gg=w4.heap.size):
  ah (rb::bb::v.ownBlock.toList) w (w5.setCell ⟨rb,0,none⟩ (.slice (some ⟨gg,0,none⟩) (l.length+1) cap))/\∃X',(∀x∈X',x∈rb::bb::v.ownBlock.toList\/w.heap.size<=x)/\LsI B rb bb most (l++[t]) X' (w5.setCell ⟨rb,0,none⟩ (.slice (some ⟨gg,0,none⟩) (l.length+1) cap)):=by
 have IU:=h4.size;have Gi:=af h.row h4;have ZE:=af h.box h4;have hlr:=h.row.lt;have Gb:=h.box.lt;have uW:=h.max.lt;have o4:ah [] w w4:=ah.ae h4 [];have e5:ah v.ownBlock.toList w4 w5:=(ah.refl _ w4).grown hg (fun g hg=> .inl (by rw[hg];simp));have n1:rb∉v.ownBlock.toList:=fun hm=>bP h.own h.row (by decide) (abz.1 hm);have n2:bb∉v.ownBlock.toList:=fun hm=>bP h.own h.box (by decide) (abz.1 hm);have n3:1∉v.ownBlock.toList:=fun hm=>by
  have:=(abr h.own _ (abz.1 hm)).1;omega
 have n4:rb≠bb:=fun e=>Bk.ne h.row h.box (by decide) e;have oR:=e5.bk Gi n1;have ZF:=e5.bk ZE n2;have aau:=(h.max.below h4 uW).off e5 n3;have SM:gg≠rb:=fun e=>by
  rcases cL with h9|h9
  ·exact bP h.own h.row (by decide) (by rw[h9,e])
  ·omega
 have s5:ah [rb] w5 (w5.setCell ⟨rb,0,none⟩ (.slice (some ⟨gg,0,none⟩) (l.length+1) cap)):=(ah.refl [rb] w5).setCell (p:=⟨rb,0,none⟩) (.inl (by simp)) _;refine⟨?_,rb::bb::[gg],fun x hx=> ?_,.slice (some ⟨gg,0,none⟩) (l.length+1) cap,⟨?_,?_,?_,?_,.inr (by rw[BY];simp;omega)⟩,rfl⟩
 ·exact((o4.mono (by simp)).then e5 (fun g hg=> .inl (by simp at hg |-;exact .inr (.inr hg)))).then s5 (fun g hg=> .inl (by rw[By]at hg;rw[hg];simp))
 ·rcases IT.1 hx with rfl|hx
  ·exact .inl (by simp)
  ·rcases IT.1 hx with rfl|hx
   ·exact .inl (by simp)
   ·rw[By]at hx
    subst hx;rcases cL with h9|h9
    ·exact .inl (by rw[h9];simp)
    ·exact .inr (by omega)
 ·have:=oR.put 0 (.slice (some ⟨gg,0,none⟩) (l.length+1) cap)
  simpa using this
 ·have e:kB (l++[t])=kB l++[.string (aR t)]:=by unfold kB;simp
  rw[e,BY];exact s5.own ho (fun g hg hm=>by
   rw[By]at hm;have:gg=g:=by simpa[Value.ownBlock]using hg
   omega)
 ·exact s5.bk ZF (by rw[By];exact fun e=>n4 e.symm)
 ·exact aau.off s5 (by rw[By];omega)
theorem I7{B rb bb:Nat}{most:Int}{l:List Tl3}{X:List Nat}{w:AI}(h:LsI B rb bb most l X w)(vi:1<B)(OP:B<=rb)(hB3:B<=bb)(hl:l.length<100000)(t:Tl3)(hv:t.val.size<=4000):
  aag prog 91 #[.string t.name,.string t.key,.string t.val,.pointer (some ⟨rb,0,none⟩),.pointer (some ⟨bb,0,none⟩)] w (fun e w'=>ah X w w'/\((e= .returned (.bool true)/\∃X',(∀x∈X',x∈X\/w.heap.size<=x)/\LsI B rb bb most (l++[t]) X' w')\/(e= .returned (.bool false)/\LsD B rb bb most l w'))):=by
 obtain⟨i0,hi,ef,dK,dY⟩:=info_parts Q2;obtain⟨v,h,rfl⟩:=h;obtain⟨A,c,rfl,-,-,-,-,-⟩:=cT h.own;have qg:=h.own;have HA:=sh h;have r0:=h.row.cell 0;have rf:=h.row.frozen 0;have rl:=h.row.lt;have b0:=h.box.cell 0;have bl:=h.box.lt;have HT:=sh fun(W:AI) (hb:No w.heap.size w W)=>Ct (h.max.below hb h.max.lt) t.name t.key t.val hv;obtain⟨s,hs⟩:∃s,s=aR t:=⟨_,rfl⟩;have HS:=sh hs;have ri:(⟨t.name,t.key,t.val⟩:Tl3)=t:=rfl;rw[ri,<-hs]at HT;obtain⟨tn,ri⟩:∃x,x=t.name:=⟨_,rfl⟩;obtain⟨tk,ey⟩:∃x,x=t.key:=⟨_,rfl⟩;obtain⟨tv,MK⟩:∃x,x=t.val:=⟨_,rfl⟩;rw[<-ri,<-ey,<-MK]at HT |-;clear h hs ri ey MK hv;by_cases hm:most<=(l.length:Int)
 ·have z1:decide ((l.length:Int) ≥ most)=true:=decide_eq_true hm
  have z2:decide (most<=(l.length:Int))=true:=decide_eq_true hm;have HE:=sh (show ah (rb::bb::(Value.slice A l.length c).ownBlock.toList) w w/\LsD B rb bb most l w from ⟨ah.refl _ _,_,HA.out,hm⟩);go_enter func91,ntmps91
  go_wp2_with fail
  go_ret
  exact⟨HE.out.1,.inr ⟨rfl,HE.out.2⟩⟩
 ·have z1:decide ((l.length:Int) ≥ most)=false:=decide_eq_false (by omega)
  have z2:decide (most<=(l.length:Int))=false:=decide_eq_false hm;have HX:=sh fun(w4 w5:AI) (gg cap:Nat)=>HA.out.next (t:=t) (w4:=w4) (w5:=w5) (gg:=gg) (cap:=cap) (u:= .bool true) vi OP hB3 (by omega);have eJ:=sh qg;have hun:=bP qg HA.out.row (by decide);have Uu:=sh hun;have OQ:B<=w.heap.size:=by omega
  clear qg hun;go_enter func91,ntmps91
  go_wp2_with fail
  go_region_law ((first
   | (refine step_append_lies _ ?g1 (.tmp 13) (.tmp 18) 72 ?g2 B 9 i0 (.string aca) 1 16 underlying72 hi ef dK dY ?q1 ?q2 (.slice A l.length c) l.length (kB l) ?q3 ?q4 ⟨w4.heap.size,0,none⟩ 1 1 [.string s] ?q5 ?q6 ?q7 ?q8 ?q9 ?q10 ?q11 ?q12 (w4.heap.size+1) ?q13 ?_;(case g1=>(rfl));(case g2=>(rfl));(case q1=>(rfl));(case q2=>(omega));(case q3=>(rfl));(case q4=>(exact(OW4.out.alloc _)));(case q5=>(rfl));(case q6=>(rfl));(case q7=>(exact Q3 w4 s));(case q8=>(exact(fun x hx=>by simp at hx;subst hx;rfl)));(case q9=>(omega));(case q10=>(unfold abi;omega));(case q11=>(omega));(case q12=>(simp;omega));(case q13=>(simp));intro gg aep w5 lQ lM ym aat;have hkg:=Ni (Nh r4 f4 l4 (.cells #[.string s] 9)) lM Uu.out (by simp;omega);have k1:=hkg.1;have k2:=hkg.2;have HGG:=sh lM;have FA:=sh ym;have Yo:=sh lQ;clear lQ lM ym hkg)
   | (go_simp;go_at_call 92;(with_reducible refine(HT.out _ (by first|exact IN _ _|exact(IN _ _).drew|exact below_drewN (IN _ _) _)).mono ?_);rintro e w4 ⟨rfl,b7⟩;have qf:No w.heap.size w w4:=(by first|exact b7|exact((IN _ _).drew).trans b7|exact(below_drewN (IN _ _) _).trans b7);have r4:=(acq (a:=⟨rb,0,none⟩) (qf.block rb rl)).trans r0;have f4:=(agb (a:=⟨rb,0,none⟩) (qf.block rb rl)).trans rf;have l4:rb<w4.heap.size:=aaf rl qf.size;have OW4:=sh ((ah.ae qf []).own eJ.out (by simp));have fx:=sh qf;have IU:=qf.size;clear b7 qf)
   | fail))
  all_goals
   go_wp2_with fail
   have rL:=sh (HX.out (w4.alloc (.cells #[.string s] 9)) w5 gg aep (fx.out.alloc IU _) (by have h9:=Yo.out;rw[HS.out]at h9;exact h9) HGG.out (by simpa using FA.out));go_ret
   exact⟨rL.out.1,.inl ⟨rfl,rL.out.2⟩⟩
theorem Ez{B rb bb:Nat}{most:Int}(vi:1<B)(OP:B<=rb)(hB3:B<=bb):fW 91 #[.pointer (some ⟨rb,0,none⟩),   .pointer (some ⟨bb,0,none⟩)] [1] (LsI B rb bb most) (LsD B rb bb most) where
 enter:=fun args W=>call91 args W
 keep:=fun l X w w' U h ho hU hZ=>by
  obtain⟨v,h,rfl⟩:=h;exact⟨v,⟨ho.bk h.row (hU _ (by simp)),ho.own h.own (fun g hg=>hU _ (by rw[hg];simp)),ho.bk h.box (hU _ (by simp)),h.max.off ho (hZ _ (by simp)),h.oG⟩,rfl⟩
 old:=fun l X w h x hx=>by
  obtain⟨v,h,rfl⟩:=h;rcases IT.1 hx with rfl|hx
  ·exact h.row.lt
  ·rcases IT.1 hx with rfl|hx
   ·exact h.box.lt
   ·exact(abr h.own _ (abz.1 hx)).2
 yf:=fun l X w t h hl h1 h2 h3=>I7 h vi OP hB3 hl t h3
theorem Gs{α :Type}{l L:List α}{most:Int}(hp:l <+: L)(h1:l=L\/most<=l.length)(h2:l=[]\/(l.length:Int)<=most):l=L.take most.toNat:=by
 have e:=List.prefix_iff_eq_take.1 hp;rcases h2 with rfl|h2
 ·rcases h1 with rfl|h1
  ·simp
  ·have:most.toNat=0:=by simp at h1;omega
   rw[this];rfl
 ·rcases h1 with rfl|h1
  ·rw[abI (by omega)]
  ·have:most.toNat=l.length:=by omega
   rw[this];exact e
theorem Nc{w:AI}{sp b:Nat}{K:Kr}{i:Int}{m:aL}{pv:IS}{Fo:Forest}(h:SnapOn w sp b K i m pv Fo)(hm:fA w)(most:Int)(hlen:Fo.main.L.length<=10000)(hT:(Fo.cB Fo.main.L).length<=100000):
  aag prog 36 #[.pointer (some ⟨sp,0,none⟩),.int .i64 most] w (fun e w'=>No w.heap.size w w'/\∃v,e= .returned (.tuple #[v,.int .i64 0])/\w'.ownsRow w.heap.size 9 1 v ((Fo.cB Fo.main.L).take most.toNat).length (kB ((Fo.cB Fo.main.L).take most.toNat))):=by
 have O1:=hm.lt;have qo:=Bk.lt h.snap;have Xf:b<w.heap.size:=by obtain⟨cs,g1,-⟩:=h.db;exact g1.lt
 have Ze:=(bT h.ok).old h.at_;have az:No w.heap.size w ((w.alloc (.cells #[.int .i64 most] 3)).alloc (.cells #[.slice none 0 0] 72)):=((IN _ w).alloc (AS _) _).alloc (by simp) _;have Qn:Bk ((w.alloc (.cells #[.int .i64 most] 3)).alloc (.cells #[.slice none 0 0] 72)) w.heap.size 3 #[.int .i64 most]:=(Bk.new w _ _).alloc _;have hrw:Bk ((w.alloc (.cells #[.int .i64 most] 3)).alloc (.cells #[.slice none 0 0] 72)) (w.heap.size+1) 72 #[.slice none 0 0]:=by simpa using Bk.new (w.alloc (.cells #[.int .i64 most] 3)) 72 #[.slice none 0 0]
 have HE:=sh (wy (Ez (most:=most) O1 (Nat.le_succ _) (AS _)) (X0:=[w.heap.size+1,w.heap.size]) (h.below az) ⟨.slice none 0 0,⟨hrw,World.ownsRow_nil _ _ _ _,Qn,hm.below az O1,.inl rfl⟩,rfl⟩ (fun x hx=>by
  have MO:w.heap.size<=x:=by
   rcases IT.1 hx with rfl|hx
   ·omega
   ·rw[By]at hx
    omega
  exact⟨by omega,by omega,fun hk=>by have:=Ze x hk;omega⟩) (fun x hx=>by rw[By]at hx;subst hx;exact aaf O1 az.size) hlen hT)
 have HB:=sh az;clear h hm az Qn hrw Ze hlen hT;go_enter func36,ntmps36
 go_wp2_with fail
 refine HE.out.mono ?_;rintro e w3 ⟨rfl,bS,fu⟩;have HR:∃l v,Hid (l=(Fo.cB Fo.main.L).take most.toNat/\KX w.heap.size (w.heap.size+1) w.heap.size most v l w3):=by
  rcases fu with⟨X,v,hl,-⟩|⟨l,hp,-,v,hl,O1⟩
  ·exact⟨_,v,sh ⟨Gs (List.prefix_refl _) (.inl rfl) hl.oG,hl⟩⟩
  ·exact⟨l,v,sh ⟨Gs hp (.inr O1) hl.oG,hl⟩⟩
 obtain⟨l,v,HR⟩:=HR;have r0:=HR.out.2.row.cell 0;have rl:=HR.out.2.row.lt;have dt:=sh (HB.out.trans (bS.below (by simp;omega) (fun g hg=>by
  rcases IT.1 hg with rfl|hg
  ·omega
  ·rw[By]at hg
   omega)))
 clear bS fu HE;go_wp2_with fail
 go_ret2
 refine⟨dt.out,v,rfl,?_⟩;rw[<-HR.out.1];exact HR.out.2.own
end Go.Proofs.YtjbcbnemdhbhbaaGreatDoor
namespace Go.Proofs.YtjbcbnemdhbhbaaGreatDoor
open Go.Proofs.Tryz
open Go.RowKit
open Go.PlainAid
theorem zP(n0:Nat)(II:n0<4294967296)(s:ByteArray)(w:AI)(hs:s.size<=abi)(hr:aO w):
  aag prog 94 #[.int .u32 n0,.string s] w (x8 (Crc.on n0 s.data.toList) w):=by
 unfold abi at hs;have HR:=sh hr;clear hr;have e0:bits .xor .u32 IntKind.u32.max (n0:Int)=((4294967295-n0:Nat):Int):=Gw n0 II;obtain⟨r0,gr⟩:∃r0,r0=4294967295-n0:=⟨_,rfl⟩;rw[<-gr]at e0;have Yz:=sh gr;have AW:r0<4294967296:=by omega
 clear gr;go_enter func94,ntmps94
 go_wp2_with fail
 clear e0
 go_loop [5,11] (fun r i=>∃(k n:Nat),i= .int .i64 k/\r= .int .u32 n/\k<=s.size/\Hid (n<4294967296)/\Hid (n=Crc.Js r0 (s.data.toList.take k))) (fun _ i=>s.size-(intOf i).toNat)
 case atStart=>exact⟨0,r0,rfl,rfl,abc _,AW,show _=_ by simp[Crc.Js]⟩
 case round=>
  obtain⟨k,n,rfl,rfl,hk,HL,HN⟩:=hrel;by_cases aI:k<s.size
  ·have hc:=s[k].toNat_lt
   have e1:=u32_xor_nat n s[k].toNat HL.out (by omega);have HX:=sh (show n ^^^ s[k].toNat<4294967296 from agc (n:=32) HL.out (by omega));have HE:=sh (show Crc.UL n s[k]=_ from FP n s[k]);have HT:=sh (jY s k aI);generalize n ^^^ s[k].toNat=x at *;have HM:=sh (yG x HX.out);have e2:=FO x HX.out;have e3:=yF x HX.out;have hm:x%16<16:=by omega
   have c1:=HR.out (x%16) hm;generalize x%16=m at *;generalize Crc.row.getD m 0=a at *;generalize Crc.Pc x=y at *;have e4:=FO y HM.out;have e5:=yF y HM.out;have HZ:=sh (yG y HM.out);have mF:y%16<16:=by omega
   have c2:=HR.out (y%16) mF;generalize y%16=m2 at *;generalize Crc.row.getD m2 0=a2 at *;generalize Crc.Pc y=z at *;have e6:((s[k].toNat:Nat):Int)%4294967296=s[k].toNat:=by omega
   clear hc;go_wp2_with fail
   go_round
   case rel=>exact⟨k+1,z,by go_num,rfl,by omega,HZ.out,show _=_ by rw[HT.out,uf,<-HN.out,HE.out]⟩
   case measure=>simp[intOf];omega
  ·have e9:=Gw n HL.out
   have HE:Hid (n=Crc.Js r0 s.data.toList):=by
    have:=HN.out;rw[abI (by rw[bY];omega)]at this;exact this
   go_wp2_with fail
   go_ret
   refine⟨?_,rfl⟩;rw[show Crc.on n0 s.data.toList=4294967295-n by unfold Crc.on;rw[HE.out,Yz.out]];rfl
theorem yO(n0:Nat)(II:n0<4294967296)(s:ByteArray)(w:AI)(hs:s.size<=abi):
  aag prog 96 #[.int .u32 n0,.string s] w (x8 (Crc.on n0 s.data.toList) w):=by
 unfold abi at hs;have e0:(4294967295:Int)-(n0:Int)=((4294967295-n0:Nat):Int):=by omega
 obtain⟨r0,gr⟩:∃r0,r0=4294967295-n0:=⟨_,rfl⟩;rw[<-gr]at e0;have Yz:=sh gr;have AW:r0<4294967296:=by omega
 clear gr;go_enter func96,ntmps96
 go_wp2_with fail
 go_loop [5,6] (fun r i=>∃(k n:Nat),i= .int .i64 k/\r= .int .u32 n/\k<=s.size/\Hid (n<4294967296)/\Hid (n=Crc.Js r0 (s.data.toList.take k))) (fun _ i=>s.size-(intOf i).toNat)
 case atStart=>exact⟨0,r0,rfl,by first|rfl|rw[<-e0],abc _,AW,show _=_ by simp[Crc.Js]⟩
 case round=>
  obtain⟨k,n,rfl,rfl,hk,HL,HN⟩:=hrel;by_cases aI:k<s.size
  ·have hc:=s[k].toNat_lt
   have e1:=u32_xor_nat n s[k].toNat HL.out (by omega);have HX:=sh (show n ^^^ s[k].toNat<4294967296 from agc (n:=32) HL.out (by omega));have HE:=sh (show Crc.UL n s[k]=bitN 8 (n ^^^ s[k].toNat) from rfl);have HT:=sh (jY s k aI);generalize n ^^^ s[k].toNat=x at *;have e6:((s[k].toNat:Nat):Int)%4294967296=s[k].toNat:=by omega
   clear hc;go_wp2_with fail
   clear e1 e6
   go_loop [5,7] (fun r i=>∃(j m:Nat),i= .int .i64 j/\r= .int .u32 m/\j<=8/\Hid (m<4294967296)/\Hid (m=bitN j x)) (fun _ i=>8-(intOf i).toNat)
   case atStart=>exact⟨0,x,rfl,rfl,by decide,HX.out,show _=_ from rfl⟩
   case round=>
    obtain⟨j,m,rfl,rfl,hj,HM,HB⟩:=hrel;by_cases hj8:j<8
    ·have HS:=sh (show Crc.bit m=bitN (j+1) x by unfold bitN;rw[<-HB.out])
     have bz:=sh (Crc.UJ m HM.out);have kL:=HM.out;have e7:(m:Int)/2%4294967296=(m:Int)/2:=by omega
     clear kL;by_cases ho:m%2=1
     ·have e2:=PS m HM.out ho
      have q:((m:Int)%2==1)=true:=by simp;omega
      generalize Crc.bit m=y at *;clear ho;go_wp2_with fail
      go_round
      case rel=>exact⟨j+1,y,by go_num,rfl,by omega,bz.out,HS.out⟩
      case measure=>simp[intOf];omega
     ·have HV:=sh (Hm m ho)
      have q:((m:Int)%2==1)=false:=by simp;omega
      clear ho;go_wp2_with fail
      go_round
      case rel=>exact⟨j+1,m/2,by go_num,by go_num,by omega,by have:=bz.out;rw[HV.out]at this;exact this,by have:=HS.out;rw[HV.out]at this;exact this⟩
      case measure=>simp[intOf];omega
    ·obtain rfl:j=8:=by omega
     go_wp2_with fail
     go_round
     case rel=>exact⟨k+1,m,by go_num,rfl,by omega,HM.out,show _=_ by rw[HT.out,uf,<-HN.out,HE.out];exact HB.out⟩
     case measure=>simp[intOf];omega
  ·have HE:Hid (n=Crc.Js r0 s.data.toList):=by
    have:=HN.out;rw[abI (by rw[bY];omega)]at this;exact this
   have hn:=HL.out;have e9:(4294967295:Int)-n=((4294967295-n:Nat):Int):=by omega
   have HS:=sh (show Crc.on n0 s.data.toList=4294967295-n by unfold Crc.on;rw[HE.out,Yz.out]);go_wp2_with fail
   go_ret
   refine⟨?_,rfl⟩;rw[HS.out];first|rfl|(rw[<-e9];rfl)
theorem Hr(n:Nat)(l:List UInt8):Crc.on n l<4294967296:=by unfold Crc.on;omega
end Go.Proofs.YtjbcbnemdhbhbaaGreatDoor
namespace Go.Proofs.YtjbcbnemdhbhbaaGreatDoor
open Go.Proofs.Tryz
open Go.RowKit
def nZ (l:List Tl3):Nat:=l.foldl (fun n t=>Crc.on n (aR t).data.toList) 0
theorem qE(l:List Tl3)(t:Tl3):nZ (l++[t])=Crc.on (nZ l) (aR t).data.toList:=by unfold nZ;rw[List.foldl_append];rfl
theorem GN(l:List Tl3):nZ l<4294967296:=by
 rcases List.eq_nil_or_concat l with rfl|⟨l',t,rfl⟩
 ·decide
 ·rw[List.concat_eq_append,qE]
  exact Hr _ _
theorem um(t:Tl3)(hv:t.val.size<=4000):(aR t).size<=8096:=by
 unfold aR;split
 ·rename_i h
  have:(⟨(bq [t.name,t.key,t.val]).toArray⟩:ByteArray).size=(bq [t.name,t.key,t.val]).length:=by simp[aek]
  omega
 ·rw[ByteArray.size_append]
  unfold JN;split
  ·rename_i h
   have:(⟨(bq [t.name,t.key]).toArray⟩:ByteArray).size=(bq [t.name,t.key]).length:=by simp[aek]
   omega
  ·have:(⟨#[]⟩:ByteArray).size=0:=rfl
   omega
theorem B9{w:AI}(h:aO w):0<w.heap.size:=by
 have h0:=h 0 (by decide);rcases agh 0 w.heap.size with aI|yt
 ·exact aI
 ·simp[World.cell?,adR yt]at h0
theorem jV{w w':AI}(h:aO w){U:List Nat}(ho:ah U w w')(hU:0∉U):aO w':=fun k hk=>(ho.cell (p:=⟨0,k,none⟩) (B9 h) hU).trans (h k hk)
structure K7 (sb:Nat) (l:List Tl3) (w:AI):Prop where
 cell:Bk w sb 81 #[.int .u32 (nZ l:Nat)]
 max:fA w
 row:aO w
def SmI (sb:Nat) (l:List Tl3) (X:List Nat) (w:AI):Prop:=K7 sb l w/\X=[sb]
theorem Oi{sb:Nat}{l:List Tl3}{w:AI}(h:K7 sb l w)(vi:1≠sb)(OP:0≠sb)(t:Tl3)(hv:t.val.size<=4000):
  aag prog 93 #[.string t.name,.string t.key,.string t.val,.pointer (some ⟨sb,0,none⟩)] w (fun e w'=>ah [sb] w w'/\e= .returned (.bool true)/\K7 sb (l++[t]) w'):=by
 have HA:=sh h;have r0:=h.cell.cell 0;have rf:=h.cell.frozen 0;have rl:=h.cell.lt;have HT:=sh fun(W:AI) (hb:No w.heap.size w W)=>Ct (h.max.below hb h.max.lt) t.name t.key t.val hv;obtain⟨s,hs⟩:∃s,s=aR t:=⟨_,rfl⟩;have ri:(⟨t.name,t.key,t.val⟩:Tl3)=t:=rfl;rw[ri,<-hs]at HT;obtain⟨n,hn⟩:∃n,n=nZ l:=⟨_,rfl⟩;rw[<-hn]at r0;have cZ:s.size<=abi:=by rw[hs];have:=um t hv;unfold abi;omega
 have HO:=sh fun(W:AI) (hb:No w.heap.size w W)=>zP n (by rw[hn];exact GN l) s W cZ (jV h.row (ah.ae hb []) (by simp));obtain⟨q,hq⟩:∃q,q=Crc.on n s.data.toList:=⟨_,rfl⟩;rw[<-hq]at HO;have HQ:=sh (show nZ (l++[t])=q by rw[qE,<-hs,<-hn,hq]);obtain⟨tn,ri⟩:∃x,x=t.name:=⟨_,rfl⟩;obtain⟨tk,ey⟩:∃x,x=t.key:=⟨_,rfl⟩;obtain⟨tv,MK⟩:∃x,x=t.val:=⟨_,rfl⟩;rw[<-ri,<-ey,<-MK]at HT |-;clear h hs ri ey MK hv hn hq cZ;go_enter func93,ntmps93
 go_wp2_with fail
 go_region_law ((first
  | (go_simp;go_at_call 92;(with_reducible refine(HT.out _ (by first|exact IN _ _|exact(IN _ _).drew|exact below_drewN (IN _ _) _)).mono ?_);rintro e w4 ⟨rfl,b7⟩;have qf:No w.heap.size w w4:=(by first|exact b7|exact((IN _ _).drew).trans b7|exact(below_drewN (IN _ _) _).trans b7);have r4:=(acq (a:=⟨sb,0,none⟩) (qf.block sb rl)).trans r0;have f4:=(agb (a:=⟨sb,0,none⟩) (qf.block sb rl)).trans rf;have l4:sb<w4.heap.size:=aaf rl qf.size;have fx:=sh qf;clear b7 qf)
  | (go_simp;go_at_call 94;(with_reducible refine(HO.out _ fx.out).mono ?_);rintro e w5 ⟨rfl,rfl⟩)
  | fail))
 all_goals
  go_wp2_with fail
  have rL:=sh (show ah [sb] w (w4.setCell ⟨sb,0,none⟩ (.int .u32 (q:Nat)))/\K7 sb (l++[t]) (w4.setCell ⟨sb,0,none⟩ (.int .u32 (q:Nat))) from by
   have s5:ah [sb] w4 (w4.setCell ⟨sb,0,none⟩ (.int .u32 (q:Nat))):=(ah.refl [sb] w4).setCell (p:=⟨sb,0,none⟩) (.inl (by simp)) _;have o4:ah [] w w4:=ah.ae fx.out [];refine⟨(o4.mono (by simp)).trans s5,?_,(HA.out.max.below fx.out HA.out.max.lt).off s5 (by rw[By];exact vi),jV (jV HA.out.row o4 (by simp)) s5 (by rw[By];exact OP)⟩;rw[HQ.out];have:=(af HA.out.cell fx.out).put 0 (.int .u32 (q:Nat));simpa using this)
  go_ret
  exact⟨rL.out.1,rfl,rL.out.2⟩
theorem JJ{sb:Nat}(vi:1≠sb)(OP:0≠sb):fW 93 #[.pointer (some ⟨sb,0,none⟩)] [1,0] (SmI sb) (fun _ _=>False) where
 enter:=fun args W=>call93 args W
 keep:=fun l X w w' U h ho hU hZ=>by
  obtain⟨h,rfl⟩:=h;exact⟨⟨ho.bk h.cell (hU _ (by simp)),h.max.off ho (hZ _ (by simp)),jV h.row ho (hZ _ (by simp))⟩,rfl⟩
 old:=fun l X w h x hx=>by
  obtain⟨h,rfl⟩:=h;rw[By]at hx;subst hx;exact h.cell.lt
 yf:=fun l X w t h hl h1 h2 h3=>by
  obtain⟨h,rfl⟩:=h;exact(Oi h vi OP t h3).mono fun e w' ⟨g1,g2,g3⟩=>⟨g1,.inl ⟨g2,[sb],fun x hx=> .inl hx,g3,rfl⟩⟩
theorem Lh{w:AI}{sp b:Nat}{K:Kr}{i:Int}{m:aL}{pv:IS}{Fo:Forest}(h:SnapOn w sp b K i m pv Fo)(hm:fA w)(hlen:Fo.main.L.length<=10000)(hT:(Fo.cB Fo.main.L).length<=100000):
  aag prog 37 #[.pointer (some ⟨sp,0,none⟩)] w (fun e w'=>No w.heap.size w w'/\e= .returned (.tuple #[.int .u32 (nZ (Fo.cB Fo.main.L):Nat),.int .i64 0])):=by
 have O1:=hm.lt;have AW:=B9 h.row;have qo:=Bk.lt h.snap;have Xf:b<w.heap.size:=by obtain⟨cs,g1,-⟩:=h.db;exact g1.lt
 have Ze:=(bT h.ok).old h.at_;have Ys:=sh (show ∀w2,No w.heap.size w w2->w.heap.size<w2.heap.size->Bk w2 w.heap.size 81 #[.int .u32 (0:Nat)]->aag prog 87 #[.pointer (some ⟨sp,0,none⟩),.func (.func 93) #[] #[.pointer (some ⟨w.heap.size,0,none⟩)]] w2 (fun e w'=>e= .returned (.int .i64 0)/\No w.heap.size w w'/\K7 w.heap.size (Fo.cB Fo.main.L) w') from fun w2 az Xp bO=>by
  refine(wy (JJ (by omega) (by omega)) (X0:=[w.heap.size]) (h.below (az)) ⟨⟨bO,hm.below az O1,jV h.row (ah.ae az []) (by simp)⟩,rfl⟩ (fun x hx=>by
   rw[By]at hx;subst hx;exact⟨by omega,by omega,fun hk=>by have:=Ze _ hk;omega⟩) (fun x hx=>by
   rcases IT.1 hx with rfl|hx
   ·omega
   ·rw[By]at hx
    subst hx;omega) hlen hT).mono fun e w' ⟨g1,g2,g3⟩=> ?_
  refine⟨g1,az.trans (g2.below (by omega) (fun g hg=>by rw[By]at hg;omega)),?_⟩;rcases g3 with⟨X,g4,-⟩|⟨l,-,-,hf⟩
  ·exact g4
  ·exact hf.elim)
 have HB:=sh (IN w.heap.size w);clear h hm Ze hlen hT;go_enter func37,ntmps37
 go_wp2_with fail
 refine(Ys.out _ ((IN _ w).alloc (AS _) _) (by simp) (Bk.new w _ _)).mono ?_;rintro e w3 ⟨rfl,aQ,oo⟩;have r0:=oo.cell.cell 0;have rl:=oo.cell.lt;have dt:=sh aQ;clear aQ oo Ys;go_wp2_with fail
 go_ret2
 exact⟨dt.out,rfl⟩
end Go.Proofs.YtjbcbnemdhbhbaaGreatDoor
