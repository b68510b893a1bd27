import Derived.Test.YtjbcbnemdhbhbaaGreatDoorA1
import Derived.Test.YtjbcbnemdhbhbaaGreatDoorA2
import Derived.Lib.MakeNoZero
import Derived.Laws.BitsAllLaws
import Derived.Deep.CutBlock
set_option maxRecDepth 100000
set_option linter.unusedVariables false
set_option linter.unusedSimpArgs false
set_option maxHeartbeats 40000000
open Bool renaming and_eq_true→abL
open ByteArray renaming size_append→aco
open Go renaming Calls→aaf,World→AI
open Go.Lib renaming cell_of_heap→acv,frozen_of_heap→ahg,hid→sh
open Go.Op renaming bytesLess→acj
open Go.RowKit renaming Below→IT
open Go.RowKit.Below renaming refl→BY
open Go.World renaming setCell→aeY
open List renaming all_eq_true→aes,getElem_mem→abE,length_cons→abv,length_replicate→adV,replicate→abN,take_of_length_le→aca,take_succ_eq_append_getElem→aaU
open Nat renaming le_refl→AS,zero_le→abi
namespace Go.Proofs.YtjbcbnemdhbhbaaGreatDoor
open Go.Proofs.Tryz
open Go.RowKit
open Go.PlainAid
theorem E2(c:Nat)(h:c<4294967296):bits .and .u64 (c:Int) 4294967295=(c:Int):=by
 have:=u64_and_nat c 4294967295 (by omega) (by decide);rw[show c &&& 4294967295=c%4294967296 from Nat.and_two_pow_sub_one_eq_mod c 32,Nat.mod_eq_of_lt h]at this;exact this
theorem Jr(c:Nat)(w:AI)(h:c<=100000):
  aaf prog 209 #[.int .u64 1,.int .u64 c] w fun e w'=>e= .returned (.tuple #[.int .u64 0,.int .u64 c])/\w=w':=by
 have e1:=E2 1 (by decide);have e2:=E2 c (by omega);have e3:=E2 0 (by decide);have e4:(c:Int)/4294967296=0:=by omega
 have e1':bits .and .u64 1 4294967295=1:=e1;have e3':bits .and .u64 0 4294967295=0:=e3;clear e1 e3;go_enter func209,ntmps209
 go_wp2_with fail
 go_ret2
 simp
theorem mul_one(c:Nat)(w:AI)(h:c<=100000):
  aaf prog 150 #[.int .u64 1,.int .u64 c] w fun e w'=>e= .returned (.tuple #[.int .u64 0,.int .u64 c])/\w=w':=by
 have H:=sh fun W:AI=>Jr c W h;go_enter func150,ntmps150
 go_wp2_with (go_at_call 209;refine(H.out _).mono ?_;rintro e w' ⟨rfl,rfl⟩)
 go_ret2
 exact⟨rfl,rfl⟩
theorem wL(B b n:Nat)(w:AI)(hB:B<=b)(aT:w.heap[b]? =some (.cells #[.pointer (some ⟨b,0,none⟩),.slice none 0 0] 300 (0,0)))(QC:B<=w.heap.size)(hn:n<=100000):
  aaf prog 279 #[.pointer (some ⟨b,0,none⟩),.int .i64 n] w fun e w'=>e= .returned (.tuple #[])/\(Lib.BuilderAt 300 5 B b (.pointer (some ⟨b,0,none⟩)) [] w'/\IT B w w'):=by
 obtain⟨cs,bZ,hle,afq⟩:=Lib.run_makeNoZero (P:=prog) w.drew #[3] 36 5 underlying36 n (by omega);have ZH:(callFunc 293 #[.int .i64 (n:Int)]).run prog w.drew= .ok (.value (.slice (some ⟨w.drew.heap.size,0,none⟩) n cs.size)) (w.drew.drew.drew.alloc (.cells cs 5)):=by
  rw[run_callFunc_extern func293 (by kernel_rfl) (by kernel_rfl) (by kernel_rfl) (e:=Extern.BytealgMakeNoZero.makeNoZero #[3] #[36]) (by kernel_rfl),bZ];rfl
 have c1:w.drew.cell? ⟨b,1,none⟩=some (.slice none 0 0):=by
  have:w.drew.heap[b]? =_:=aT;rw[acv this];rfl
 have aH:b<w.heap.size:=lt_of_block aT;have c2:(w.alloc (.cells cs 5)).cell? ⟨b,1,none⟩=some (.slice none 0 0):=by
  have:(w.alloc (.cells cs 5)).heap[b]? =_:=(Lib.alloc_old w _ b aH).trans aT;rw[acv this];rfl
 have f2:(w.alloc (.cells cs 5)).frozen? ⟨b,1,none⟩=false:=ahg ((Lib.alloc_old w _ b aH).trans aT) 1;have ahV:∀W:AI,(Builtin.copy_ #[36,36] 3 #[.slice (some ⟨w.heap.size,0,none⟩) 0 cs.size,.slice none 0 0]).run prog W= .ok (goInt 0) W:=
  fun W=>run_copy_none W 36 36 3 5 _ _ 0 cs.size 0 0 underlying36 (by kernel_rfl) rfl
 have nj:=Lib.grown_fresh (T:=300) (e:=5) (cs:=cs) hB aT QC (afq (by unfold maxLen;omega)) Of;have hsw:(w.alloc (.cells cs 5)).setCell ⟨b,1,none⟩ (.slice (some ⟨w.heap.size,0,none⟩) 0 cs.size)=(w.setCell ⟨b,1,none⟩ (.slice (some ⟨w.heap.size,0,none⟩) 0 cs.size)).alloc (.cells cs 5):=World.setCell_alloc_past _ _ _ _ aH;rw[hsw]at nj;clear hsw;go_enter func279,ntmps279
 go_wp2_with fail
 go_region
 all_goals (go_wp2_with fail;go_end0;exact⟨rfl,nj⟩)
theorem wK(B b n:Nat)(w:AI)(hB:B<=b)(aT:w.heap[b]? =some (.cells #[.pointer none,.slice none 0 0] 300 (0,0)))(QC:B<=w.heap.size)(hn:n<=100000)(h1:1<=n):
  aaf prog 260 #[.pointer (some ⟨b,0,none⟩),.int .i64 n] w fun e w'=>e= .returned (.tuple #[])/\(SB B b [] w'/\IT B w w'):=by
 have Bh:(w.setCell ⟨b,0,none⟩ (.pointer (some ⟨b,0,none⟩))).heap[b]? =some (.cells #[.pointer (some ⟨b,0,none⟩),.slice none 0 0] 300 (0,0)):=by
  simp[aeY,Array.getElem?_modify,aT]
 have c1:(w.setCell ⟨b,0,none⟩ (.pointer (some ⟨b,0,none⟩))).cell? ⟨b,1,none⟩=some (.slice none 0 0):=by rw[acv Bh];rfl
 have ar:IT B w (w.setCell ⟨b,0,none⟩ (.pointer (some ⟨b,0,none⟩))):=(BY B w).setCell (p:=⟨b,0,none⟩) hB _;have c1':(w.setCell ⟨b,0,none⟩ (.pointer (some ⟨b,0,none⟩))).drew.cell? ⟨b,1,none⟩=some (.slice none 0 0):=c1;have q1:decide ((n:Int)<0)=false:=by simp
 have q2:decide ((0:Int)<n)=true:=by simp;omega
 have HC:=sh (iM b w (by rw[acv aT];rfl) (by simp[World.shape?,aT]) (ahg aT 0));have HG:=sh (wL B b n (w.setCell ⟨b,0,none⟩ (.pointer (some ⟨b,0,none⟩))).drew hB Bh (by simpa[aeY,World.drew,-World.drew_eq]using QC) hn);have HB:=sh ar;clear aT Bh ar;go_enter func260,ntmps260
 go_wp2_with (go_at_call 244;refine HC.out.mono ?_;rintro e w' ⟨rfl,rfl⟩)
 go_region
 all_goals go_wp2_with (go_at_call 279;refine HG.out.mono ?_;rintro e w' ⟨rfl,h1,h2⟩)
 all_goals (go_end0;exact⟨rfl,Or.inr h1,HB.out.drew.trans h2⟩)
def bw (c:Nat):ByteArray:=⟨(abN c (0:UInt8)).toArray⟩
theorem fM(c:Nat):(bw c).size=c:=by unfold bw;rw[ct,adV]
theorem fL(c:Nat):(bw c).data.toList=abN c 0:=rfl
theorem Cd(c k:Nat)(h:k<=c):(bw c).extract 0 k=bw k:=by
 apply jF;rw[cU,fL,fL];simp[List.take_replicate];omega
theorem run_min_int3{P:Program}{w:AI}(ts:Array TypeId)(t:TypeId)(k k' k'':IntKind)(x y z:Int):
  (Builtin.min_ ts t #[.int k x,.int k' y,.int k'' z]).run P w= .ok (.int k (if z<(if y<x then y else x)then z else (if y<x then y else x))) w:=by
 simp[Builtin.min_,Builtin.min2]
theorem Fq(c:Nat)(w:AI)(hc:c<=8000):
  aaf prog 231 #[.string ⟨#[0]⟩,.int .i64 c] w (gT (bw c) w):=by
 by_cases h0:c=0
 ·subst h0
  go_enter func231,ntmps231
  go_wp2_with fail
  go_ret
  exact⟨rfl,BY _ _⟩
 by_cases h1:c=1
 ·subst h1
  go_enter func231,ntmps231
  go_wp2_with fail
  go_ret
  exact⟨rfl,BY _ _⟩
 have q0:((c:Int)==0)=false:=by simp;omega
 have q1:((c:Int)==1)=false:=by simp;omega
 have q2:decide ((c:Int)<0)=false:=by simp
 have q3:decide (9223372036854775807<(c:Int))=false:=by simp;omega
 have q4:decide (8192<(c:Int))=false:=by simp;omega
 have h2:2<=c:=by omega
 have HM:=sh fun W:AI=>mul_one c W (by omega);have HG:=sh (wK w.heap.size w.heap.size c (w.alloc (.cells #[.pointer none,.slice none 0 0] 300)) (AS _) (heap_alloc_new w _) (by simp) (by omega) (by omega));have eE:IT w.heap.size w (w.alloc (.cells #[.pointer none,.slice none 0 0] 300)):=(BY _ _).alloc (AS _) _;have HW:=sh eE;clear h0 h1 eE;go_enter func231,ntmps231
 go_wp2_with (first
  | (go_at_call 150;refine(HM.out _).mono ?_;rintro e w' ⟨rfl,rfl⟩)
  | (go_at_call 260;refine HG.out.mono ?_;rintro e w1 ⟨rfl,nD,ar⟩;have Ul:=sh nD;have bh:=sh (HW.out.trans ar);clear nD ar)
  | (go_at_call 204;refine(CJ w.heap.size _ [] ⟨#[0]⟩ w1 (Lib.IsBuilderF.of Ul.out) (by decide) bh.out.size).mono ?_;rintro e w2 ⟨rfl,kd,aC⟩;have bm:=sh (bh.out.trans aC))
  | fail)
 have jO:=sh (show SF w.heap.size w.heap.size (abN 1 0) w2 from kd);clear kd aC;have om:∀(W:AI) (q:Nat),1<=q->q<c->(Builtin.min_ #[3,3,3] 3 #[.int .i64 ((c:Int)-q),.int .i64 (q:Int),.int .i64 (c:Int)]).run prog W= .ok (.int .i64 ((min (c-q) q:Nat):Int)) W:=by
  intro W q MU Q7;rw[run_min_int3]
  congr 2
  split<;>split<;>omega
 have HMN:=sh om;clear om
 go_loopg [10] (c-1) (fun k _ wr=>∃q:Nat,1<=q/\q+k=c/\Hid (SF w.heap.size w.heap.size (abN q 0) wr)/\Hid (IT w.heap.size w wr))
 case atStart=>exact⟨1,AS _,by omega,jO.out,bm.out⟩
 case round=>
  obtain⟨q,MU,hqk,HS,HB⟩:=hrel;have bM:abN q (0:UInt8)≠[]:=by
   intro h;have:=congrArg List.length h;simp at this;omega
  have hl:(abN q (0:UInt8)).length=q:=adV;have HL:=sh (WD _ _ _ wr HS.out);rw[hl]at HL;have ka:=sh (show aaf prog 207 #[.pointer (some ⟨w.heap.size,0,none⟩)] wr fun e w'=>e= .returned (.string (bw q))/\(SF w.heap.size w.heap.size (abN q 0) w'/\IT w.heap.size wr w') from JP _ _ _ wr HS.out bM);by_cases aH:q<c
  ·have om:=HMN.out wr q MU aH
   have mM:min (c-q) q<=q:=by omega
   have ze:1<=min (c-q) q:=by omega
   have jf:q+min (c-q) q<=c:=by omega
   generalize min (c-q) q=m at *;have hex:=Cd q m mM;have VN:=fM q;have XT:=sh hex;have alX:q<=(bw q).size:=by omega
   have alY:(bw q).size<=q:=by omega
   generalize bw q=nq at *;clear hl hex VN bM;go_wp2_with (first
    | (go_at_call 206;refine HL.out.mono ?_;rintro e w' ⟨rfl,rfl⟩)
    | (go_at_call 207;refine ka.out.mono ?_;rintro e w3 ⟨rfl,zV,aN⟩)
    | fail)
   rw[XT.out];have se:=HB.out.trans aN;refine(CJ w.heap.size _ _ (bw m) w3 zV (by rw[adV,fM];omega) se.size).mono ?_;rintro e w4 ⟨rfl,Pu,bT⟩;rw[fL,List.replicate_append_replicate]at Pu;have aeH:=se.trans bT;clear zV aN bT;go_wp2_with fail
   go_roundg (c-(q+m))
   case measure=>omega
   case rel=>exact⟨q+m,by omega,by omega,Pu,aeH⟩
  ·obtain rfl:q=c:=by omega
   clear hl bM;go_wp2_with (first
    | (go_at_call 206;refine HL.out.mono ?_;rintro e w' ⟨rfl,rfl⟩)
    | (go_at_call 207;refine ka.out.mono ?_;rintro e w3 ⟨rfl,zV,aN⟩)
    | fail)
   go_ret
   exact⟨rfl,HB.out.trans aN⟩
def lays (l:List (Nat×Nat)):List UInt8:=l.flatMap fun p=>Be.low p.1 p.2
theorem Jh(l:List (Nat×Nat))(p:Nat×Nat):lays (l++[p])=lays l++Be.low p.1 p.2:=by unfold lays;simp[List.flatMap_append]
theorem Ni(l:List (Nat×Nat))(h:∀p∈l,p.2<=8):(lays l).length<=8*l.length:=by
 induction l with
 | nil=>simp[lays]
 | cons p l ih=>
  have h1:=h p (by simp);have h2:=ih (fun q hq=>h q (by simp[hq]));have e:lays (p::l)=Be.low p.1 p.2++lays l:=by unfold lays;simp
  rw[e,List.length_append,Be.au,abv];omega
def qb (w:AI) (g:Nat) (l:List (Nat×Nat)):Prop:=
 g<w.heap.size/\∀i (h:i<l.length),w.cell? ⟨g,i*2,none⟩=some (.int .i64 (l[i].1:Nat))/\w.cell? ⟨g,i*2+1,none⟩=some (.int .i64 (l[i].2:Nat))
def Fits (l:List (Nat×Nat)):Prop:=∀p∈l,1<=p.2/\p.2<=8/\p.1<256 ^ p.2/\p.1<281474976710656
theorem qb.below{w w':AI}{g:Nat}{l:List (Nat×Nat)}(h:qb w g l)(hb:IT w.heap.size w w'):qb w' g l:=
 ⟨Nat.lt_of_lt_of_le h.1 hb.size,fun i hi=>⟨(hb.cell (p:=⟨g,i*2,none⟩) h.1).trans (h.2 i hi).1,(hb.cell (p:=⟨g,i*2+1,none⟩) h.1).trans (h.2 i hi).2⟩⟩
theorem s7(s:ByteArray)(g m:Nat)(l:List (Nat×Nat))(w:AI)(hm:m=l.length)(hl:l.length<=100)(hs:s.size<=10000)(hg:qb w g l)(hf:Fits l):
  aaf prog 175 #[.string s,.slice (some ⟨g,0,none⟩) m m] w (gT (s++⟨(lays l).toArray⟩) w):=by
 subst hm;have HG:=sh hg;have HF:=sh hf;clear hg hf;go_enter func175,ntmps175
 go_wp2_with fail
 go_loopw [0,9] (fun x i wr=>∃(j:Nat),i= .int .i64 j/\x= .string (s++⟨(lays (l.take j)).toArray⟩)/\j<=l.length/\Hid (IT w.heap.size w wr)) (fun _ i _=>l.length-(intOf i).toNat)
 case atStart=>exact⟨0,rfl,by congr 1;apply jF;rw[aP];simp[lays],abi _,BY _ _⟩
 case round=>
  obtain⟨j,rfl,rfl,hj,HB⟩:=hrel;by_cases aH:j<l.length
  ·obtain⟨c1,c2⟩:=(HG.out.below HB.out).2 j aH
   have nB:=(HG.out.below HB.out).1;obtain⟨f1,f2,f3,f4⟩:=HF.out l[j] (abE aH);have cZ:(s++⟨(lays (l.take j)).toArray⟩:ByteArray).size<=20000:=by
    have:=Ni (l.take j) (fun p hp=>(HF.out p (List.mem_of_mem_take hp)).2.1);rw[List.length_take]at this;have e:=ct (lays (l.take j));rw[aco];omega
   have HT:=sh (show (s++⟨(lays (l.take j)).toArray⟩++⟨(Be.low l[j].1 l[j].2).toArray⟩:ByteArray)=s++⟨(lays (l.take (j+1))).toArray⟩by
    apply jF;rw[aaU aH,Jh,aP,aP,aP];simp)
   have HP:=sh fun W:AI=>gX (s++⟨(lays (l.take j)).toArray⟩) l[j].1 l[j].2 W (by omega) f1 f2 f3;generalize (s++⟨(lays (l.take j)).toArray⟩:ByteArray)=sx at *;generalize l[j].1=n at *;generalize l[j].2=k at *;have Jb:=HB.out.size;clear f3;go_wp2_with (first
    | (go_at_call 160;refine(HP.out _).mono ?_;rintro e w2 ⟨rfl,aC⟩)
    | fail)
   have aN:IT w.heap.size w w2:=(HB.out.alloc Jb _).trans (aC.mono (by simp;omega));go_roundw
   case rel=>exact⟨j+1,by go_num,by rw[HT.out],by omega,aN⟩
   case measure=>simp[intOf];omega
  ·have HT:=sh (show l.take j=l from aca (by omega))
   go_wp2_with fail
   go_ret
   exact mY (by rw[HT.out]) HB.out
theorem tW(s:ByteArray)(m:Nat)(w:AI)(hs:s.size<=m)(hm:m<=8000):
  aaf prog 176 #[.string s,.int .i64 m] w (gT (s++bw (m-s.size)) w):=by
 have HR:=sh fun W:AI=>Fq (m-s.size) W (by omega);have e:(m:Int)-s.size=((m-s.size:Nat):Int):=by omega
 have hz:(bw (m-s.size)).size<=8000:=by rw[fM];omega
 generalize m-s.size=c at *;generalize bw c=nc at *;go_enter func176,ntmps176
 go_wp2_with (first
  | (go_at_call 231;refine(HR.out _).mono ?_;rintro e w2 ⟨rfl,aC⟩)
  | fail)
 go_ret
 exact⟨rfl,aC⟩
def dH (q:Int) (w:AI) (e:Ending) (w':AI):Prop:=e= .returned (.int .i64 q)/\IT w.heap.size w w'
theorem at_any(s:ByteArray)(p k:Nat)(w:AI)(hs:s.size<=1000000)(h1:1<=k)(h8:k<=8)(hp:p+k<=s.size):
  aaf prog 211 #[.string s,.int .i64 p,.int .i64 k] w (dH (wrap64 (ai s p k)) w):=by
 have HT:=sh fun W:AI=>fO s p k W hs h1 h8 hp;generalize ai s p k=n at *;go_enter func211,ntmps211
 go_wp2_with (first
  | (go_at_call 120;refine(HT.out _).mono ?_;rintro e w2 ⟨rfl,aC⟩)
  | fail)
 go_ret
 exact⟨rfl,aC⟩
end Go.Proofs.YtjbcbnemdhbhbaaGreatDoor
namespace Go.Proofs.YtjbcbnemdhbhbaaGreatDoor
open Go.Proofs.Tryz
open Go.RowKit
theorem fq{q q':Int}{w w':AI}(h:q=q')(hb:IT w.heap.size w w'):dH q w (.returned (.int .i64 q')) w':=by subst h;exact⟨rfl,hb⟩
theorem aW.at{w:AI}{S:Nat->Prop}{r:Rw}{l:List Ce}(h:aW w S r l)(i:Nat)(hi:i<l.length):∃b o,r.A=some ⟨b,o,none⟩/\(S b/\b<w.heap.size)/\w.cell? ⟨b,o+i*5,none⟩=some (.string l[i].key)/\
  w.cell? ⟨b,o+i*5+1,none⟩=some (.string l[i].val)/\w.cell? ⟨b,o+i*5+2,none⟩=some (.int .i64 l[i].over)/\w.cell? ⟨b,o+i*5+3,none⟩=some (.int .i64 l[i].size)/\w.cell? ⟨b,o+i*5+4,none⟩=some (.int .i64 l[i].child):=by
 obtain⟨h1,h2,h3,h4⟩:=h;obtain⟨b,o,c,q1,q2,q3,q4,q5⟩:=h4 i l[i] (List.getElem?_eq_getElem hi);unfold Ho at q5;subst q5;exact⟨b,o,q1,q2,q4 0 _ rfl,q4 1 _ rfl,q4 2 _ rfl,q4 3 _ rfl,q4 4 _ rfl⟩
theorem aW.keep{w w':AI}{S T:Nat->Prop}{r:Rw}{l:List Ce}(h:aW w S r l)(hs:w.heap.size<=w'.heap.size)(hk:∀b,S b->b<w.heap.size->w'.heap[b]? =w.heap[b]?)(hT:∀b,S b->b<w.heap.size->T b):aW w' T r l:=
 fZ.keep lF h hs hk hT
theorem aW.below{w w':AI}{S:Nat->Prop}{r:Rw}{l:List Ce}(h:aW w S r l)(hb:IT w.heap.size w w'):aW w' S r l:=
 h.keep hb.size (fun b _ aH=>hb.block b aH) (fun _ h _=>h)
theorem mW{s:ByteArray}(h:s.size=0):s=⟨#[]⟩:=by
 obtain⟨⟨l⟩⟩:=s;have:l.length=0:=h;obtain rfl:=List.eq_nil_of_length_eq_zero this;rfl
theorem Ov{s:ByteArray}(h:0<s.size):s.toList.isEmpty=false:=by
 rw[ByteArray.toList_eq];have:s.data.toList.length=s.size:=rfl;cases hl:s.data.toList with
 | nil=>rw[hl]at this;simp at this;omega
 | cons _ _=>rfl
theorem wG(c:Ce)(w:AI)(h:Nd.bQ c=true):aaf prog 287 #[.agg #[.string c.key,.string c.val,.int .i64 c.over,.int .i64 c.size,.int .i64 c.child]] w (gl true w):=by
 obtain⟨key,val,over,size,child⟩:=c;unfold Nd.bQ at h;simp only[abL,decide_eq_true_eq,beq_iff_eq]at h;obtain⟨⟨⟨h1,h2⟩,rfl⟩,h4⟩:=h;have k1:=Ov h1;have k2:decide ((120:Int)<(key.size:Int))=false:=decide_eq_false (by omega);by_cases ho:over=0
 ·rw[if_pos ho]at h4
  simp only[abL,decide_eq_true_eq,beq_iff_eq]at h4;obtain⟨rfl,h5⟩:=h4;subst ho;have k3:decide ((val.size:Int)<=96)=true:=decide_eq_true (by omega);clear h1 h2 h5;go_enter func287,ntmps287
  go_wp2_with fail
  go_ret
  exact ec rfl ((BY _ w).alloc (AS _) _)
 ·rw[if_neg ho]at h4
  simp only[abL,decide_eq_true_eq,beq_iff_eq]at h4;obtain⟨⟨⟨h5,h6⟩,h7⟩,h8⟩:=h4;have hv:=mW h5;subst hv;have k3:((over:Int)==0)=false:=by rw[beq_eq_false_iff_ne];omega
  have k3':(over==0)=false:=by rw[beq_eq_false_iff_ne];omega
  have k4:decide ((1:Int)<=(over:Int))=true:=decide_eq_true (by omega);have k5:decide ((over:Int)<512)=true:=decide_eq_true (by omega);have k6:decide ((96:Int)<(size:Int))=true:=decide_eq_true (by omega);have k7:decide ((size:Int)<=4000)=true:=decide_eq_true (by omega);clear h1 h2 h5 h6 h7 h8 ho;go_enter func287,ntmps287
  go_wp2_with fail
  go_ret
  exact ec rfl ((BY _ w).alloc (AS _) _)
theorem sy(c:Ce)(w:AI)(h:Nd.cn c=true):aaf prog 286 #[.agg #[.string c.key,.string c.val,.int .i64 c.over,.int .i64 c.size,.int .i64 c.child]] w (gl true w):=by
 obtain⟨key,val,over,size,child⟩:=c;unfold Nd.cn at h;simp only[abL,decide_eq_true_eq,beq_iff_eq]at h;obtain⟨⟨⟨⟨⟨h1,h2⟩,h3⟩,h4⟩,rfl⟩,rfl⟩:=h;have hv:=mW h4;subst hv;have k1:decide ((key.size:Int)<=120)=true:=decide_eq_true (by omega);have k2:decide ((1:Int)<=(child:Int))=true:=decide_eq_true (by omega);have k3:decide ((child:Int)<512)=true:=decide_eq_true (by omega);clear h1 h2 h3 h4;go_enter func286,ntmps286
 go_wp2_with fail
 go_ret
 exact ec rfl ((BY _ w).alloc (AS _) _)
def Ia (w:AI) (e:Ending) (w':AI):Prop:=IT w.heap.size w w'/\∃q:Bool,e= .returned (.bool q)
theorem qD(c:Ce)(w:AI):aaf prog 286 #[.agg #[.string c.key,.string c.val,.int .i64 c.over,.int .i64 c.size,.int .i64 c.child]] w (Ia w):=by
 obtain⟨key,val,over,size,child⟩:=c;go_enter func286,ntmps286
 go_wp2_with fail
 all_goals
  go_ret
  exact⟨(BY _ w).alloc (AS _) _,_,rfl⟩
theorem CK(leaf:Bool)(c:Ce)(w:AI)(hk:c.key.size<=1000000)(hv:c.val.size<=1000000):aaf prog 255 #[.bool leaf,.agg #[.string c.key,.string c.val,.int .i64 c.over,.int .i64 c.size,.int .i64 c.child]] w (dH (Nd.size leaf c) w):=by
 obtain⟨key,val,over,size,child⟩:=c;simp only at hk hv;obtain⟨n,hn⟩:∃n:Int,n=(Nd.size leaf ⟨key,val,over,size,child⟩:Nat):=⟨_,rfl⟩;rw[<-hn];cases leaf with
 | false=>
  have HN:=sh (show n=4+(key.size:Int)+4 by rw[hn];unfold Nd.size;simp);clear hn;go_enter func255,ntmps255
  go_wp2_with fail
  go_ret
  exact fq HN.out ((BY _ w).alloc (AS _) _)
 | true=>
  by_cases ho:0<over
  ·have k1:decide ((0:Int)<(over:Int))=true:=decide_eq_true (by omega)
   have k2:decide (0<over)=true:=decide_eq_true ho;have HN:=sh (show n=4+(key.size:Int)+9 by rw[hn];unfold Nd.size;simp[ho]);clear hn ho;go_enter func255,ntmps255
   go_wp2_with fail
   go_ret
   exact fq HN.out ((BY _ w).alloc (AS _) _)
  ·have k1:decide ((0:Int)<(over:Int))=false:=decide_eq_false (by omega)
   have k2:decide (0<over)=false:=decide_eq_false ho;have HN:=sh (show n=4+(key.size:Int)+3+(val.size:Int)by rw[hn];unfold Nd.size;simp[ho]);clear hn ho;go_enter func255,ntmps255
   go_wp2_with fail
   go_ret
   exact fq HN.out ((BY _ w).alloc (AS _) _)
theorem wrap_u64(n:Nat)(h:n<18446744073709551616):IntKind.u64.wrap (n:Int)=(n:Int):=IntWalk.u64_in _ (by omega)
theorem wrap_i64(n:Nat)(h:n<9223372036854775808):IntKind.i64.wrap (n:Int)=(n:Int):=IntWalk.i64_in _ (by omega)
theorem zE(s t:ByteArray)(w:AI)(hs:s.size<=1000000)(ht:t.size<=65535):
  aaf prog 288 #[.string s,.string t] w (cT (s++⟨(Be.low t.size 2).toArray⟩++t) 0 w):=by
 have H:=sh fun(W:AI)=>gX s t.size 2 W hs (by omega) (by omega) (by omega);have k1:decide ((65535:Int)<(t.size:Int))=false:=decide_eq_false (by omega);have hw:=wrap_u64 t.size (by omega);obtain⟨r,hr⟩:∃r,r=s++⟨(Be.low t.size 2).toArray⟩:=⟨_,rfl⟩;rw[<-hr]at H |-;have hrs:r.size<=1000002:=by
  have h2:=ct (Be.low t.size 2);rw[Be.au]at h2;rw[hr,aco,h2];omega
 clear hr;go_enter func288,ntmps288
 go_wp2_with (first
  | (go_at_call 160;go_must (refine(H.out _).mono ?_);rintro e w1 ⟨rfl,ar⟩)
  | fail)
 go_ret2
 exact⟨rfl,ar⟩
theorem mn(s:ByteArray)(p n:Nat)(w:AI)(hs:s.size<=1000000)(hp:p+2+n<=s.size)(hn:ai s p 2=n):
  aaf prog 280 #[.string s,.int .i64 p] w (fun e w'=>e= .returned (.tuple #[.string (s.extract (p+2) (p+2+n)),.int .i64 ((p:Int)+2+n),.int .i64 0])/\IT w.heap.size w w'):=by
 have H:=sh fun(W:AI)=>(show aaf prog 120 #[.string s,.int .i64 p,.int .i64 2] W (fE n W)by rw[<-hn];exact fO s p 2 W hs (by omega) (by omega) (by omega));have hw:=wrap_u64 (s.size-p-2) (by omega);have he:((s.size-p-2:Nat):Int)=(s.size:Int)-(p:Int)-2:=by omega
 rw[he]at hw;have k1:decide ((s.size:Int)-(p:Int)-2<(n:Int))=false:=decide_eq_false (by omega);have Ra:=wrap_i64 n (by omega);clear hn he;go_enter func280,ntmps280
 go_wp2_with (first
  | (go_at_call 120;go_must (refine(H.out _).mono ?_);rintro e w1 ⟨rfl,ar⟩)
  | fail)
 go_ret3
 exact⟨rfl,ar⟩
def Small (l:List Ce):Prop:=l.length<=10000/\∀c∈l,c.key.size<=1000/\c.val.size<=1000
theorem vi(leaf:Bool){c:Ce}(h:c.key.size<=1000/\c.val.size<=1000):Nd.size leaf c<=2007:=by
 unfold Nd.size;repeat' split
 all_goals omega
theorem JW(leaf:Bool){l:List Ce}(h:∀c∈l,c.key.size<=1000/\c.val.size<=1000):(l.map (Nd.size leaf)).sum<=2007*l.length:=by
 induction l with
 | nil=>simp
 | cons c l ih=>
  have h1:=vi leaf (h c (by simp));have h2:=ih fun x hx=>h x (by simp[hx]);rw[List.map_cons,List.sum_cons,abv];omega
theorem uS(leaf:Bool)(r:Rw)(l:List Ce)(S:Nat->Prop)(w:AI)(h:aW w S r l)(hl:Small l):
  aaf prog 254 #[.bool leaf,.slice r.A r.n r.c] w (dH (Nd.sum leaf l) w):=by
 obtain⟨A,n,cap⟩:=r;have hr:=h;obtain⟨h1,h2,h3,-⟩:=hr;simp only at h1 h2 h3 |-;subst h1;obtain⟨N,hN⟩:∃N:Int,N=(Nd.sum leaf l:Nat):=⟨_,rfl⟩;rw[<-hN];have HN:=sh hN;have HR:=sh h;have HL:=sh hl;have De:=hl.1;have cI:cap<=9223372036854775807:=by unfold maxLen at h3;omega
 clear h hN h3 hl;go_enter func254,ntmps254
 go_wp2_with fail
 go_loopw [5,10] (fun u i wr=>∃(j y:Nat),i= .int .i64 j/\u= .int .i64 y/\j<=l.length/\y<=2+2007*j/\Hid (y=2+((l.take j).map (Nd.size leaf)).sum)/\IT w.heap.size w wr) (fun _ i _=>l.length-(intOf i).toNat)
 case atStart=>exact⟨0,2,rfl,rfl,abi _,by omega,sh (by simp),BY _ _⟩
 case round=>
  obtain⟨j,y,rfl,rfl,hj,hy,HY,eE⟩:=hrel;have fW:=sh eE;by_cases aH:j<l.length
  ·have z1:decide ((j:Int)<(l.length:Int))=true:=decide_eq_true (by omega)
   obtain⟨b,o,hA,hS,q0,q1,q2,q3,q4⟩:=(HR.out.below eE).at j aH;simp only at hA;subst hA;have fV:=hS.2;have hm:=HL.out.2 _ (abE aH);have cZ:=vi leaf hm;have HC:=sh fun(W:AI)=>CK leaf l[j] W (by omega) (by omega);have HT:=sh (show ((l.take (j+1)).map (Nd.size leaf)).sum=((l.take j).map (Nd.size leaf)).sum+Nd.size leaf l[j]by rw[aaU aH,List.map_append,List.sum_append];simp);obtain⟨z,hz⟩:∃z,z=Nd.size leaf l[j]:=⟨_,rfl⟩;rw[<-hz]at HC HT cZ;obtain⟨x,hx⟩:∃x,x=l[j]:=⟨_,rfl⟩;rw[<-hx]at HC q0 q1 q2 q3 q4;clear hS hm hz hx eE;go_wp2_with (first
    | (go_at_call 255;go_must (refine(HC.out _).mono ?_);rintro e w2 ⟨rfl,aC⟩;have bm:=sh ((fW.out.alloc fW.out.size (.cells #[.string x.key,.string x.val,.int .i64 x.over,.int .i64 x.size,.int .i64 x.child] 170)).trans (aC.mono (by have:=fW.out.size;simp;omega)));clear aC)
    | fail)
   go_roundw
   case rel=>first|exact⟨j+1,y+z,by go_num,by go_num,by omega,by omega,sh (by rw[HT.out,HY.out];omega),bm.out⟩|((repeat apply Exists.intro);exact⟨⟨j+1,y+z,by go_num,by go_num,by omega,by omega,sh (by rw[HT.out,HY.out];omega),bm.out⟩,rfl⟩)
   case measure=>simp[intOf];omega
  ·have z1:decide ((j:Int)<(l.length:Int))=false:=decide_eq_false (by omega)
   have HV:=sh (show N=(y:Int)by rw[HN.out,HY.out,aca (by omega)];rfl);clear eE;go_wp2_with fail
   go_ret
   exact fq HV.out fW.out
theorem below_drewN{B:Nat}{w w':AI}(h:IT B w w')(n:Nat):IT B w (w'.drewN n):=⟨h.os,h.tape,h.output,h.size,h.block⟩
theorem bN{w w2:AI}{t:TypeId}{v0 v1 v2 v3 v4:Value}(hb:IT (w.alloc (.cells #[v0,v1,v2,v3,v4] t)).heap.size (w.alloc (.cells #[v0,v1,v2,v3,v4] t)) w2):
  w2.cell? ⟨w.heap.size,0,none⟩=some v0/\w2.cell? ⟨w.heap.size,1,none⟩=some v1/\w2.cell? ⟨w.heap.size,2,none⟩=some v2/\w2.cell? ⟨w.heap.size,3,none⟩=some v3/\w2.cell? ⟨w.heap.size,4,none⟩=some v4/\
   w.heap.size<w2.heap.size/\IT w.heap.size w w2/\Bk w2 w.heap.size t #[v0,v1,v2,v3,v4]:=by
 have h:=ae (Bk.new w t #[v0,v1,v2,v3,v4]) hb;exact⟨h.cell 0,h.cell 1,h.cell 2,h.cell 3,h.cell 4,h.lt,((BY _ w).alloc (AS _) _).trans (hb.mono (by simp)),h⟩
theorem yc(leaf:Bool)(r:Rw)(l:List Ce)(S:Nat->Prop)(w:AI)(h:aW w S r l)(hl:l.length<=10000)(hr:Nd.right leaf l=true):
  aaf prog 268 #[.bool leaf,.slice r.A r.n r.c] w (gl true w):=by
 obtain⟨A,n,cap⟩:=r;have iT:=h;obtain⟨h1,h2,h3,-⟩:=iT;simp only at h1 h2 h3 |-;subst h1;have HR:=sh h;have cI:cap<=9223372036854775807:=by unfold maxLen at h3;omega
 unfold Nd.right at hr;simp only[abL,Bool.or_eq_true]at hr;obtain⟨za,dN,kM⟩:=hr;have HA:=sh dN;have HI:=sh kM;clear h3 dN kM;cases leaf with
 | true=>
  clear za h;go_enter func268,ntmps268
  go_wp2_with fail
  go_loopw [24] (fun i wr=>∃(j:Nat),i= .int .i64 j/\j<=l.length/\IT w.heap.size w wr) (fun i _=>l.length-(intOf i).toNat)
  case atStart=>exact⟨0,rfl,abi _,BY _ _⟩
  case round=>
   obtain⟨j,rfl,hj,eE⟩:=hrel;have fW:=sh eE;by_cases aH:j<l.length
   ·have z1:decide ((j:Int)<(l.length:Int))=true:=decide_eq_true (by omega)
    obtain⟨b,o,hA,hS,q0,q1,q2,q3,q4⟩:=(HR.out.below eE).at j aH;simp only at hA;subst hA;have fV:=hS.2;have HC:=sh fun(W:AI)=>qD l[j] W;have HD:=sh fun(W:AI)=>wG l[j] W (by have:=aes.1 HA.out _ (abE aH);exact this);obtain⟨x,hx⟩:∃x,x=l[j]:=⟨_,rfl⟩;have HX:=sh hx;rw[<-hx]at HC HD q0 q1 q2 q3 q4;clear hS hx eE;go_wp2_with fail
    (go_at_call 286)
    refine(HC.out _).mono ?_;rintro e w2 ⟨aC,q,rfl⟩;obtain⟨p0,p1,p2,p3,p4,l2,jY,-⟩:=bN aC;have gP:=sh (fW.out.trans (jY.mono fW.out.size));clear jY;go_wp2_with fail
    (go_at_call 287)
    refine(HD.out _).mono ?_;rintro e w3 ⟨rfl,aN⟩;have cO:=ae (bN aC).2.2.2.2.2.2.2 aN;have s0:w3.cell? ⟨wr.heap.size,0,none⟩=some (.string x.key):=cO.cell 0;have l3:=cO.lt;have iR:=sh (gP.out.trans (aN.mono gP.out.size));clear aC aN cO p0 p1 p2 p3 p4 q0 q1 q2 q3 q4;by_cases I2:j=0
    ·subst I2
     have z2:decide ((0:Int)<((0:Nat):Int))=false:=decide_eq_false (by omega);go_wp2_with fail
     go_quiet (fail)
     go_wp2_with fail
     go_roundw
     case rel=>exact⟨1,rfl,by omega,below_drewN iR.out _⟩
     case measure=>simp[intOf];omega
    ·obtain⟨i,rfl⟩:∃i,j=i+1:=⟨j-1,by omega⟩
     obtain⟨b',o',hA,hS,r0,-⟩:=(HR.out.below iR.out).at i (by omega);simp only at hA;obtain⟨rfl,rfl⟩:b=b'/\o=o':=by injection hA with hA;injection hA with h1 h2;exact⟨h1,h2⟩
     have se:=hS.2;have qs:=Nd.tc HI.out i aH;rw[<-HX.out]at qs;obtain⟨y,hy⟩:∃y,y=l[i]:=⟨_,rfl⟩;rw[<-hy]at r0 qs;have t1:acj x.key.toList y.key.toList=false:=Nd.lt_asymm qs;have t2:=(Nd.B7 qs).2;have EK:IntKind.i64.wrap (((i+1:Nat):Int)-1)=(i:Int):=by rw[show (((i+1:Nat):Int)-1)=(i:Int)by omega];exact wrap_i64 i (by omega)
     have z2:decide ((0:Int)<((i+1:Nat):Int))=true:=decide_eq_true (by omega);clear hA hS hy qs;go_wp2_with fail
     go_quiet (fail)
     go_wp2_with fail
     go_roundw
     case rel=>exact⟨i+1+1,by go_num,by omega,below_drewN iR.out _⟩
     case measure=>simp[intOf];omega
   ·have z1:decide ((j:Int)<(l.length:Int))=false:=decide_eq_false (by omega)
    clear eE;go_wp2_with fail
    go_ret
    exact ec rfl fW.out
 | false=>
  obtain⟨c0,ls,rfl⟩:∃c0 ls,l=c0::ls:=by
   cases l with
   | nil=>simp at za
   | cons a b=>exact⟨a,b,rfl⟩
  have mL:c0.key=⟨#[]⟩:=mW (by simpa using za);have y1:(((c0::ls).length:Int)==0)=false:=by rw[beq_eq_false_iff_ne,abv];omega
  have y2:((c0::ls).length==0)=false:=by simp
  have y3:decide ((0:Int)<((c0::ls).length:Int))=true:=decide_eq_true (by rw[abv];omega);obtain⟨b0,o0,Y8,hS0,e0,-⟩:=h.at 0 (by simp);simp only at Y8;have e0':w.cell? ⟨b0,o0,none⟩=some (.string ⟨#[]⟩):=by have:=e0;simp only[Nat.zero_mul,Nat.add_zero,List.getElem_cons_zero]at this;rw[this,mL]
  subst Y8;have Pn:=hS0.2;obtain⟨l,KC⟩:∃l,l=c0::ls:=⟨_,rfl⟩;rw[<-KC]at HR HA HI hl h2 y1 y2 y3 |-;have y4:0<l.length:=by rw[KC];simp
  clear za hS0 e0 mL KC h;go_enter func268,ntmps268
  go_wp2_with fail
  go_loopw [24] (fun i wr=>∃(j:Nat),i= .int .i64 j/\j<=l.length/\IT w.heap.size w wr) (fun i _=>l.length-(intOf i).toNat)
  case atStart=>exact⟨0,rfl,abi _,BY _ _⟩
  case round=>
   obtain⟨j,rfl,hj,eE⟩:=hrel;have fW:=sh eE;by_cases aH:j<l.length
   ·have z1:decide ((j:Int)<(l.length:Int))=true:=decide_eq_true (by omega)
    obtain⟨b,o,hA,hS,q0,q1,q2,q3,q4⟩:=(HR.out.below eE).at j aH;simp only at hA;obtain⟨rfl,rfl⟩:b0=b/\o0=o:=by injection hA with hA;injection hA with h1 h2;exact⟨h1,h2⟩
    clear hA;have fV:=hS.2;have HC:=sh fun(W:AI)=>sy l[j] W (by have:=aes.1 HA.out _ (abE aH);exact this);obtain⟨x,hx⟩:∃x,x=l[j]:=⟨_,rfl⟩;have HX:=sh hx;rw[<-hx]at HC q0 q1 q2 q3 q4;clear hS hx eE;go_wp2_with fail
    (go_at_call 286)
    refine(HC.out _).mono ?_;rintro e w3 ⟨rfl,aN⟩;obtain⟨-,-,-,-,-,-,I6,cO⟩:=bN aN;have s0:w3.cell? ⟨wr.heap.size,0,none⟩=some (.string x.key):=cO.cell 0;have l3:=cO.lt;have iR:=sh (fW.out.trans (I6.mono fW.out.size));clear aN cO I6 q0 q1 q2 q3 q4;by_cases I2:j=0
    ·subst I2
     have z2:decide ((0:Int)<((0:Nat):Int))=false:=decide_eq_false (by omega);go_wp2_with fail
     go_quiet (fail)
     go_wp2_with fail
     go_roundw
     case rel=>exact⟨1,rfl,by omega,below_drewN iR.out _⟩
     case measure=>simp[intOf];omega
    ·obtain⟨i,rfl⟩:∃i,j=i+1:=⟨j-1,by omega⟩
     obtain⟨b',o',hA,hS,r0,-⟩:=(HR.out.below iR.out).at i (by omega);simp only at hA;obtain⟨rfl,rfl⟩:b0=b'/\o0=o':=by injection hA with hA;injection hA with h1 h2;exact⟨h1,h2⟩
     have se:=hS.2;have qs:=Nd.tc HI.out i aH;rw[<-HX.out]at qs;obtain⟨y,hy⟩:∃y,y=l[i]:=⟨_,rfl⟩;rw[<-hy]at r0 qs;have t1:acj x.key.toList y.key.toList=false:=Nd.lt_asymm qs;have t2:=(Nd.B7 qs).2;have EK:IntKind.i64.wrap (((i+1:Nat):Int)-1)=(i:Int):=by rw[show (((i+1:Nat):Int)-1)=(i:Int)by omega];exact wrap_i64 i (by omega)
     have z2:decide ((0:Int)<((i+1:Nat):Int))=true:=decide_eq_true (by omega);clear hA hS hy qs;go_wp2_with fail
     go_quiet (fail)
     go_wp2_with fail
     go_roundw
     case rel=>exact⟨i+1+1,by go_num,by omega,below_drewN iR.out _⟩
     case measure=>simp[intOf];omega
   ·have z1:decide ((j:Int)<(l.length:Int))=false:=decide_eq_false (by omega)
    clear eE;go_wp2_with fail
    go_ret
    exact ec rfl fW.out
end Go.Proofs.YtjbcbnemdhbhbaaGreatDoor
