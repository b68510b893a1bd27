import Derived.Test.YtjbcbnemdhbhbaaGreatDoorA18
import Derived.Test.YtjbcbnemdhbhbaaGreatDoorA0
import Derived.Laws.MakeOwn
import Derived.Laws.CopyOwn
import Derived.Test.YtjbcbnemdhbhbaaGreatDoorA19
set_option maxRecDepth 100000
set_option linter.unusedVariables false
set_option linter.unusedSimpArgs false
set_option maxHeartbeats 40000000
open Bool renaming false_eq_true→adg
open ByteArray renaming empty→abY
open Go renaming Calls→aaf,Ending→acb,Value→No,World→AI,bodyPost_ret→abT,madeCells→agI,results→acJ,rounds_succ→abF
open Go.ByteArray renaming toList_eq→abV
open Go.IntWalk renaming wrap64_in→aeC
open Go.Lib renaming hid→sh
open Go.RowKit renaming Below→IT
open Go.RowKit.Below renaming alloc→agG,refl→BY,setCell→afb
open Go.Value renaming int→acs,string→adz
open Int renaming le_refl→aeZ
open List renaming getElem?_eq_some_iff→abB,length_replicate→adV,replicate→abN
open Nat renaming le_refl→AS,min→aex
namespace Go.Proofs.YtjbcbnemdhbhbaaGreatDoor
open Go.Proofs.Tryz
open Go.RowKit
open Go.PlainAid
theorem Cb(n:Nat)(hn:n<=2048)(w:AI):aaf prog 150 #[.int .u64 1,.int .u64 (n:Int)] w fun e w'=>e= .returned (.tuple #[.int .u64 0,.int .u64 (n:Int)])/\w=w':=by
 refine(Tryz.bits_Mul 1 n (by omega) (by omega) w).mono ?_;rintro e w' ⟨rfl,rfl⟩;refine⟨?_,rfl⟩;have h1:1*n/18446744073709551616=0:=by omega
 have h2:1*n%18446744073709551616=n:=by omega
 rw[h1,h2];rfl
def dj (x:ByteArray) (n k:Nat):List No:=abN k (.string x)++abN (n-k) (.string abY)
theorem u9(x:ByteArray){n k:Nat}(h:k<=n):(dj x n k).length=n:=by simp[dj];omega
theorem Fp(x:ByteArray)(n:Nat):dj x n n=abN n (.string x):=by simp[dj]
theorem nI(x:ByteArray)(n k m:Nat)(h:k+m<=n):splice (dj x n k) k (abN m (.string x))=dj x n (k+m):=by
 unfold splice dj;rw[List.take_left' (by simp),<-List.append_assoc,List.replicate_append_replicate,adV,List.drop_append,List.drop_of_length_le (by simp),adV,List.nil_append,List.drop_replicate]
 congr 2
 omega
theorem Cx{w:AI}{b n k:Nat}{x:ByteArray}(h:Bk w b 9 (dj x n k).toArray)(m:Nat)(hm:m<=k):∀(j:Nat) v,(abN m (adz x))[j]? =some v->w.cell? ((⟨b,0,none⟩:Addr).add j)=some v:=by
 intro j v hv;obtain⟨hj,rfl⟩:=abB.1 hv;simp at hj;rw[gx,h.cell j];simp only[List.getElem_replicate];unfold dj;rw[List.getElem?_toArray,List.getElem?_append_left (by simp;omega),List.getElem?_replicate,if_pos (by omega)]
theorem G9(x:ByteArray)(m:Nat):∀v∈abN m (adz x),v.oneCell'=true:=by
 intro v hv;obtain⟨_,rfl⟩:=List.mem_replicate.1 hv;rfl
def P8 (x:ByteArray) (n:Nat) (w:AI) (e:acb) (w':AI):Prop:=
 e= .returned (.slice (some ⟨w.heap.size,0,none⟩) n n)/\Bk w' w.heap.size 9 (abN n (adz x)).toArray/\IT w.heap.size w w'
theorem Cy(x:ByteArray)(b n:Nat)(w:AI)(hb:Bk w b 9 #[.string x])(h0:0<n)(h1:n<=2048):
  aaf prog 97 #[.slice (some ⟨b,0,none⟩) 1 1,.int .i64 (n:Int)] w (P8 x n w):=by
 have HB:=sh hb;obtain⟨inf,hi,BR,pS,zi⟩:=info_parts uG;have Es:∀W:AI,(Instr.makeSlice 72 (.int .i64 (n:Int)) (.int .i64 (n:Int))).run prog W= .ok (.slice (some ⟨W.heap.size,0,none⟩) n n) (W.alloc (.cells (dj x n 0).toArray 9)):=fun W=>by
  have h:=run_make (P:=prog) W 72 9 inf (.string abY) underlying72 hi BR .i64 .i64 (n:Int) (n:Int) (by omega) (aeZ _) (by rw[zi];omega) (by omega);rw[Int.toNat_natCast,pS,Nat.mul_one]at h;rw[h];have e:agI (adz abY).cells n=(dj x n 0).toArray:=by
   unfold agI dj;refine Array.ext (by simp) (fun i h1 h2=> ?_);simp[Value.cells,Nat.mod_one]
  rw[e]
 clear hi BR pS zi hb;have q1:decide ((n:Int)<0)=false:=by simp
 have q2:decide ((9223372036854775807:Int)<(n:Int))=false:=by simp;omega
 have HN:=sh h1;have abh:(prog.info? 9).map (·.size)=some 1:=by kernel_rfl
 have QW:aex 1 n=1:=by simp[Nat.min_def];omega
 have adr:=sh QW;have ad1:Hid (∀j v,[adz x][j]? =some v->(w.alloc (.cells (dj x n 0).toArray 9)).cell? ((⟨b,0,none⟩:Addr).add j)=some v):=fun j v hv=>by
  obtain⟨hj,rfl⟩:=abB.1 hv;simp at hj;subst hj;rw[gx];simpa using (HB.out.alloc (.cells (dj x n 0).toArray 9)).cell 0
 have T1:Hid (0+[adz x].length<=(dj x n 0).length):=show _<=_ by rw[u9 x (by omega)];simp;omega
 have YL:=sh abh;clear QW abh;go_enter func97,ntmps97
 go_wp2_with (first
  | (go_at_call 150;refine(Cb n HN.out _).mono ?_;rintro e w' ⟨rfl,rfl⟩)
  | (refine wpList_copy_splice rfl (.tmp 31) (.tmp 32) 72 72 rfl 9 underlying72 YL.out _ _ n n 1 1 rfl rfl w.heap.size 0 (dj x n 0) 9 (heap_alloc_new w _) [.string x] (by rw[adr.out];rfl) (fun _=>⟨rfl,_,rfl,ad1.out⟩) T1.out (G9 x 1) w.heap.size w (agG (BY _ _) (AS _) _) (AS _) ?_;intro w2 ra aC)
  | fail)
 have bm:=sh aC;have hR:w.heap.size<w2.heap.size:=lt_of_block ra.out;clear aC;go_loopw [8] (fun c wr=>∃k:Nat,1<=k/\k<=n/\c= .int .i64 (k:Int)/\Bk wr w.heap.size 9 (dj x n k).toArray/\IT w.heap.size w wr) (fun c _=>n-(intOf c).toNat)
 case atStart=>
  refine⟨1,AS _,by omega,rfl,?_,bm.out⟩;have h:=ra.out;have e:splice (dj x n 0) 0 [adz x]=dj x n 1:=nI x n 0 1 (by omega);rw[e]at h;exact h
 case round=>
  obtain⟨k,dy,bR,rfl,aT,yX⟩:=hrel;have pJ:=sh aT;have HBE:=sh yX;clear aT yX;by_cases aH:k<n
  ·have mM:aex k (n-k)<=k:=Nat.min_le_left _ _
   have jf:aex k (n-k)<=n-k:=Nat.min_le_right _ _;have ze:0<aex k (n-k):=by simp only[Nat.min_def];split<;>omega
   have HMN:Hid (aex k (n-k)=aex k (n-k)):=rfl;generalize hM:aex k (n-k)=M at *;have HM:=sh hM;have i0:(0:Int)<=(k:Int):=by omega
   have i1:(k:Int)<=(n:Int):=by omega
   have i2:decide ((k:Int)<(n:Int))=true:=by simp;omega
   have i3:IntKind.i64.wrap ((k:Int)+(M:Int))=(k:Int)+(M:Int):=IntWalk.i64_in _ (by omega);have i4:¬ (n=k):=by omega
   have Ah:Hid ((abN M (adz x)).length=aex k (n-k)):=show _=_ by rw[HM.out];simp
   have sF:Hid (k+(abN M (adz x)).length<=(dj x n k).length):=show _<=_ by rw[u9 x bR];simp;omega
   have HSR:Hid (∀j v,(abN M (adz x))[j]? =some v->wr.cell? ((⟨w.heap.size,0,none⟩:Addr).add j)=some v):=Cx pJ.out M mM;clear hM HMN;go_wp2_with fail
   go_region_held3 (fun W=>True) (trivial)
    ((refine step_copy_splice rfl (.tmp 41) (.tmp 44) 72 72 (by rfl) 9 underlying72 YL.out _ _ (n-k) (n-k) k n (by rfl) (by rfl) w.heap.size k (dj x n k) 9 pJ.out (abN M (.string x)) Ah.out (fun _=>⟨rfl,_,rfl,HSR.out⟩) sF.out (G9 x M) w.heap.size w HBE.out.drew (AS _) ?_;intro w3 Bo aN))
   go_roundw
   case rel=>
    (repeat apply Exists.intro)
    refine⟨⟨k+M,by omega,by omega,?_,?_,aN⟩,rfl⟩
    ·simp
    ·have h:=Bo.out
     rw[nI x n k M (by omega)]at h;exact h
   case measure=>simp[intOf];omega
  ·obtain rfl:k=n:=by omega
   have i2:decide ((k:Int)<(k:Int))=false:=by simp
   go_wp2_with fail
   go_ret
   exact⟨rfl,by rw[<-Fp];exact pJ.out,HBE.out⟩
def vD (n:Nat):Array No:=(th (abN n 0)).toArray
theorem C5(n:Nat):agI (acs .u8 0).cells n=vD n:=by
 unfold agI vD th;refine Array.ext (by simp) (fun i h1 h2=> ?_);simp[Value.cells,Nat.mod_one]
theorem Kf(n j:Nat)(h:j<(abN n (0:UInt8)).length):(vD n)[j]? =some (.int .u8 ((abN n (0:UInt8))[j].toNat:Int)):=by
 unfold vD th;simp at h;simp[h]
def yq:Array No:=vD 128
theorem E0(W:AI):(Instr.makeSlice 36 (.int .i64 128) (.int .i64 128)).run prog W= .ok (.slice (some ⟨W.heap.size,0,none⟩) 128 128) (W.alloc (.cells yq 5)):=by
 obtain⟨inf,hi,BR,pS,zi⟩:=info_parts zk;have h:=run_make (P:=prog) W 36 5 inf (.int .u8 0) underlying36 hi BR .i64 .i64 128 128 (by omega) (aeZ _) (by rw[zi];omega) (by omega);rw[pS,C5]at h;exact h
theorem DS(w:AI):(convert 36 9 (.slice (some ⟨w.heap.size,0,none⟩) 128 128)).run prog (w.alloc (.cells yq 5))= .ok (.string DevS.bw) (w.alloc (.cells yq 5)):=by
 refine nQ (W:=w.alloc (.cells yq 5)) (g:=w.heap.size) (o:=0) (L:=abN 128 0) List.length_replicate.symm (fun j hj=> ?_);rw[Nat.zero_add,(Bk.new w 5 yq).cell j];exact Kf 128 j hj
def yG (n:Nat) (w:AI) (e:acb) (w':AI):Prop:=
 ∃g S,e= .returned (.tuple #[ptr g,.int .i64 0])/\Dev w' g S (DevS.new n)/\IT w.heap.size w w'/\∀b∈S,w.heap.size<=b
theorem NA{W:AI}{n g l m:Nat}(h0:0<n)(h1:n<=2048)(hl:Bk W l 9 (abN n (adz DevS.bw)).toArray)
  (hm:IMap prog 3 W m 0 (fun _=>none)) (hg:Bk W g 156 (bV l n m false 0 0 0)):Dev W g [g,l,m] (DevS.new n):=by
 have e:(strs (DevS.new n).sec).toArray=(abN n (adz DevS.bw)).toArray:=by simp[strs,DevS.new]
 have el:(DevS.new n).sec.length=n:=by simp[DevS.new]
 refine⟨l,m,0,id,id,⟨DevS.Ok.new h0 h1,by rw[el];exact hg,by rw[e];exact hl,?_,aeZ _,fun i hi=>absurd rfl hi,fun i _ hi=>absurd rfl hi,fun i hi=>absurd rfl hi,⟨by simp,by simp,by simp,fun i hi=>absurd rfl hi⟩,?_⟩⟩
 ·have:dr (DevS.new n).row id id=fun _=>none:=by funext i;unfold dr;simp[bc,DevS.new]
  rw[this];exact hm
 ·intro b hb
  simp at hb;rcases hb with rfl|rfl|rfl
  ·exact hg.lt
  ·exact hl.lt
  ·exact hm.lt
theorem AJ(n:Nat)(w:AI)(h0:0<n)(h1:n<=2048):
  aaf prog 41 #[.int .i64 (n:Int)] w (yG n w):=by
 have q0:decide ((n:Int)<1)=false:=by simp;omega
 have q1:decide ((2048:Int)<(n:Int))=false:=by simp;omega
 have H0:=sh h0;have H1:=sh h1;have Es:=E0;have Xk:=DS w;have kV:=@run_makeMap prog;clear h0 h1;obtain⟨s0,rB⟩:∃s0,s0=DevS.bw:=⟨_,rfl⟩;rw[<-rB]at Xk;have O3:=sh rB;clear rB;generalize yq=z0 at *;have aT:Bk ((w.alloc (.cells z0 5)).alloc (.cells #[.string s0] 9)) (w.heap.size+1) 9 #[.string s0]:=by
  have h:=Bk.new (w.alloc (.cells z0 5)) 9 #[.string s0];rw[show (w.alloc (.cells z0 5)).heap.size=w.heap.size+1 from by simp]at h;exact h
 have pJ:=sh aT;clear aT;go_enter func41,ntmps41
 go_wp2_with (first
  | (go_at_call 97;(with_reducible refine(Cy s0 (w.heap.size+1) n _ pJ.out H0.out H1.out).mono ?_);rintro e w2 ⟨rfl,aC,qW⟩;have bm:=sh aC;have XL:=sh qW;clear aC qW)
  | fail)
 go_ret2
 have hb:=bm.out;have yX:=XL.out;have cZ:((w.alloc (.cells z0 5)).alloc (.cells #[.string s0] 9)).heap.size=w.heap.size+1+1:=by simp
 rw[cZ]at hb yX;have eE:IT w.heap.size w w2:=((((BY _ w).alloc (AS _) _).alloc (by simp) _).trans (yX.mono (by omega)));have aH:=hb.lt;have hg:=Bk.new (w2.alloc (.map #[] 0)) 156 (bV (w.heap.size+1+1) n w2.heap.size false 0 0 0);have BN:(w2.alloc (.map #[] 0)).heap.size=w2.heap.size+1:=by simp
 rw[BN]at hg;refine⟨w2.heap.size+1,[w2.heap.size+1,w.heap.size+1+1,w2.heap.size],rfl,NA H0.out H1.out ?_ ?_ hg,?_,?_⟩
 ·rw[<-O3.out];exact(hb.alloc _).alloc _
 ·exact(IMap.made w2 prog 3).of_heap (Below.heap_alloc _ _ _ (by simp))
 ·exact(eE.alloc (by omega) _).alloc (by simp;omega) _
 ·intro b hb
  simp at hb;omega
def cC (s:ByteArray) (w:AI) (e:acb) (w':AI):Prop:=
 e= .returned (.tuple #[jm (eD s) (ij s) (ie s) (ig s) (fx s),.int .i64 (dV s)])/\IT w.heap.size w w'
theorem iP{s:ByteArray}{w w':AI}(h:cF s=false)(hb:IT w.heap.size w w'):cC s w (.returned (.tuple #[.agg #[.int .i64 0,.int .i64 0,.int .i64 0,.int .i64 0,.int .i64 0],.int .i64 4])) w':=by
 obtain⟨h1,h2,h3,h4,h5,h6⟩:=vw h;unfold cC;rw[h1,h2,h3,h4,h5,h6];exact⟨rfl,hb⟩
theorem vy{s:ByteArray}{t r f p l:Int}{w w':AI}(h:kg s t r f p l)(hb:IT w.heap.size w w'):cC s w (.returned (.tuple #[.agg #[.int .i64 t,.int .i64 r,.int .i64 f,.int .i64 p,.int .i64 l],.int .i64 0])) w':=by
 obtain⟨h1,h2,h3,h4,h5,h6⟩:=OG h;unfold cC;rw[h1,h2,h3,h4,h5,h6];exact⟨rfl,hb⟩
theorem J2{s:ByteArray}(h:s.size≠128):cF s=false:=by
 cases hu:cF s with
 | false=>rfl
 | true=>exact absurd (vu hu).says.1 h
theorem OE{s:ByteArray}(h:eU s ⟨#[82,79,76,76,66,79,79,75]⟩=false):cF s=false:=by
 cases hu:cF s with
 | false=>rfl
 | true=>
  obtain⟨_,⟨r,hr⟩,_⟩:=(vu hu).says;have:eU s ⟨#[82,79,76,76,66,79,79,75]⟩=true:=by
   unfold eU;rw[abV,abV,cU,hr];rfl
  rw[this]at h;cases h
theorem FP{s:ByteArray}{tz:Int}(ht:tz=wrap64 (ai s 8 8)):
  (kN tz (ai s 16 4) (ai s 20 4) (ai s 24 4) (ai s 28 4)=4/\Hid (cF s=false))\/
  (kN tz (ai s 16 4) (ai s 20 4) (ai s 24 4) (ai s 28 4)=0/\((dq tz (ai s 16 4) (ai s 20 4) (ai s 24 4) (ai s 28 4)).toList==s.toList)=false/\Hid (cF s=false))\/
  (kN tz (ai s 16 4) (ai s 20 4) (ai s 24 4) (ai s 28 4)=0/\s=dq tz (ai s 16 4) (ai s 20 4) (ai s 24 4) (ai s 28 4)/\Hid (kg s tz (ai s 16 4) (ai s 20 4) (ai s 24 4) (ai s 28 4))):=by
 have key:cF s=true->kg s tz (ai s 16 4) (ai s 20 4) (ai s 24 4) (ai s 28 4):=by
  intro hu;have hp:=vu hu;have h1:=(kG hp.1);have e1:tz=ai s 8 8:=by rw[ht];exact aeC _ ⟨by omega,by omega⟩
  rw[e1];exact hp
 cases hr:cL tz (ai s 16 4) (ai s 20 4) (ai s 24 4) (ai s 28 4)with
 | false=>
  refine .inl ⟨rG hr,?_⟩;show cF s=false;cases hu:cF s with
  | false=>rfl
  | true=>have:=(key hu).1;rw[this]at hr;cases hr
 | true=>
  by_cases he:dq tz (ai s 16 4) (ai s 20 4) (ai s 24 4) (ai s 28 4)=s
  ·exact .inr (.inr ⟨jk hr,he.symm,hr,he⟩)
  ·refine .inr (.inl ⟨jk hr,yo he,?_⟩)
   show cF s=false;cases hu:cF s with
   | false=>rfl
   | true=>exact absurd (key hu).2 he
theorem J4(s:ByteArray)(w:AI)(h:s.size≠128):aaf prog 154 #[.string s] w (cC s w):=by
 have q:((s.size:Int) != 128)=true:=by simp;omega
 have HU:=sh (J2 h);clear h;go_enter func154,ntmps154
 go_wp2_with fail
 exact abT (v:= .tuple #[.agg #[.int .i64 0,.int .i64 0,.int .i64 0,.int .i64 0,.int .i64 0],.int .i64 4]) (by simp[acJ,results154,go_sem]) rfl (iP HU.out (by first|exact(BY _ _).alloc (AS _) _|exact((BY _ _).alloc (AS _) _).drew))
theorem J5(s:ByteArray)(w:AI)(h:s.size=128)(hp:eU s ⟨#[82,79,76,76,66,79,79,75]⟩=false):aaf prog 154 #[.string s] w (cC s w):=by
 have q:((s.size:Int) != 128)=false:=by simp;omega
 have HU:=sh (OE hp);have HP:=sh fun W=>gz s ⟨#[82,79,76,76,66,79,79,75]⟩ W (by omega) (by rw[h];decide);rw[hp]at HP;clear h hp;go_enter func154,ntmps154
 go_wp2_with (first|(go_at_call 210;refine(HP.out _).mono ?_;rintro e w' ⟨rfl,rfl⟩)|fail)
 exact abT (v:= .tuple #[.agg #[.int .i64 0,.int .i64 0,.int .i64 0,.int .i64 0,.int .i64 0],.int .i64 4]) (by simp[acJ,results154,go_sem]) rfl (iP HU.out (by first|exact(BY _ _).alloc (AS _) _|exact((BY _ _).alloc (AS _) _).drew))
theorem J6(s:ByteArray)(w:AI)(hr:aS w)(h:s.size=128)(hp:eU s ⟨#[82,79,76,76,66,79,79,75]⟩=true):aaf prog 154 #[.string s] w (cC s w):=by
 have q:((s.size:Int) != 128)=false:=by simp;omega
 have HP:=sh fun W=>gz s ⟨#[82,79,76,76,66,79,79,75]⟩ W (by omega) (by rw[h];decide);rw[hp]at HP;have yw:=fun W=>at_any s 8 8 W (by omega) (by decide) (by decide) (by omega);have TR:=fun W=>at_any s 16 4 W (by omega) (by decide) (by decide) (by omega);have TS:=fun W=>at_any s 20 4 W (by omega) (by decide) (by decide) (by omega);have TT:=fun W=>at_any s 24 4 W (by omega) (by decide) (by decide) (by omega);have HA5:=fun W=>at_any s 28 4 W (by omega) (by decide) (by decide) (by omega);have l2:=iL s 16 4;have l3:=iL s 20 4;have l4:=iL s 24 4;have l5:=iL s 28 4;rw[aeC _ ⟨by omega,by omega⟩]at TR TS TT HA5;have aT:=Bk.new w 40 #[.int .i64 0,.int .i64 0,.int .i64 0,.int .i64 0,.int .i64 0];have oe:IT w.heap.size w (w.alloc (.cells #[.int .i64 0,.int .i64 0,.int .i64 0,.int .i64 0,.int .i64 0] 40)):=(BY _ _).alloc (AS _) _;have lX:=hr.below oe;obtain⟨tz,Wj⟩:∃tz:Int,tz=wrap64 (ai s 8 8):=⟨_,rfl⟩;rw[<-Wj]at yw;have HU:=FP Wj;have zK:=fun(W:AI) (hW:aS W)=>qC tz (ai s 16 4) (ai s 20 4) (ai s 24 4) (ai s 28 4) W hW;have Tp:∃(ps:ByteArray) (pe:Int),dq tz (ai s 16 4) (ai s 20 4) (ai s 24 4) (ai s 28 4)=ps/\kN tz (ai s 16 4) (ai s 20 4) (ai s 24 4) (ai s 28 4)=pe:=⟨_,_,rfl,rfl⟩;obtain⟨ps,pe,EE,To⟩:=Tp;unfold qd at zK;rw[EE,To]at zK HU;clear EE To Wj;generalize ai s 16 4=r at *;generalize ai s 20 4=f at *
 generalize ai s 24 4=p at *;generalize ai s 28 4=l at *;have bh:=sh (show ∀W,aaf prog 211 #[.string s,.int .i64 8,.int .i64 8] W (dH tz W) from yw);have bm:=sh (show ∀W,aaf prog 211 #[.string s,.int .i64 16,.int .i64 4] W (dH (r:Int) W) from TR);have du:=sh (show ∀W,aaf prog 211 #[.string s,.int .i64 20,.int .i64 4] W (dH (f:Int) W) from TS);have fU:=sh (show ∀W,aaf prog 211 #[.string s,.int .i64 24,.int .i64 4] W (dH (p:Int) W) from TT);have m5:=sh (show ∀W,aaf prog 211 #[.string s,.int .i64 28,.int .i64 4] W (dH (l:Int) W) from HA5);have HK:=sh zK;have pJ:=sh aT;have lj:=sh oe;have rV:=sh lX;have qz:decide (s.size<32)=false:=by simp;omega
 have qz2:decide ((s.size:Int)<32)=false:=by simp;omega
 clear yw TR TS TT HA5 zK aT oe lX hp hr l2 l3 l4 l5;rcases HU with⟨rfl,YO⟩|⟨rfl,qps,YO⟩|⟨rfl,rfl,O1⟩;all_goals
  go_enter func154,ntmps154
  go_wp2_with (first|(go_at_call 210;refine(HP.out _).mono ?_;rintro e w' ⟨rfl,rfl⟩)|fail)
  refine(bh.out _).mono ?_;rintro e w1 ⟨rfl,ar⟩;have X1:=sh (lj.out.trans (ar.mono lj.out.size));have K1:=sh (ae pJ.out ar);have R1:=sh (rV.out.below ar);clear ar;go_wp2_with fail
  refine(bm.out _).mono ?_;rintro e w2 ⟨rfl,aC⟩;have X2:=sh (X1.out.trans (aC.mono X1.out.size));have K2:=sh (ae K1.out aC);have R2:=sh (R1.out.below aC);clear aC;go_wp2_with fail
  refine(du.out _).mono ?_;rintro e w3 ⟨rfl,aN⟩;have X3:=sh (X2.out.trans (aN.mono X2.out.size));have K3:=sh (ae K2.out aN);have R3:=sh (R2.out.below aN);clear aN;go_wp2_with fail
  refine(fU.out _).mono ?_;rintro e w4 ⟨rfl,bT⟩;have X4:=sh (X3.out.trans (bT.mono X3.out.size));have K4:=sh (ae K3.out bT);have R4:=sh (R3.out.below bT);clear bT;go_wp2_with fail
  refine(m5.out _).mono ?_;rintro e w5 ⟨rfl,cV⟩;have X5:=sh (X4.out.trans (cV.mono X4.out.size));have K5:=sh (ae K4.out cV);have R5:=sh (R4.out.below cV);clear cV;go_wp2_with fail
  refine(HK.out _ (R5.out.below ((BY _ _).alloc (AS _) _))).mono ?_;rintro e w6 ⟨rfl,ga⟩;have QY:=Bk.new w5 40 #[.int .i64 tz,.int .i64 (r:Int),.int .i64 (f:Int),.int .i64 (p:Int),.int .i64 (l:Int)];have X6:=sh ((X5.out.alloc X5.out.size (.cells #[.int .i64 tz,.int .i64 (r:Int),.int .i64 (f:Int),.int .i64 (p:Int),.int .i64 (l:Int)] 40)).trans (ga.mono (by have:=X5.out.size;simp;omega)));have K6:=sh (ae (K5.out.alloc _) ga);have N6:=sh (ae QY ga);clear ga QY;obtain⟨c0,c1,c2,c3,c4⟩:=K6.out.oR;have g0:=K6.out.frozen 0;have g1:=K6.out.frozen 1;have g2:=K6.out.frozen 2;have g3:=K6.out.frozen 3;have g4:=K6.out.frozen 4;obtain⟨d0,d1,d2,d3,d4⟩:=N6.out.oR;go_wp2_with fail
  first
   | exact abT (v:= .tuple #[.agg #[.int .i64 0,.int .i64 0,.int .i64 0,.int .i64 0,.int .i64 0],.int .i64 4]) (by simp[acJ,results154,go_sem, *]) rfl (iP YO.out (by repeat (first|exact X6.out|refine afb ?_ (by simp) _)))
   | exact abT (v:= .tuple #[.agg #[.int .i64 tz,.int .i64 (r:Int),.int .i64 (f:Int),.int .i64 (p:Int),.int .i64 (l:Int)],.int .i64 0]) (by simp[acJ,results154,go_sem, *]) rfl (vy O1.out (by repeat (first|exact X6.out|refine afb ?_ (by simp) _)))
   | (trace_state;fail)
theorem mq(s:ByteArray)(w:AI)(hr:aS w):aaf prog 154 #[.string s] w (cC s w):=by
 by_cases h:s.size=128
 ·cases hp:eU s ⟨#[82,79,76,76,66,79,79,75]⟩with
  | false=>exact J5 s w h hp
  | true=>exact J6 s w hr h hp
 ·exact J4 s w h
def Dq (a b:ByteArray):Bool:=cF b&&(!cF a||decide (eD a<eD b))
def ib (a b:ByteArray):ByteArray:=if Dq a b then b else a
def NI (a b:ByteArray):Int:=if Dq a b then 1 else 0
def ei (a b:ByteArray) (w:AI) (e:acb) (w':AI):Prop:=
 e= .returned (.tuple #[jm (eD (ib a b)) (ij (ib a b)) (ie (ib a b)) (ig (ib a b)) (fx (ib a b)),.int .i64 (NI a b),.int .i64 (dV (ib a b))])/\IT w.heap.size w w'
theorem kH(s:ByteArray):(dV s=0/\cF s=true)\/(dV s=4/\cF s=false):=by
 cases h:cF s with
 | true=>exact .inl ⟨by unfold dV;rw[h];rfl,rfl⟩
 | false=>exact .inr ⟨by unfold dV;rw[h];rfl,rfl⟩
def NwA (a b:ByteArray) (t r f p l:Int):Prop:=∀w w',IT w.heap.size w w'->ei a b w (.returned (.tuple #[jm t r f p l,.int .i64 0,.int .i64 0])) w'
def NwB (a b:ByteArray) (t r f p l:Int):Prop:=∀w w',IT w.heap.size w w'->ei a b w (.returned (.tuple #[jm t r f p l,.int .i64 1,.int .i64 0])) w'
def NwN (a b:ByteArray):Prop:=∀w w',IT w.heap.size w w'->ei a b w (.returned (.tuple #[jm 0 0 0 0 0,.int .i64 0,.int .i64 4])) w'
theorem NG{a b:ByteArray}(h:Dq a b=false)(he:dV a=0):NwA a b (eD a) (ij a) (ie a) (ig a) (fx a):=by
 intro w w' hb;unfold ei ib NI;rw[h];simp only[adg,if_false];rw[he];exact⟨rfl,hb⟩
theorem NH{a b:ByteArray}(h:Dq a b=true)(he:dV b=0):NwB a b (eD b) (ij b) (ie b) (ig b) (fx b):=by
 intro w w' hb;unfold ei ib NI;rw[h];simp only[if_true];rw[he];exact⟨rfl,hb⟩
theorem Ww{a b:ByteArray}(ha:cF a=false)(hb:cF b=false):NwN a b:=by
 intro w w' fV;have h:Dq a b=false:=by unfold Dq;rw[hb];rfl
 unfold ei ib NI;rw[h];simp only[adg,if_false];obtain⟨h1,h2,h3,h4,h5,h6⟩:=vw ha;rw[h1,h2,h3,h4,h5,h6];exact⟨rfl,fV⟩
theorem NJ(a b:ByteArray):(dV a=4/\dV b=4/\Hid (NwN a b))\/(dV a=4/\dV b=0/\Hid (NwB a b (eD b) (ij b) (ie b) (ig b) (fx b)))\/(dV a=0/\dV b=4/\Hid (NwA a b (eD a) (ij a) (ie a) (ig a) (fx a)))\/
  (dV a=0/\dV b=0/\eD a<eD b/\Hid (NwB a b (eD b) (ij b) (ie b) (ig b) (fx b)))\/(dV a=0/\dV b=0/\eD b<=eD a/\Hid (NwA a b (eD a) (ij a) (ie a) (ig a) (fx a))):=by
 rcases kH a with⟨ea,ha⟩|⟨ea,ha⟩<;>rcases kH b with⟨eb,hb⟩|⟨eb,hb⟩
 ·by_cases ht:eD a<eD b
  ·exact .inr (.inr (.inr (.inl ⟨ea,eb,ht,NH (by unfold Dq;rw[ha,hb];simp[ht]) eb⟩)))
  ·exact .inr (.inr (.inr (.inr ⟨ea,eb,by omega,NG (by unfold Dq;rw[ha,hb];simp[ht]) ea⟩)))
 ·exact .inr (.inr (.inl ⟨ea,eb,NG (by unfold Dq;rw[hb];rfl) ea⟩))
 ·exact .inr (.inl ⟨ea,eb,NH (by unfold Dq;rw[ha,hb];rfl) eb⟩)
 ·exact .inl ⟨ea,eb,Ww ha hb⟩
theorem E7(a b:ByteArray)(w:AI)(hr:aS w):aaf prog 153 #[.string a,.string b] w (ei a b w):=by
 have HU1:=fun(W:AI) (hW:aS W)=>mq a W hW;have HU2:=fun(W:AI) (hW:aS W)=>mq b W hW;unfold cC at HU1 HU2;have fy:=NJ a b;generalize eD a=t1 at *;generalize ij a=r1 at *;generalize ie a=f1 at *;generalize ig a=p1 at *;generalize fx a=l1 at *;generalize dV a=e1 at *;generalize eD b=t2 at *;generalize ij b=r2 at *;generalize ie b=f2 at *;generalize ig b=p2 at *;generalize fx b=l2 at *;generalize dV b=e2 at *;have aT:=Bk.new w 40 #[.int .i64 0,.int .i64 0,.int .i64 0,.int .i64 0,.int .i64 0];have oe:IT w.heap.size w (w.alloc (.cells #[.int .i64 0,.int .i64 0,.int .i64 0,.int .i64 0,.int .i64 0] 40)):=(BY _ _).alloc (AS _) _;have pJ:=sh aT;have lj:=sh oe;have rV:=sh (hr.below oe);have HV1:=sh HU1;have vF:=sh HU2;clear HU1 HU2 aT oe hr;rcases fy with⟨rfl,rfl,HN⟩|⟨rfl,rfl,HN⟩|⟨rfl,rfl,HN⟩|⟨rfl,rfl,ht,HN⟩|⟨rfl,rfl,ht,HN⟩;all_goals
  go_enter func153,ntmps153
  go_wp2_with fail
  refine(HV1.out _ rV.out).mono ?_;rintro e w1 ⟨rfl,ar⟩;have X1:=sh (lj.out.trans (ar.mono lj.out.size));have K1:=sh (ae pJ.out ar);have R1:=sh (rV.out.below ar);clear ar;go_wp2_with fail
  refine(vF.out _ (R1.out.below ((BY _ _).alloc (AS _) _))).mono ?_;rintro e w2 ⟨rfl,aC⟩;have gQ:=Bk.new w1 40 #[.int .i64 t1,.int .i64 r1,.int .i64 f1,.int .i64 p1,.int .i64 l1];have X2:=sh ((X1.out.alloc X1.out.size (.cells #[.int .i64 t1,.int .i64 r1,.int .i64 f1,.int .i64 p1,.int .i64 l1] 40)).trans (aC.mono (by have:=X1.out.size;simp;omega)));have K2:=sh (ae (K1.out.alloc _) aC);have N2:=sh (ae gQ aC);clear aC gQ;have X3:=sh (X2.out.alloc X2.out.size (.cells #[.int .i64 t2,.int .i64 r2,.int .i64 f2,.int .i64 p2,.int .i64 l2] 40));obtain⟨c0,c1,c2,c3,c4⟩:=K2.out.oR;have g0:=K2.out.frozen 0;have g1:=K2.out.frozen 1;have g2:=K2.out.frozen 2;have g3:=K2.out.frozen 3;have g4:=K2.out.frozen 4;obtain⟨d0,d1,d2,d3,d4⟩:=N2.out.oR;have hk:=K2.out.lt;have hn:=N2.out.lt;go_wp2_with fail
 ·exact abT (v:= .tuple #[jm 0 0 0 0 0,.int .i64 0,.int .i64 4]) (by simp[acJ,results153,go_sem,c0,c1,c2,c3,c4,g0,g1,g2,g3,g4,hk,hn,d0,d1,d2,d3,d4]) rfl (HN.out _ _ (by refine agG ?_ (by have:=X2.out.size;simp;omega) _;repeat (first|exact X2.out|refine afb ?_ (by simp) _)))
 ·exact abT (v:= .tuple #[jm t2 r2 f2 p2 l2,.int .i64 1,.int .i64 0]) (by simp[acJ,results153,go_sem,c0,c1,c2,c3,c4,g0,g1,g2,g3,g4,hk,hn,d0,d1,d2,d3,d4]) rfl (HN.out _ _ (by refine agG ?_ (by have:=X2.out.size;simp;omega) _;repeat (first|exact X2.out|refine afb ?_ (by simp) _)))
 ·exact abT (v:= .tuple #[jm t1 r1 f1 p1 l1,.int .i64 0,.int .i64 0]) (by simp[acJ,results153,go_sem,c0,c1,c2,c3,c4,g0,g1,g2,g3,g4,hk,hn,d0,d1,d2,d3,d4]) rfl (HN.out _ _ (by refine agG ?_ (by have:=X2.out.size;simp;omega) _;repeat (first|exact X2.out|refine afb ?_ (by simp) _)))
 ·exact abT (v:= .tuple #[jm t2 r2 f2 p2 l2,.int .i64 1,.int .i64 0]) (by simp[acJ,results153,go_sem,c0,c1,c2,c3,c4,g0,g1,g2,g3,g4,hk,hn,d0,d1,d2,d3,d4]) rfl (HN.out _ _ (by refine agG ?_ (by have:=X2.out.size;simp;omega) _;repeat (first|exact X2.out|refine afb ?_ (by simp) _)))
 ·exact abT (v:= .tuple #[jm t1 r1 f1 p1 l1,.int .i64 0,.int .i64 0]) (by simp[acJ,results153,go_sem,c0,c1,c2,c3,c4,g0,g1,g2,g3,g4,hk,hn,d0,d1,d2,d3,d4]) rfl (HN.out _ _ (by refine agG ?_ (by have:=X2.out.size;simp;omega) _;repeat (first|exact X2.out|refine afb ?_ (by simp) _)))
structure aR where
 t:Int
 r:Int
 f:Int
 p:Int
 l:Int
def aR.cells (m:aR):Array No:= #[.int .i64 m.t,.int .i64 m.r,.int .i64 m.f,.int .i64 m.p,.int .i64 m.l]
def aR.ok (m:aR):Bool:=cL m.t m.r m.f m.p m.l
def aR.bytes (m:aR):ByteArray:=dq m.t m.r m.f m.p m.l
def aR.zero:aR:=⟨0,0,0,0,0⟩
def wT (s:ByteArray):aR:=⟨eD s,ij s,ie s,ig s,fx s⟩
theorem ti{m:aR}(h:m.ok=true):cF m.bytes=true/\wT m.bytes=m:=by
 have hm:kg m.bytes m.t m.r m.f m.p m.l:=⟨h,rfl⟩;obtain⟨h1,h2,h3,h4,h5,h6⟩:=OG hm;refine⟨Hj hm,?_⟩;unfold wT;rw[h1,h2,h3,h4,h5]
theorem aR.size{m:aR}(h:m.ok=true):m.bytes.size=128:=by
 unfold aR.bytes;rw[jl h,ct,qB]
structure eK where
 m:aR
 o:aR
 both:Bool
 bA:Option aR
 log:List Int
abbrev gB (g:Nat) (m o:aR) (both:Bool) (sl lg:No):Array No:=
 #[.pointer (some ⟨g,0,none⟩),.int .i64 m.t,.int .i64 m.r,.int .i64 m.f,.int .i64 m.p,.int .i64 m.l,.int .i64 o.t,.int .i64 o.r,.int .i64 o.f,.int .i64 o.p,.int .i64 o.l,.bool both,sl,lg]
def SealAt (w:AI) (T:List Nat) (sl:No):Option aR->Prop
 | none=>sl= .pointer none
 | some s=>∃b,b∈T/\sl= .pointer (some ⟨b,0,none⟩)/\Bk w b 40 s.cells
structure Hy (w:AI) (q:Nat) (T:List Nat) (g:Nat) (P:eK) (sl lg:No):Prop where
 cells:Bk w q 188 (gB g P.m P.o P.both sl lg)
 sld:SealAt w T sl P.bA
 log:w.ownsRow 0 3 1 lg P.log.length (P.log.map (acs .i64))
 zj:q∈T/\∀b,lg.ownBlock=some b->b∈T
 old:∀b∈T,b<w.heap.size
def Pg (w:AI) (q:Nat) (T:List Nat) (g:Nat) (P:eK):Prop:=∃sl lg,Hy w q T g P sl lg
theorem Hy.off{w w':AI}{q:Nat}{T U:List Nat}{g:Nat}{P:eK}{sl lg:No}(h:Hy w q T g P sl lg)(ho:ah U w w')(hU:∀b∈T,b∉U):Hy w' q T g P sl lg:=by
 refine⟨ho.bk h.cells (hU _ h.zj.1),?_,ho.own h.log (fun b hb=>hU _ (h.zj.2 b hb)),h.zj,fun b hb=>Nat.lt_of_lt_of_le (h.old b hb) ho.size⟩;have hs:=h.sld;unfold SealAt at *;split at hs
 ·exact hs
 ·obtain⟨b,h1,h2,h3⟩:=hs
  exact⟨b,h1,h2,ho.bk h3 (hU _ h1)⟩
theorem Pg.off{w w':AI}{q:Nat}{T U:List Nat}{g:Nat}{P:eK}(h:Pg w q T g P)(ho:ah U w w')(hU:∀b∈T,b∉U):Pg w' q T g P:=by
 obtain⟨sl,lg,h⟩:=h;exact⟨sl,lg,h.off ho hU⟩
theorem Pg.old{w:AI}{q:Nat}{T:List Nat}{g:Nat}{P:eK}(h:Pg w q T g P):∀b∈T,b<w.heap.size:=by
 obtain⟨sl,lg,h⟩:=h;exact h.old
theorem Pg.below{w w':AI}{q:Nat}{T:List Nat}{g:Nat}{P:eK}(h:Pg w q T g P)(hb:IT w.heap.size w w'):Pg w' q T g P:=h.off (ah.af hb []) (fun _ _=>List.not_mem_nil)
theorem aS.off{S:List Nat}{w w':AI}(h:aS w)(ho:ah S w w')(hS:0∉S):aS w':=fun k hk=>(ho.cell (p:=⟨0,k,none⟩) h.lt hS).trans (h k hk)
theorem aS.fresh{S S':List Nat}{w:AI}(h:aS w)(hf:aj w S S')(hS:0∉S):0∉S':=fun hx=>by
 rcases hf _ hx with h1|h1
 ·exact hS h1
 ·have:=h.lt;omega
def eR (D:DevS) (limit:Int):DevS×Int:=
 if 4<=limit/\limit<=512/\4*limit<=(D.sec.length:Int)then
  if (D.write 0 (dq 0 0 0 1 limit)).2≠0 then D.write 0 (dq 0 0 0 1 limit)
  else if ((D.write 0 (dq 0 0 0 1 limit)).1.write 1 (dq 1 0 0 1 limit)).2≠0 then (D.write 0 (dq 0 0 0 1 limit)).1.write 1 (dq 1 0 0 1 limit)
  else ((D.write 0 (dq 0 0 0 1 limit)).1.write 1 (dq 1 0 0 1 limit)).1.sync
 else (D,1)
theorem UN(limit:Int)(w:AI):aaf prog 98 #[.pointer none,.int .i64 limit] w fun e w'=>e= .returned (.int .i64 1)/\w=w':=by
 have hq:decide (limit<4)=true\/(decide (limit<4)=false/\decide (512<limit)=true)\/(decide (limit<4)=false/\decide (512<limit)=false/\4<=limit/\limit<=512/\decide ((0:Int)<4*limit)=true):=by simp;omega
 rcases hq with q0|⟨q0,q1⟩|⟨q0,q1,q2,q3,q4⟩;all_goals
  go_enter func98,ntmps98
  go_wp2_with (first
   | (go_at_call 151;refine(It _).mono ?_;rintro e w2 ⟨rfl,rfl⟩)
   | fail)
  go_ret
  exact⟨rfl,rfl⟩
theorem wO(D:DevS):D.al.steps<=D.steps+1:=by
 unfold DevS.al;split
 ·omega
 ·exact aeZ _
theorem rS(D:DevS)(i:Int)(s:ByteArray):(D.write i s).1.steps<=D.steps+1:=by
 unfold DevS.write;have:=wO D;split
 ·split
  ·exact this
  ·exact this
 ·show D.steps<=_;omega
theorem fa{g:Nat}{S:List Nat}{D:DevS}{w:AI}(hd:Dev w g S D)(i:Int)(s:ByteArray)(D':DevS)(r:Int)(hb:D.steps<=1000000000)(cZ:s.size<=maxLen)(h:D.write i s=(D',r)):
  aaf prog 118 #[ptr g,.int .i64 i,.string s] w (gv g S D' (.int .i64 r) w):=by
 have h1:=D0 hd i s hb cZ;rw[h]at h1;exact h1
theorem nU{g:Nat}{S:List Nat}{D:DevS}{w:AI}(hd:Dev w g S D)(D':DevS)(r:Int)(hb:D.steps<=1000000000)(h:D.sync=(D',r)):
  aaf prog 116 #[ptr g] w (gv g S D' (.int .i64 r) w):=by
 have h1:=xq hd hb;rw[h]at h1;exact h1
theorem xU(t r f p l:Int):(dq t r f p l).size<=maxLen:=by
 cases h:cL t r f p l with
 | true=>rw[jl h,ct,qB];decide
 | false=>rw[rH h];decide
def Ll (s:ByteArray) (w:AI) (e:acb) (w':AI):Prop:=∃x:Int,e= .returned (.tuple #[.string s,.int .i64 x])/\IT w.heap.size w w'
theorem G6(t r f p l:Int)(s:ByteArray)(hs:s=dq t r f p l)(w:AI)(bd:aS w):aaf prog 117 #[.agg #[.int .i64 t,.int .i64 r,.int .i64 f,.int .i64 p,.int .i64 l]] w (Ll s w):=by
 refine(qC t r f p l w bd).mono ?_;rintro e w' ⟨rfl,hb⟩;exact⟨_,by rw[hs],hb⟩
theorem lJ{g:Nat}{S S1:List Nat}{D':DevS}{w w1 w2:AI}(h1:ah S w w1)(f1:aj w S S1)(h:∃S',Dev w2 g S' D'/\ah S1 w1 w2/\aj w1 S1 S'):∃S',Dev w2 g S' D'/\ah S w w2/\aj w S S':=by
 obtain⟨S',a,b,c⟩:=h;exact⟨S',a,h1.fresh b f1,f1.trans c h1.size⟩
theorem IG{g:Nat}{S:List Nat}{D:DevS}{w:AI}(hd:Dev w g S D)(limit:Int)(hr:aS w)(hS:0∉S)(hb:D.steps<=999999990)(h:4<=limit/\limit<=512/\4*limit<=(D.sec.length:Int)):
  aaf prog 98 #[ptr g,.int .i64 limit] w (gv g S (eR D limit).1 (.int .i64 (eR D limit).2) w):=by
 have HD:=sh hd;have HR:=sh hr;have HS:=sh hS;have q0:decide (limit<4)=false:=by simp;omega
 have q1:decide ((512:Int)<limit)=false:=by simp;omega
 have q2:decide ((D.sec.length:Int)<4*limit)=false:=by simp;omega
 have q3:4<=limit:=h.1;have q4:limit<=512:=h.2.1;obtain⟨s0,rB⟩:∃s0,s0=dq 0 0 0 1 limit:=⟨_,rfl⟩;obtain⟨s1,nD⟩:∃s1,s1=dq 1 0 0 1 limit:=⟨_,rfl⟩;have Yt:Hid (∀W,aS W->aaf prog 117 #[.agg #[.int .i64 0,.int .i64 0,.int .i64 0,.int .i64 1,.int .i64 limit]] W (Ll s0 W)):=fun W hW=>G6 0 0 0 1 limit s0 rB W hW;have yA:Hid (∀W,aS W->aaf prog 117 #[.agg #[.int .i64 1,.int .i64 0,.int .i64 0,.int .i64 1,.int .i64 limit]] W (Ll s1 W)):=fun W hW=>G6 1 0 0 1 limit s1 nD W hW;have z0:s0.size<=maxLen:=by rw[rB];exact xU _ _ _ _ _
 have z1:s1.size<=maxLen:=by rw[nD];exact xU _ _ _ _ _
 have Z0:=sh z0;have Z1:=sh z1;obtain⟨D1,r1,h1⟩:∃D1 r1,D.write 0 s0=(D1,r1):=⟨_,_,rfl⟩;obtain⟨D2,r2,h2⟩:∃D2 r2,D1.write 1 s1=(D2,r2):=⟨_,_,rfl⟩;have b1:D1.steps<=D.steps+1:=by have:=rS D 0 s0;rw[h1]at this;exact this
 have b2:D2.steps<=D1.steps+1:=by have:=rS D1 1 s1;rw[h2]at this;exact this
 have HB:Hid (D.steps<=1000000000/\D1.steps<=1000000000/\D2.steps<=1000000000):=⟨by omega,by omega,by omega⟩;have HF:Hid (eR D limit=if r1≠0 then (D1,r1)else if r2≠0 then (D2,r2)else D2.sync):=show _=_ by
  unfold eR;rw[if_pos h,<-rB,<-nD,h1];simp only;rw[h2]
 have H1:=sh h1;have H2:=sh h2;have hc:((r1 != 0)=true/\Hid (eR D limit=(D1,r1)))\/((r1 != 0)=false/\(r2 != 0)=true/\Hid (eR D limit=(D2,r2)))\/((r1 != 0)=false/\(r2 != 0)=false/\Hid (eR D limit=D2.sync)):=by
  have hf:=HF.out;by_cases e1:r1=0
  ·by_cases e2:r2=0
   ·refine .inr (.inr ⟨by simp[e1],by simp[e2],show _=_ by rw[hf,if_neg (by simp[e1]),if_neg (by simp[e2])]⟩)
   ·refine .inr (.inl ⟨by simp[e1],by simp[e2],show _=_ by rw[hf,if_neg (by simp[e1]),if_pos e2]⟩)
  ·exact .inl ⟨by simp[e1],show _=_ by rw[hf,if_pos e1]⟩
 clear hd hr hS hb h rB nD z0 z1 h1 h2 b1 b2;rcases hc with⟨c1,sF⟩|⟨c1,c2,sF⟩|⟨c1,c2,sF⟩;all_goals
  go_enter func98,ntmps98
  go_wp2_with (first
   | (go_at_call 151;refine(xp HD.out).mono ?_;rintro e w2 ⟨rfl,rfl⟩)
   | fail)
  refine wp_loop_rounds 3 ?_;rw[abF];go_wp2_with fail
  (go_at_call 117)
  refine(Yt.out _ HR.out).mono ?_;rintro e w1 ⟨x0,rfl,ar⟩;have bh:=sh ar;have TY:=sh (HD.out.below ar);have F0:=sh (HR.out.below ar);clear ar;go_wp2_with fail
  (go_at_call 118)
  refine(fa TY.out 0 s0 D1 r1 HB.out.1 Z0.out H1.out).mono ?_;rintro e w2 ⟨rfl,ru⟩;have zL:=sh (lJ (ah.af bh.out S) (aj.refl _ _) ru);have gY:Hid (aS w2):=by
   obtain⟨S',p1,p2,p3⟩:=ru;exact F0.out.off p2 HS.out
  clear ru;go_wp2_with fail
 ·go_ret
  exact dJ (by rw[sF.out]) (by rw[sF.out];rfl) zL.out
 ·obtain⟨S2,g1,g2,g3⟩:=zL.out
  have vE:=sh g1;have fX:=sh g2;have PL:=sh g3;have HRS:Hid (0∉S2):=HR.out.fresh g3 HS.out;clear g1 g2 g3;rw[abF];go_wp2_with fail
  (go_at_call 117)
  refine(yA.out _ gY.out).mono ?_;rintro e w3 ⟨x1,rfl,aN⟩;have du:=sh aN;have HD3:=sh (vE.out.below aN);have Xa:=sh (gY.out.below aN);clear aN;go_wp2_with fail
  (go_at_call 118)
  refine(fa HD3.out 1 s1 D2 r2 HB.out.2.1 Z1.out H2.out).mono ?_;rintro e w4 ⟨rfl,hp4⟩;have O2:=sh (lJ (ah.af du.out S2) (aj.refl _ _) hp4);clear hp4;go_wp2_with fail
  go_ret
  exact dJ (by rw[sF.out]) (by rw[sF.out];rfl) (lJ fX.out PL.out O2.out)
 ·obtain⟨S2,g1,g2,g3⟩:=zL.out
  have vE:=sh g1;have fX:=sh g2;have PL:=sh g3;have HRS:Hid (0∉S2):=HR.out.fresh g3 HS.out;clear g1 g2 g3;rw[abF];go_wp2_with fail
  (go_at_call 117)
  refine(yA.out _ gY.out).mono ?_;rintro e w3 ⟨x1,rfl,aN⟩;have du:=sh aN;have HD3:=sh (vE.out.below aN);have Xa:=sh (gY.out.below aN);clear aN;go_wp2_with fail
  (go_at_call 118)
  refine(fa HD3.out 1 s1 D2 r2 HB.out.2.1 Z1.out H2.out).mono ?_;rintro e w4 ⟨rfl,hp4⟩;have O2:=sh (lJ (ah.af du.out S2) (aj.refl _ _) hp4);clear hp4;go_wp2_with fail
  rw[abF];go_wp2_with fail
  obtain⟨S4,g1,g2,g3⟩:=O2.out;have TZ:=sh g1;have tB:=sh (fX.out.fresh g2 PL.out);have PM:=sh (PL.out.trans g3 fX.out.size);clear g1 g2 g3
  (go_at_call 116)
  refine(xq TZ.out HB.out.2.2).mono ?_;rintro e w5 ⟨rfl,hp5⟩;have rU:=sh (lJ tB.out PM.out hp5);clear hp5;go_wp2_with fail
  go_ret
  exact dJ (by rw[sF.out]) (by rw[sF.out];rfl) rU.out
end Go.Proofs.YtjbcbnemdhbhbaaGreatDoor
