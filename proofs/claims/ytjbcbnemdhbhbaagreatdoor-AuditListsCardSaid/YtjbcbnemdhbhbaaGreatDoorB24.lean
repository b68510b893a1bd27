import Derived.Test.YtjbcbnemdhbhbaaGreatDoorB22
import Derived.Test.YtjbcbnemdhbhbaaGreatDoorB0
import Derived.Laws.MakeOwn
import Derived.Laws.CopyOwn
import Derived.Test.YtjbcbnemdhbhbaaGreatDoorB23
set_option maxRecDepth 100000
set_option linter.unusedVariables false
set_option linter.unusedSimpArgs false
set_option maxHeartbeats 40000000
open Bool renaming false_eq_true→adh
open ByteArray renaming empty→aca
open Go renaming Calls→aag,Ending→aci,Value→IS,World→AI,bodyPost_ret→abT,results→acN,rounds_succ→abK
open Go.ByteArray renaming toList_eq→abY
open Go.IntWalk renaming wrap64_in→aeB
open Go.Lib renaming hid→sh
open Go.RowKit renaming Below→No
open Go.RowKit.Below renaming alloc→aha,refl→IN,setCell→aeR
open Go.Value renaming int→acK,string→acH
open Int renaming le_refl→afX
open List renaming getElem?_eq_some_iff→abA,length_replicate→adU,replicate→abQ
open Nat renaming le_refl→AS,min→aez
namespace Go.Proofs.YtjbcbnemdhbhbaaGreatDoor
open Go.Proofs.Tryz
open Go.RowKit
open Go.PlainAid
theorem BE(n:Nat)(hn:n<=2048)(w:AI):aag prog 150 #[.int .u64 1,.int .u64 (n:Int)] w fun e w'=>e= .returned (.tuple #[.int .u64 0,.int .u64 (n:Int)])/\w=w':=by
 refine(Tryz.bits_Mul 1 n (by omega) (by omega) w).mono ?_;rintro e w' ⟨rfl,rfl⟩;refine⟨?_,rfl⟩;have h1:1*n/18446744073709551616=0:=by omega
 have h2:1*n%18446744073709551616=n:=by omega
 rw[h1,h2];rfl
def di (x:ByteArray) (n k:Nat):List IS:=abQ k (.string x)++abQ (n-k) (.string aca)
theorem uh(x:ByteArray){n k:Nat}(h:k<=n):(di x n k).length=n:=by simp[di];omega
theorem EY(x:ByteArray)(n:Nat):di x n n=abQ n (.string x):=by simp[di]
theorem m9(x:ByteArray)(n k m:Nat)(h:k+m<=n):splice (di x n k) k (abQ m (.string x))=di x n (k+m):=by
 unfold splice di;rw[List.take_left' (by simp),<-List.append_assoc,List.replicate_append_replicate,adU,List.drop_append,List.drop_of_length_le (by simp),adU,List.nil_append,List.drop_replicate]
 congr 2
 omega
theorem B0{w:AI}{b n k:Nat}{x:ByteArray}(h:Bk w b 9 (di x n k).toArray)(m:Nat)(hm:m<=k):∀(j:Nat) v,(abQ m (acH x))[j]? =some v->w.cell? ((⟨b,0,none⟩:Addr).add j)=some v:=by
 intro j v hv;obtain⟨hj,rfl⟩:=abA.1 hv;simp at hj;rw[gn,h.cell j];simp only[List.getElem_replicate];unfold di;rw[List.getElem?_toArray,List.getElem?_append_left (by simp;omega),List.getElem?_replicate,if_pos (by omega)]
theorem GG(x:ByteArray)(m:Nat):∀v∈abQ m (acH x),v.oneCell'=true:=by
 intro v hv;obtain⟨_,rfl⟩:=List.mem_replicate.1 hv;rfl
def PF (x:ByteArray) (n:Nat) (w:AI) (e:aci) (w':AI):Prop:=
 e= .returned (.slice (some ⟨w.heap.size,0,none⟩) n n)/\Bk w' w.heap.size 9 (abQ n (acH x)).toArray/\No w.heap.size w w'
theorem B2(x:ByteArray)(b n:Nat)(w:AI)(hb:Bk w b 9 #[.string x])(h0:0<n)(h1:n<=2048):
  aag prog 97 #[.slice (some ⟨b,0,none⟩) 1 1,.int .i64 (n:Int)] w (PF x n w):=by
 have HB:=sh hb;obtain⟨inf,hi,Eo,qq,Bl⟩:=info_parts tN;have IH:∀W:AI,(Instr.makeSlice 72 (.int .i64 (n:Int)) (.int .i64 (n:Int))).run prog W= .ok (.slice (some ⟨W.heap.size,0,none⟩) n n) (W.alloc (.cells (di x n 0).toArray 9)):=fun W=>by
  have h:=run_make (P:=prog) W 72 9 inf (.string aca) underlying72 hi Eo .i64 .i64 (n:Int) (n:Int) (by omega) (afX _) (by rw[Bl];omega) (by omega);rw[Int.toNat_natCast,qq,Nat.mul_one]at h;rw[h];have e:madeCells (acH aca).cells n=(di x n 0).toArray:=by
   unfold madeCells di;refine Array.ext (by simp) (fun i h1 h2=> ?_);simp[Value.cells,Nat.mod_one]
  rw[e]
 clear hi Eo qq Bl hb;have q1:decide ((n:Int)<0)=false:=by simp
 have q2:decide ((9223372036854775807:Int)<(n:Int))=false:=by simp;omega
 have HN:=sh h1;have abl:(prog.info? 9).map (·.size)=some 1:=by kernel_rfl
 have QE:aez 1 n=1:=by simp[Nat.min_def];omega
 have ady:=sh QE;have ad3:Hid (∀j v,[acH x][j]? =some v->(w.alloc (.cells (di x n 0).toArray 9)).cell? ((⟨b,0,none⟩:Addr).add j)=some v):=fun j v hv=>by
  obtain⟨hj,rfl⟩:=abA.1 hv;simp at hj;subst hj;rw[gn];simpa using (HB.out.alloc (.cells (di x n 0).toArray 9)).cell 0
 have TX:Hid (0+[acH x].length<=(di x n 0).length):=show _<=_ by rw[uh x (by omega)];simp;omega
 have YM:=sh abl;clear QE abl;go_enter func97,ntmps97
 go_wp2_with (first
  | (go_at_call 150;refine(BE n HN.out _).mono ?_;rintro e w' ⟨rfl,rfl⟩)
  | (refine wpList_copy_splice rfl (.tmp 31) (.tmp 32) 72 72 rfl 9 underlying72 YM.out _ _ n n 1 1 rfl rfl w.heap.size 0 (di x n 0) 9 (heap_alloc_new w _) [.string x] (by rw[ady.out];rfl) (fun _=>⟨rfl,_,rfl,ad3.out⟩) TX.out (GG x 1) w.heap.size w (aha (IN _ _) (AS _) _) (AS _) ?_;intro w2 tA az)
  | fail)
 have bz:=sh az;have hR:w.heap.size<w2.heap.size:=lt_of_block tA.out;clear az;go_loopw [8] (fun c wr=>∃k:Nat,1<=k/\k<=n/\c= .int .i64 (k:Int)/\Bk wr w.heap.size 9 (di x n k).toArray/\No w.heap.size w wr) (fun c _=>n-(intOf c).toNat)
 case atStart=>
  refine⟨1,AS _,by omega,rfl,?_,bz.out⟩;have h:=tA.out;have e:splice (di x n 0) 0 [acH x]=di x n 1:=m9 x n 0 1 (by omega);rw[e]at h;exact h
 case round=>
  obtain⟨k,dw,bO,rfl,aU,yo⟩:=hrel;have qL:=sh aU;have HBE:=sh yo;clear aU yo;by_cases aI:k<n
  ·have og:aez k (n-k)<=k:=Nat.min_le_left _ _
   have mF:aez k (n-k)<=n-k:=Nat.min_le_right _ _;have yw:0<aez k (n-k):=by simp only[Nat.min_def];split<;>omega
   have HMN:Hid (aez k (n-k)=aez k (n-k)):=rfl;generalize hM:aez k (n-k)=M at *;have HM:=sh hM;have i0:(0:Int)<=(k:Int):=by omega
   have i1:(k:Int)<=(n:Int):=by omega
   have i2:decide ((k:Int)<(n:Int))=true:=by simp;omega
   have i3:IntKind.i64.wrap ((k:Int)+(M:Int))=(k:Int)+(M:Int):=IntWalk.i64_in _ (by omega);have i4:¬ (n=k):=by omega
   have Pr:Hid ((abQ M (acH x)).length=aez k (n-k)):=show _=_ by rw[HM.out];simp
   have uL:Hid (k+(abQ M (acH x)).length<=(di x n k).length):=show _<=_ by rw[uh x bO];simp;omega
   have HSR:Hid (∀j v,(abQ M (acH x))[j]? =some v->wr.cell? ((⟨w.heap.size,0,none⟩:Addr).add j)=some v):=B0 qL.out M og;clear hM HMN;go_wp2_with fail
   go_region_held3 (fun W=>True) (trivial)
    ((refine step_copy_splice rfl (.tmp 41) (.tmp 44) 72 72 (by rfl) 9 underlying72 YM.out _ _ (n-k) (n-k) k n (by rfl) (by rfl) w.heap.size k (di x n k) 9 qL.out (abQ M (.string x)) Pr.out (fun _=>⟨rfl,_,rfl,HSR.out⟩) uL.out (GG x M) w.heap.size w HBE.out.drew (AS _) ?_;intro w3 AE aQ))
   go_roundw
   case rel=>
    (repeat apply Exists.intro)
    refine⟨⟨k+M,by omega,by omega,?_,?_,aQ⟩,rfl⟩
    ·simp
    ·have h:=AE.out
     rw[m9 x n k M (by omega)]at h;exact h
   case measure=>simp[intOf];omega
  ·obtain rfl:k=n:=by omega
   have i2:decide ((k:Int)<(k:Int))=false:=by simp
   go_wp2_with fail
   go_ret
   exact⟨rfl,by rw[<-EY];exact qL.out,HBE.out⟩
def uJ (n:Nat):Array IS:=(kX (abQ n 0)).toArray
theorem CG(n:Nat):madeCells (acK .u8 0).cells n=uJ n:=by
 unfold madeCells uJ kX;refine Array.ext (by simp) (fun i h1 h2=> ?_);simp[Value.cells,Nat.mod_one]
theorem J0(n j:Nat)(h:j<(abQ n (0:UInt8)).length):(uJ n)[j]? =some (.int .u8 ((abQ n (0:UInt8))[j].toNat:Int)):=by
 unfold uJ kX;simp at h;simp[h]
def xG:Array IS:=uJ 128
theorem EB(W:AI):(Instr.makeSlice 36 (.int .i64 128) (.int .i64 128)).run prog W= .ok (.slice (some ⟨W.heap.size,0,none⟩) 128 128) (W.alloc (.cells xG 5)):=by
 obtain⟨inf,hi,Eo,qq,Bl⟩:=info_parts yB;have h:=run_make (P:=prog) W 36 5 inf (.int .u8 0) underlying36 hi Eo .i64 .i64 128 128 (by omega) (afX _) (by rw[Bl];omega) (by omega);rw[qq,CG]at h;exact h
theorem DD(w:AI):(convert 36 9 (.slice (some ⟨w.heap.size,0,none⟩) 128 128)).run prog (w.alloc (.cells xG 5))= .ok (.string DevS.bw) (w.alloc (.cells xG 5)):=by
 refine ny (W:=w.alloc (.cells xG 5)) (g:=w.heap.size) (o:=0) (L:=abQ 128 0) List.length_replicate.symm (fun j hj=> ?_);rw[Nat.zero_add,(Bk.new w 5 xG).cell j];exact J0 128 j hj
def xV (n:Nat) (w:AI) (e:aci) (w':AI):Prop:=
 ∃g S,e= .returned (.tuple #[ptr g,.int .i64 0])/\Dev w' g S (DevS.new n)/\No w.heap.size w w'/\∀b∈S,w.heap.size<=b
theorem Nn{W:AI}{n g l m:Nat}(h0:0<n)(h1:n<=2048)(hl:Bk W l 9 (abQ n (acH DevS.bw)).toArray)
  (hm:IMap prog 3 W m 0 (fun _=>none)) (hg:Bk W g 156 (bW l n m false 0 0 0)):Dev W g [g,l,m] (DevS.new n):=by
 have e:(strs (DevS.new n).sec).toArray=(abQ n (acH DevS.bw)).toArray:=by simp[strs,DevS.new]
 have el:(DevS.new n).sec.length=n:=by simp[DevS.new]
 refine⟨l,m,0,id,id,⟨DevS.Ok.new h0 h1,by rw[el];exact hg,by rw[e];exact hl,?_,afX _,fun i hi=>absurd rfl hi,fun i _ hi=>absurd rfl hi,fun i hi=>absurd rfl hi,⟨by simp,by simp,by simp,fun i hi=>absurd rfl hi⟩,?_⟩⟩
 ·have:dr (DevS.new n).row id id=fun _=>none:=by funext i;unfold dr;simp[ba,DevS.new]
  rw[this];exact hm
 ·intro b hb
  simp at hb;rcases hb with rfl|rfl|rfl
  ·exact hg.lt
  ·exact hl.lt
  ·exact hm.lt
theorem zU(n:Nat)(w:AI)(h0:0<n)(h1:n<=2048):
  aag prog 41 #[.int .i64 (n:Int)] w (xV n w):=by
 have q0:decide ((n:Int)<1)=false:=by simp;omega
 have q1:decide ((2048:Int)<(n:Int))=false:=by simp;omega
 have H0:=sh h0;have H1:=sh h1;have IH:=EB;have L6:=DD w;have kL:=@run_makeMap prog;clear h0 h1;obtain⟨s0,u7⟩:∃s0,s0=DevS.bw:=⟨_,rfl⟩;rw[<-u7]at L6;have Sc:=sh u7;clear u7;generalize xG=z0 at *;have aU:Bk ((w.alloc (.cells z0 5)).alloc (.cells #[.string s0] 9)) (w.heap.size+1) 9 #[.string s0]:=by
  have h:=Bk.new (w.alloc (.cells z0 5)) 9 #[.string s0];rw[show (w.alloc (.cells z0 5)).heap.size=w.heap.size+1 from by simp]at h;exact h
 have qL:=sh aU;clear aU;go_enter func41,ntmps41
 go_wp2_with (first
  | (go_at_call 97;(with_reducible refine(B2 s0 (w.heap.size+1) n _ qL.out H0.out H1.out).mono ?_);rintro e w2 ⟨rfl,az,qT⟩;have bz:=sh az;have XN:=sh qT;clear az qT)
  | fail)
 go_ret2
 have hb:=bz.out;have yo:=XN.out;have cZ:((w.alloc (.cells z0 5)).alloc (.cells #[.string s0] 9)).heap.size=w.heap.size+1+1:=by simp
 rw[cZ]at hb yo;have eO:No w.heap.size w w2:=((((IN _ w).alloc (AS _) _).alloc (by simp) _).trans (yo.mono (by omega)));have aI:=hb.lt;have hg:=Bk.new (w2.alloc (.map #[] 0)) 156 (bW (w.heap.size+1+1) n w2.heap.size false 0 0 0);have vz:(w2.alloc (.map #[] 0)).heap.size=w2.heap.size+1:=by simp
 rw[vz]at hg;refine⟨w2.heap.size+1,[w2.heap.size+1,w.heap.size+1+1,w2.heap.size],rfl,Nn H0.out H1.out ?_ ?_ hg,?_,?_⟩
 ·rw[<-Sc.out];exact(hb.alloc _).alloc _
 ·exact(IMap.made w2 prog 3).of_heap (Below.heap_alloc _ _ _ (by simp))
 ·exact(eO.alloc (by omega) _).alloc (by simp;omega) _
 ·intro b hb
  simp at hb;omega
def cG (s:ByteArray) (w:AI) (e:aci) (w':AI):Prop:=
 e= .returned (.tuple #[jg (eC s) (ic s) (ia s) (ib s) (fw s),.int .i64 (dU s)])/\No w.heap.size w w'
theorem iL{s:ByteArray}{w w':AI}(h:cI s=false)(hb:No w.heap.size w w'):cG s w (.returned (.tuple #[.agg #[.int .i64 0,.int .i64 0,.int .i64 0,.int .i64 0,.int .i64 0],.int .i64 4])) w':=by
 obtain⟨h1,h2,h3,h4,h5,h6⟩:=uD h;unfold cG;rw[h1,h2,h3,h4,h5,h6];exact⟨rfl,hb⟩
theorem uF{s:ByteArray}{t r f p l:Int}{w w':AI}(h:ka s t r f p l)(hb:No w.heap.size w w'):cG s w (.returned (.tuple #[.agg #[.int .i64 t,.int .i64 r,.int .i64 f,.int .i64 p,.int .i64 l],.int .i64 0])) w':=by
 obtain⟨h1,h2,h3,h4,h5,h6⟩:=Ou h;unfold cG;rw[h1,h2,h3,h4,h5,h6];exact⟨rfl,hb⟩
theorem JP{s:ByteArray}(h:s.size≠128):cI s=false:=by
 cases hu:cI s with
 | false=>rfl
 | true=>exact absurd (uC hu).says.1 h
theorem Ot{s:ByteArray}(h:eV s ⟨#[82,79,76,76,66,79,79,75]⟩=false):cI s=false:=by
 cases hu:cI s with
 | false=>rfl
 | true=>
  obtain⟨_,⟨r,hr⟩,_⟩:=(uC hu).says;have:eV s ⟨#[82,79,76,76,66,79,79,75]⟩=true:=by
   unfold eV;rw[abY,abY,cV,hr];rfl
  rw[this]at h;cases h
theorem Fq{s:ByteArray}{tz:Int}(ht:tz=wrap64 (ai s 8 8)):
  (kN tz (ai s 16 4) (ai s 20 4) (ai s 24 4) (ai s 28 4)=4/\Hid (cI s=false))\/
  (kN tz (ai s 16 4) (ai s 20 4) (ai s 24 4) (ai s 28 4)=0/\((dq tz (ai s 16 4) (ai s 20 4) (ai s 24 4) (ai s 28 4)).toList==s.toList)=false/\Hid (cI s=false))\/
  (kN tz (ai s 16 4) (ai s 20 4) (ai s 24 4) (ai s 28 4)=0/\s=dq tz (ai s 16 4) (ai s 20 4) (ai s 24 4) (ai s 28 4)/\Hid (ka s tz (ai s 16 4) (ai s 20 4) (ai s 24 4) (ai s 28 4))):=by
 have key:cI s=true->ka s tz (ai s 16 4) (ai s 20 4) (ai s 24 4) (ai s 28 4):=by
  intro hu;have hp:=uC hu;have h1:=(kA hp.1);have e1:tz=ai s 8 8:=by rw[ht];exact aeB _ ⟨by omega,by omega⟩
  rw[e1];exact hp
 cases hr:cP tz (ai s 16 4) (ai s 20 4) (ai s 24 4) (ai s 28 4)with
 | false=>
  refine .inl ⟨rr hr,?_⟩;show cI s=false;cases hu:cI s with
  | false=>rfl
  | true=>have:=(key hu).1;rw[this]at hr;cases hr
 | true=>
  by_cases he:dq tz (ai s 16 4) (ai s 20 4) (ai s 24 4) (ai s 28 4)=s
  ·exact .inr (.inr ⟨je hr,he.symm,hr,he⟩)
  ·refine .inr (.inl ⟨je hr,qH he,?_⟩)
   show cI s=false;cases hu:cI s with
   | false=>rfl
   | true=>exact absurd (key hu).2 he
theorem JR(s:ByteArray)(w:AI)(h:s.size≠128):aag prog 154 #[.string s] w (cG s w):=by
 have q:((s.size:Int) != 128)=true:=by simp;omega
 have HU:=sh (JP h);clear h;go_enter func154,ntmps154
 go_wp2_with fail
 exact abT (v:= .tuple #[.agg #[.int .i64 0,.int .i64 0,.int .i64 0,.int .i64 0,.int .i64 0],.int .i64 4]) (by simp[acN,results154,go_sem]) rfl (iL HU.out (by first|exact(IN _ _).alloc (AS _) _|exact((IN _ _).alloc (AS _) _).drew))
theorem JS(s:ByteArray)(w:AI)(h:s.size=128)(hp:eV s ⟨#[82,79,76,76,66,79,79,75]⟩=false):aag prog 154 #[.string s] w (cG s w):=by
 have q:((s.size:Int) != 128)=false:=by simp;omega
 have HU:=sh (Ot hp);have HP:=sh fun W=>gq s ⟨#[82,79,76,76,66,79,79,75]⟩ W (by omega) (by rw[h];decide);rw[hp]at HP;clear h hp;go_enter func154,ntmps154
 go_wp2_with (first|(go_at_call 210;refine(HP.out _).mono ?_;rintro e w' ⟨rfl,rfl⟩)|fail)
 exact abT (v:= .tuple #[.agg #[.int .i64 0,.int .i64 0,.int .i64 0,.int .i64 0,.int .i64 0],.int .i64 4]) (by simp[acN,results154,go_sem]) rfl (iL HU.out (by first|exact(IN _ _).alloc (AS _) _|exact((IN _ _).alloc (AS _) _).drew))
theorem JT(s:ByteArray)(w:AI)(hr:aO w)(h:s.size=128)(hp:eV s ⟨#[82,79,76,76,66,79,79,75]⟩=true):aag prog 154 #[.string s] w (cG s w):=by
 have q:((s.size:Int) != 128)=false:=by simp;omega
 have HP:=sh fun W=>gq s ⟨#[82,79,76,76,66,79,79,75]⟩ W (by omega) (by rw[h];decide);rw[hp]at HP;have xK:=fun W=>at_any s 8 8 W (by omega) (by decide) (by decide) (by omega);have TG:=fun W=>at_any s 16 4 W (by omega) (by decide) (by decide) (by omega);have TH:=fun W=>at_any s 20 4 W (by omega) (by decide) (by decide) (by omega);have TI:=fun W=>at_any s 24 4 W (by omega) (by decide) (by decide) (by omega);have HA5:=fun W=>at_any s 28 4 W (by omega) (by decide) (by decide) (by omega);have l2:=iH s 16 4;have l3:=iH s 20 4;have l4:=iH s 24 4;have l5:=iH s 28 4;rw[aeB _ ⟨by omega,by omega⟩]at TG TH TI HA5;have aU:=Bk.new w 40 #[.int .i64 0,.int .i64 0,.int .i64 0,.int .i64 0,.int .i64 0];have kI:No w.heap.size w (w.alloc (.cells #[.int .i64 0,.int .i64 0,.int .i64 0,.int .i64 0,.int .i64 0] 40)):=(IN _ _).alloc (AS _) _;have lS:=hr.below kI;obtain⟨tz,Wa⟩:∃tz:Int,tz=wrap64 (ai s 8 8):=⟨_,rfl⟩;rw[<-Wa]at xK;have HU:=Fq Wa;have Dj:=fun(W:AI) (hW:aO W)=>qw tz (ai s 16 4) (ai s 20 4) (ai s 24 4) (ai s 28 4) W hW;have hpk:∃(ps:ByteArray) (pe:Int),dq tz (ai s 16 4) (ai s 20 4) (ai s 24 4) (ai s 28 4)=ps/\kN tz (ai s 16 4) (ai s 20 4) (ai s 24 4) (ai s 28 4)=pe:=⟨_,_,rfl,rfl⟩;obtain⟨ps,pe,Eg,Tl⟩:=hpk;unfold pS at Dj;rw[Eg,Tl]at Dj HU;clear Eg Tl Wa;generalize ai s 16 4=r at *;generalize ai s 20 4=f at *
 generalize ai s 24 4=p at *;generalize ai s 28 4=l at *;have bh:=sh (show ∀W,aag prog 211 #[.string s,.int .i64 8,.int .i64 8] W (dF tz W) from xK);have bz:=sh (show ∀W,aag prog 211 #[.string s,.int .i64 16,.int .i64 4] W (dF (r:Int) W) from TG);have dt:=sh (show ∀W,aag prog 211 #[.string s,.int .i64 20,.int .i64 4] W (dF (f:Int) W) from TH);have fx:=sh (show ∀W,aag prog 211 #[.string s,.int .i64 24,.int .i64 4] W (dF (p:Int) W) from TI);have ou:=sh (show ∀W,aag prog 211 #[.string s,.int .i64 28,.int .i64 4] W (dF (l:Int) W) from HA5);have HK:=sh Dj;have qL:=sh aU;have kR:=sh kI;have rN:=sh lS;have qz:decide (s.size<32)=false:=by simp;omega
 have qz2:decide ((s.size:Int)<32)=false:=by simp;omega
 clear xK TG TH TI HA5 Dj aU kI lS hp hr l2 l3 l4 l5;rcases HU with⟨rfl,Uu⟩|⟨rfl,qps,Uu⟩|⟨rfl,rfl,Sa⟩;all_goals
  go_enter func154,ntmps154
  go_wp2_with (first|(go_at_call 210;refine(HP.out _).mono ?_;rintro e w' ⟨rfl,rfl⟩)|fail)
  refine(bh.out _).mono ?_;rintro e w1 ⟨rfl,ar⟩;have X1:=sh (kR.out.trans (ar.mono kR.out.size));have K1:=sh (af qL.out ar);have R1:=sh (rN.out.below ar);clear ar;go_wp2_with fail
  refine(bz.out _).mono ?_;rintro e w2 ⟨rfl,az⟩;have X2:=sh (X1.out.trans (az.mono X1.out.size));have K2:=sh (af K1.out az);have R2:=sh (R1.out.below az);clear az;go_wp2_with fail
  refine(dt.out _).mono ?_;rintro e w3 ⟨rfl,aQ⟩;have X3:=sh (X2.out.trans (aQ.mono X2.out.size));have K3:=sh (af K2.out aQ);have R3:=sh (R2.out.below aQ);clear aQ;go_wp2_with fail
  refine(fx.out _).mono ?_;rintro e w4 ⟨rfl,b7⟩;have X4:=sh (X3.out.trans (b7.mono X3.out.size));have K4:=sh (af K3.out b7);have R4:=sh (R3.out.below b7);clear b7;go_wp2_with fail
  refine(ou.out _).mono ?_;rintro e w5 ⟨rfl,dO⟩;have X5:=sh (X4.out.trans (dO.mono X4.out.size));have K5:=sh (af K4.out dO);have R5:=sh (R4.out.below dO);clear dO;go_wp2_with fail
  refine(HK.out _ (R5.out.below ((IN _ _).alloc (AS _) _))).mono ?_;rintro e w6 ⟨rfl,gS⟩;have QG:=Bk.new w5 40 #[.int .i64 tz,.int .i64 (r:Int),.int .i64 (f:Int),.int .i64 (p:Int),.int .i64 (l:Int)];have X6:=sh ((X5.out.alloc X5.out.size (.cells #[.int .i64 tz,.int .i64 (r:Int),.int .i64 (f:Int),.int .i64 (p:Int),.int .i64 (l:Int)] 40)).trans (gS.mono (by have:=X5.out.size;simp;omega)));have K6:=sh (af (K5.out.alloc _) gS);have N6:=sh (af QG gS);clear gS QG;obtain⟨c0,c1,c2,c3,c4⟩:=K6.out.oH;have g0:=K6.out.frozen 0;have g1:=K6.out.frozen 1;have g2:=K6.out.frozen 2;have g3:=K6.out.frozen 3;have g4:=K6.out.frozen 4;obtain⟨d0,d1,d2,d3,d4⟩:=N6.out.oH;go_wp2_with fail
  first
   | exact abT (v:= .tuple #[.agg #[.int .i64 0,.int .i64 0,.int .i64 0,.int .i64 0,.int .i64 0],.int .i64 4]) (by simp[acN,results154,go_sem, *]) rfl (iL Uu.out (by repeat (first|exact X6.out|refine aeR ?_ (by simp) _)))
   | exact abT (v:= .tuple #[.agg #[.int .i64 tz,.int .i64 (r:Int),.int .i64 (f:Int),.int .i64 (p:Int),.int .i64 (l:Int)],.int .i64 0]) (by simp[acN,results154,go_sem, *]) rfl (uF Sa.out (by repeat (first|exact X6.out|refine aeR ?_ (by simp) _)))
   | (trace_state;fail)
theorem mi(s:ByteArray)(w:AI)(hr:aO w):aag prog 154 #[.string s] w (cG s w):=by
 by_cases h:s.size=128
 ·cases hp:eV s ⟨#[82,79,76,76,66,79,79,75]⟩with
  | false=>exact JS s w h hp
  | true=>exact JT s w hr h hp
 ·exact JR s w h
def C1 (a b:ByteArray):Bool:=cI b&&(!cI a||decide (eC a<eC b))
def gZ (a b:ByteArray):ByteArray:=if C1 a b then b else a
def Nt (a b:ByteArray):Int:=if C1 a b then 1 else 0
def eh (a b:ByteArray) (w:AI) (e:aci) (w':AI):Prop:=
 e= .returned (.tuple #[jg (eC (gZ a b)) (ic (gZ a b)) (ia (gZ a b)) (ib (gZ a b)) (fw (gZ a b)),.int .i64 (Nt a b),.int .i64 (dU (gZ a b))])/\No w.heap.size w w'
theorem kD(s:ByteArray):(dU s=0/\cI s=true)\/(dU s=4/\cI s=false):=by
 cases h:cI s with
 | true=>exact .inl ⟨by unfold dU;rw[h];rfl,rfl⟩
 | false=>exact .inr ⟨by unfold dU;rw[h];rfl,rfl⟩
def NwA (a b:ByteArray) (t r f p l:Int):Prop:=∀w w',No w.heap.size w w'->eh a b w (.returned (.tuple #[jg t r f p l,.int .i64 0,.int .i64 0])) w'
def NwB (a b:ByteArray) (t r f p l:Int):Prop:=∀w w',No w.heap.size w w'->eh a b w (.returned (.tuple #[jg t r f p l,.int .i64 1,.int .i64 0])) w'
def NwN (a b:ByteArray):Prop:=∀w w',No w.heap.size w w'->eh a b w (.returned (.tuple #[jg 0 0 0 0 0,.int .i64 0,.int .i64 4])) w'
theorem Nr{a b:ByteArray}(h:C1 a b=false)(he:dU a=0):NwA a b (eC a) (ic a) (ia a) (ib a) (fw a):=by
 intro w w' hb;unfold eh gZ Nt;rw[h];simp only[adh,if_false];rw[he];exact⟨rfl,hb⟩
theorem Ns{a b:ByteArray}(h:C1 a b=true)(he:dU b=0):NwB a b (eC b) (ic b) (ia b) (ib b) (fw b):=by
 intro w w' hb;unfold eh gZ Nt;rw[h];simp only[if_true];rw[he];exact⟨rfl,hb⟩
theorem Wo{a b:ByteArray}(ha:cI a=false)(hb:cI b=false):NwN a b:=by
 intro w w' gH;have h:C1 a b=false:=by unfold C1;rw[hb];rfl
 unfold eh gZ Nt;rw[h];simp only[adh,if_false];obtain⟨h1,h2,h3,h4,h5,h6⟩:=uD ha;rw[h1,h2,h3,h4,h5,h6];exact⟨rfl,gH⟩
theorem Nu(a b:ByteArray):(dU a=4/\dU b=4/\Hid (NwN a b))\/(dU a=4/\dU b=0/\Hid (NwB a b (eC b) (ic b) (ia b) (ib b) (fw b)))\/(dU a=0/\dU b=4/\Hid (NwA a b (eC a) (ic a) (ia a) (ib a) (fw a)))\/
  (dU a=0/\dU b=0/\eC a<eC b/\Hid (NwB a b (eC b) (ic b) (ia b) (ib b) (fw b)))\/(dU a=0/\dU b=0/\eC b<=eC a/\Hid (NwA a b (eC a) (ic a) (ia a) (ib a) (fw a))):=by
 rcases kD a with⟨ea,ha⟩|⟨ea,ha⟩<;>rcases kD b with⟨eb,hb⟩|⟨eb,hb⟩
 ·by_cases ht:eC a<eC b
  ·exact .inr (.inr (.inr (.inl ⟨ea,eb,ht,Ns (by unfold C1;rw[ha,hb];simp[ht]) eb⟩)))
  ·exact .inr (.inr (.inr (.inr ⟨ea,eb,by omega,Nr (by unfold C1;rw[ha,hb];simp[ht]) ea⟩)))
 ·exact .inr (.inr (.inl ⟨ea,eb,Nr (by unfold C1;rw[hb];rfl) ea⟩))
 ·exact .inr (.inl ⟨ea,eb,Ns (by unfold C1;rw[ha,hb];rfl) eb⟩)
 ·exact .inl ⟨ea,eb,Wo ha hb⟩
theorem EH(a b:ByteArray)(w:AI)(hr:aO w):aag prog 153 #[.string a,.string b] w (eh a b w):=by
 have HU1:=fun(W:AI) (hW:aO W)=>mi a W hW;have HU2:=fun(W:AI) (hW:aO W)=>mi b W hW;unfold cG at HU1 HU2;have fu:=Nu a b;generalize eC a=t1 at *;generalize ic a=r1 at *;generalize ia a=f1 at *;generalize ib a=p1 at *;generalize fw a=l1 at *;generalize dU a=e1 at *;generalize eC b=t2 at *;generalize ic b=r2 at *;generalize ia b=f2 at *;generalize ib b=p2 at *;generalize fw b=l2 at *;generalize dU b=e2 at *;have aU:=Bk.new w 40 #[.int .i64 0,.int .i64 0,.int .i64 0,.int .i64 0,.int .i64 0];have kI:No w.heap.size w (w.alloc (.cells #[.int .i64 0,.int .i64 0,.int .i64 0,.int .i64 0,.int .i64 0] 40)):=(IN _ _).alloc (AS _) _;have qL:=sh aU;have kR:=sh kI;have rN:=sh (hr.below kI);have HV1:=sh HU1;have uN:=sh HU2;clear HU1 HU2 aU kI hr;rcases fu with⟨rfl,rfl,HN⟩|⟨rfl,rfl,HN⟩|⟨rfl,rfl,HN⟩|⟨rfl,rfl,ht,HN⟩|⟨rfl,rfl,ht,HN⟩;all_goals
  go_enter func153,ntmps153
  go_wp2_with fail
  refine(HV1.out _ rN.out).mono ?_;rintro e w1 ⟨rfl,ar⟩;have X1:=sh (kR.out.trans (ar.mono kR.out.size));have K1:=sh (af qL.out ar);have R1:=sh (rN.out.below ar);clear ar;go_wp2_with fail
  refine(uN.out _ (R1.out.below ((IN _ _).alloc (AS _) _))).mono ?_;rintro e w2 ⟨rfl,az⟩;have gJ:=Bk.new w1 40 #[.int .i64 t1,.int .i64 r1,.int .i64 f1,.int .i64 p1,.int .i64 l1];have X2:=sh ((X1.out.alloc X1.out.size (.cells #[.int .i64 t1,.int .i64 r1,.int .i64 f1,.int .i64 p1,.int .i64 l1] 40)).trans (az.mono (by have:=X1.out.size;simp;omega)));have K2:=sh (af (K1.out.alloc _) az);have N2:=sh (af gJ az);clear az gJ;have X3:=sh (X2.out.alloc X2.out.size (.cells #[.int .i64 t2,.int .i64 r2,.int .i64 f2,.int .i64 p2,.int .i64 l2] 40));obtain⟨c0,c1,c2,c3,c4⟩:=K2.out.oH;have g0:=K2.out.frozen 0;have g1:=K2.out.frozen 1;have g2:=K2.out.frozen 2;have g3:=K2.out.frozen 3;have g4:=K2.out.frozen 4;obtain⟨d0,d1,d2,d3,d4⟩:=N2.out.oH;have hk:=K2.out.lt;have hn:=N2.out.lt;go_wp2_with fail
 ·exact abT (v:= .tuple #[jg 0 0 0 0 0,.int .i64 0,.int .i64 4]) (by simp[acN,results153,go_sem,c0,c1,c2,c3,c4,g0,g1,g2,g3,g4,hk,hn,d0,d1,d2,d3,d4]) rfl (HN.out _ _ (by refine aha ?_ (by have:=X2.out.size;simp;omega) _;repeat (first|exact X2.out|refine aeR ?_ (by simp) _)))
 ·exact abT (v:= .tuple #[jg t2 r2 f2 p2 l2,.int .i64 1,.int .i64 0]) (by simp[acN,results153,go_sem,c0,c1,c2,c3,c4,g0,g1,g2,g3,g4,hk,hn,d0,d1,d2,d3,d4]) rfl (HN.out _ _ (by refine aha ?_ (by have:=X2.out.size;simp;omega) _;repeat (first|exact X2.out|refine aeR ?_ (by simp) _)))
 ·exact abT (v:= .tuple #[jg t1 r1 f1 p1 l1,.int .i64 0,.int .i64 0]) (by simp[acN,results153,go_sem,c0,c1,c2,c3,c4,g0,g1,g2,g3,g4,hk,hn,d0,d1,d2,d3,d4]) rfl (HN.out _ _ (by refine aha ?_ (by have:=X2.out.size;simp;omega) _;repeat (first|exact X2.out|refine aeR ?_ (by simp) _)))
 ·exact abT (v:= .tuple #[jg t2 r2 f2 p2 l2,.int .i64 1,.int .i64 0]) (by simp[acN,results153,go_sem,c0,c1,c2,c3,c4,g0,g1,g2,g3,g4,hk,hn,d0,d1,d2,d3,d4]) rfl (HN.out _ _ (by refine aha ?_ (by have:=X2.out.size;simp;omega) _;repeat (first|exact X2.out|refine aeR ?_ (by simp) _)))
 ·exact abT (v:= .tuple #[jg t1 r1 f1 p1 l1,.int .i64 0,.int .i64 0]) (by simp[acN,results153,go_sem,c0,c1,c2,c3,c4,g0,g1,g2,g3,g4,hk,hn,d0,d1,d2,d3,d4]) rfl (HN.out _ _ (by refine aha ?_ (by have:=X2.out.size;simp;omega) _;repeat (first|exact X2.out|refine aeR ?_ (by simp) _)))
structure aL where
 t:Int
 r:Int
 f:Int
 p:Int
 l:Int
def aL.cells (m:aL):Array IS:= #[.int .i64 m.t,.int .i64 m.r,.int .i64 m.f,.int .i64 m.p,.int .i64 m.l]
def aL.ok (m:aL):Bool:=cP m.t m.r m.f m.p m.l
def aL.bytes (m:aL):ByteArray:=dq m.t m.r m.f m.p m.l
def aL.zero:aL:=⟨0,0,0,0,0⟩
def vQ (s:ByteArray):aL:=⟨eC s,ic s,ia s,ib s,fw s⟩
theorem sF{m:aL}(h:m.ok=true):cI m.bytes=true/\vQ m.bytes=m:=by
 have hm:ka m.bytes m.t m.r m.f m.p m.l:=⟨h,rfl⟩;obtain⟨h1,h2,h3,h4,h5,h6⟩:=Ou hm;refine⟨GS hm,?_⟩;unfold vQ;rw[h1,h2,h3,h4,h5]
theorem aL.size{m:aL}(h:m.ok=true):m.bytes.size=128:=by
 unfold aL.bytes;rw[jf h,cA,qv]
structure eR where
 m:aL
 o:aL
 both:Bool
 bC:Option aL
 log:List Int
abbrev gv (g:Nat) (m o:aL) (both:Bool) (sl lg:IS):Array IS:=
 #[.pointer (some ⟨g,0,none⟩),.int .i64 m.t,.int .i64 m.r,.int .i64 m.f,.int .i64 m.p,.int .i64 m.l,.int .i64 o.t,.int .i64 o.r,.int .i64 o.f,.int .i64 o.p,.int .i64 o.l,.bool both,sl,lg]
def SealAt (w:AI) (T:List Nat) (sl:IS):Option aL->Prop
 | none=>sl= .pointer none
 | some s=>∃b,b∈T/\sl= .pointer (some ⟨b,0,none⟩)/\Bk w b 40 s.cells
structure Hb (w:AI) (q:Nat) (T:List Nat) (g:Nat) (P:eR) (sl lg:IS):Prop where
 cells:Bk w q 188 (gv g P.m P.o P.both sl lg)
 sld:SealAt w T sl P.bC
 log:w.ownsRow 0 3 1 lg P.log.length (P.log.map (acK .i64))
 zm:q∈T/\∀b,lg.ownBlock=some b->b∈T
 old:∀b∈T,b<w.heap.size
def Pg (w:AI) (q:Nat) (T:List Nat) (g:Nat) (P:eR):Prop:=∃sl lg,Hb w q T g P sl lg
theorem Hb.off{w w':AI}{q:Nat}{T U:List Nat}{g:Nat}{P:eR}{sl lg:IS}(h:Hb w q T g P sl lg)(ho:ah U w w')(hU:∀b∈T,b∉U):Hb w' q T g P sl lg:=by
 refine⟨ho.bk h.cells (hU _ h.zm.1),?_,ho.own h.log (fun b hb=>hU _ (h.zm.2 b hb)),h.zm,fun b hb=>Nat.lt_of_lt_of_le (h.old b hb) ho.size⟩;have hs:=h.sld;unfold SealAt at *;split at hs
 ·exact hs
 ·obtain⟨b,h1,h2,h3⟩:=hs
  exact⟨b,h1,h2,ho.bk h3 (hU _ h1)⟩
theorem Pg.off{w w':AI}{q:Nat}{T U:List Nat}{g:Nat}{P:eR}(h:Pg w q T g P)(ho:ah U w w')(hU:∀b∈T,b∉U):Pg w' q T g P:=by
 obtain⟨sl,lg,h⟩:=h;exact⟨sl,lg,h.off ho hU⟩
theorem Pg.old{w:AI}{q:Nat}{T:List Nat}{g:Nat}{P:eR}(h:Pg w q T g P):∀b∈T,b<w.heap.size:=by
 obtain⟨sl,lg,h⟩:=h;exact h.old
theorem Pg.below{w w':AI}{q:Nat}{T:List Nat}{g:Nat}{P:eR}(h:Pg w q T g P)(hb:No w.heap.size w w'):Pg w' q T g P:=h.off (ah.ae hb []) (fun _ _=>List.not_mem_nil)
theorem aO.off{S:List Nat}{w w':AI}(h:aO w)(ho:ah S w w')(hS:0∉S):aO w':=fun k hk=>(ho.cell (p:=⟨0,k,none⟩) h.lt hS).trans (h k hk)
theorem aO.fresh{S S':List Nat}{w:AI}(h:aO w)(hf:aj w S S')(hS:0∉S):0∉S':=fun hx=>by
 rcases hf _ hx with h1|h1
 ·exact hS h1
 ·have:=h.lt;omega
def eS (D:DevS) (limit:Int):DevS×Int:=
 if 4<=limit/\limit<=512/\4*limit<=(D.sec.length:Int)then
  if (D.write 0 (dq 0 0 0 1 limit)).2≠0 then D.write 0 (dq 0 0 0 1 limit)
  else if ((D.write 0 (dq 0 0 0 1 limit)).1.write 1 (dq 1 0 0 1 limit)).2≠0 then (D.write 0 (dq 0 0 0 1 limit)).1.write 1 (dq 1 0 0 1 limit)
  else ((D.write 0 (dq 0 0 0 1 limit)).1.write 1 (dq 1 0 0 1 limit)).1.sync
 else (D,1)
theorem vL(D:DevS):D.al.steps<=D.steps+1:=by
 unfold DevS.al;split
 ·omega
 ·exact afX _
theorem rJ(D:DevS)(i:Int)(s:ByteArray):(D.write i s).1.steps<=D.steps+1:=by
 unfold DevS.write;have:=vL D;split
 ·split
  ·exact this
  ·exact this
 ·show D.steps<=_;omega
theorem fe{g:Nat}{S:List Nat}{D:DevS}{w:AI}(hd:Dev w g S D)(i:Int)(s:ByteArray)(D':DevS)(r:Int)(hb:D.steps<=1000000000)(cZ:s.size<=maxLen)(h:D.write i s=(D',r)):
  aag prog 118 #[ptr g,.int .i64 i,.string s] w (gl g S D' (.int .i64 r) w):=by
 have h1:=DK hd i s hb cZ;rw[h]at h1;exact h1
theorem nD{g:Nat}{S:List Nat}{D:DevS}{w:AI}(hd:Dev w g S D)(D':DevS)(r:Int)(hb:D.steps<=1000000000)(h:D.sync=(D',r)):
  aag prog 116 #[ptr g] w (gl g S D' (.int .i64 r) w):=by
 have h1:=wu hd hb;rw[h]at h1;exact h1
theorem wZ(t r f p l:Int):(dq t r f p l).size<=maxLen:=by
 cases h:cP t r f p l with
 | true=>rw[jf h,cA,qv];decide
 | false=>rw[ru h];decide
def K0 (s:ByteArray) (w:AI) (e:aci) (w':AI):Prop:=∃x:Int,e= .returned (.tuple #[.string s,.int .i64 x])/\No w.heap.size w w'
theorem GB(t r f p l:Int)(s:ByteArray)(hs:s=dq t r f p l)(w:AI)(bc:aO w):aag prog 117 #[.agg #[.int .i64 t,.int .i64 r,.int .i64 f,.int .i64 p,.int .i64 l]] w (K0 s w):=by
 refine(qw t r f p l w bc).mono ?_;rintro e w' ⟨rfl,hb⟩;exact⟨_,by rw[hs],hb⟩
theorem lD{g:Nat}{S S1:List Nat}{D':DevS}{w w1 w2:AI}(h1:ah S w w1)(f1:aj w S S1)(h:∃S',Dev w2 g S' D'/\ah S1 w1 w2/\aj w1 S1 S'):∃S',Dev w2 g S' D'/\ah S w w2/\aj w S S':=by
 obtain⟨S',a,b,c⟩:=h;exact⟨S',a,h1.fresh b f1,f1.trans c h1.size⟩
theorem Ik{g:Nat}{S:List Nat}{D:DevS}{w:AI}(hd:Dev w g S D)(limit:Int)(hr:aO w)(hS:0∉S)(hb:D.steps<=999999990)(h:4<=limit/\limit<=512/\4*limit<=(D.sec.length:Int)):
  aag prog 98 #[ptr g,.int .i64 limit] w (gl g S (eS D limit).1 (.int .i64 (eS D limit).2) w):=by
 have HD:=sh hd;have HR:=sh hr;have HS:=sh hS;have q0:decide (limit<4)=false:=by simp;omega
 have q1:decide ((512:Int)<limit)=false:=by simp;omega
 have q2:decide ((D.sec.length:Int)<4*limit)=false:=by simp;omega
 have q3:4<=limit:=h.1;have q4:limit<=512:=h.2.1;obtain⟨s0,u7⟩:∃s0,s0=dq 0 0 0 1 limit:=⟨_,rfl⟩;obtain⟨s1,pK⟩:∃s1,s1=dq 1 0 0 1 limit:=⟨_,rfl⟩;have Dh:Hid (∀W,aO W->aag prog 117 #[.agg #[.int .i64 0,.int .i64 0,.int .i64 0,.int .i64 1,.int .i64 limit]] W (K0 s0 W)):=fun W hW=>GB 0 0 0 1 limit s0 u7 W hW;have CJ:Hid (∀W,aO W->aag prog 117 #[.agg #[.int .i64 1,.int .i64 0,.int .i64 0,.int .i64 1,.int .i64 limit]] W (K0 s1 W)):=fun W hW=>GB 1 0 0 1 limit s1 pK W hW;have z0:s0.size<=maxLen:=by rw[u7];exact wZ _ _ _ _ _
 have z1:s1.size<=maxLen:=by rw[pK];exact wZ _ _ _ _ _
 have Z0:=sh z0;have Z1:=sh z1;obtain⟨D1,r1,h1⟩:∃D1 r1,D.write 0 s0=(D1,r1):=⟨_,_,rfl⟩;obtain⟨D2,r2,h2⟩:∃D2 r2,D1.write 1 s1=(D2,r2):=⟨_,_,rfl⟩;have b1:D1.steps<=D.steps+1:=by have:=rJ D 0 s0;rw[h1]at this;exact this
 have b2:D2.steps<=D1.steps+1:=by have:=rJ D1 1 s1;rw[h2]at this;exact this
 have HB:Hid (D.steps<=1000000000/\D1.steps<=1000000000/\D2.steps<=1000000000):=⟨by omega,by omega,by omega⟩;have HF:Hid (eS D limit=if r1≠0 then (D1,r1)else if r2≠0 then (D2,r2)else D2.sync):=show _=_ by
  unfold eS;rw[if_pos h,<-u7,<-pK,h1];simp only;rw[h2]
 have H1:=sh h1;have H2:=sh h2;have hc:((r1 != 0)=true/\Hid (eS D limit=(D1,r1)))\/((r1 != 0)=false/\(r2 != 0)=true/\Hid (eS D limit=(D2,r2)))\/((r1 != 0)=false/\(r2 != 0)=false/\Hid (eS D limit=D2.sync)):=by
  have hf:=HF.out;by_cases e1:r1=0
  ·by_cases e2:r2=0
   ·refine .inr (.inr ⟨by simp[e1],by simp[e2],show _=_ by rw[hf,if_neg (by simp[e1]),if_neg (by simp[e2])]⟩)
   ·refine .inr (.inl ⟨by simp[e1],by simp[e2],show _=_ by rw[hf,if_neg (by simp[e1]),if_pos e2]⟩)
  ·exact .inl ⟨by simp[e1],show _=_ by rw[hf,if_pos e1]⟩
 clear hd hr hS hb h u7 pK z0 z1 h1 h2 b1 b2;rcases hc with⟨c1,uL⟩|⟨c1,c2,uL⟩|⟨c1,c2,uL⟩;all_goals
  go_enter func98,ntmps98
  go_wp2_with (first
   | (go_at_call 151;refine(wo HD.out).mono ?_;rintro e w2 ⟨rfl,rfl⟩)
   | fail)
  refine wp_loop_rounds 3 ?_;rw[abK];go_wp2_with fail
  (go_at_call 117)
  refine(Dh.out _ HR.out).mono ?_;rintro e w1 ⟨x0,rfl,ar⟩;have bh:=sh ar;have TP:=sh (HD.out.below ar);have KK:=sh (HR.out.below ar);clear ar;go_wp2_with fail
  (go_at_call 118)
  refine(fe TP.out 0 s0 D1 r1 HB.out.1 Z0.out H1.out).mono ?_;rintro e w2 ⟨rfl,qY⟩;have ze:=sh (lD (ah.ae bh.out S) (aj.refl _ _) qY);have gM:Hid (aO w2):=by
   obtain⟨S',p1,p2,p3⟩:=qY;exact KK.out.off p2 HS.out
  clear qY;go_wp2_with fail
 ·go_ret
  exact dH (by rw[uL.out]) (by rw[uL.out];rfl) ze.out
 ·obtain⟨S2,g1,g2,g3⟩:=ze.out
  have uK:=sh g1;have gW:=sh g2;have Pk:=sh g3;have HRS:Hid (0∉S2):=HR.out.fresh g3 HS.out;clear g1 g2 g3;rw[abK];go_wp2_with fail
  (go_at_call 117)
  refine(CJ.out _ gM.out).mono ?_;rintro e w3 ⟨x1,rfl,aQ⟩;have dt:=sh aQ;have HD3:=sh (uK.out.below aQ);have HR3:=sh (gM.out.below aQ);clear aQ;go_wp2_with fail
  (go_at_call 118)
  refine(fe HD3.out 1 s1 D2 r2 HB.out.2.1 Z1.out H2.out).mono ?_;rintro e w4 ⟨rfl,hp4⟩;have W0:=sh (lD (ah.ae dt.out S2) (aj.refl _ _) hp4);clear hp4;go_wp2_with fail
  go_ret
  exact dH (by rw[uL.out]) (by rw[uL.out];rfl) (lD gW.out Pk.out W0.out)
 ·obtain⟨S2,g1,g2,g3⟩:=ze.out
  have uK:=sh g1;have gW:=sh g2;have Pk:=sh g3;have HRS:Hid (0∉S2):=HR.out.fresh g3 HS.out;clear g1 g2 g3;rw[abK];go_wp2_with fail
  (go_at_call 117)
  refine(CJ.out _ gM.out).mono ?_;rintro e w3 ⟨x1,rfl,aQ⟩;have dt:=sh aQ;have HD3:=sh (uK.out.below aQ);have HR3:=sh (gM.out.below aQ);clear aQ;go_wp2_with fail
  (go_at_call 118)
  refine(fe HD3.out 1 s1 D2 r2 HB.out.2.1 Z1.out H2.out).mono ?_;rintro e w4 ⟨rfl,hp4⟩;have W0:=sh (lD (ah.ae dt.out S2) (aj.refl _ _) hp4);clear hp4;go_wp2_with fail
  rw[abK];go_wp2_with fail
  obtain⟨S4,g1,g2,g3⟩:=W0.out;have TQ:=sh g1;have xO:=sh (gW.out.fresh g2 Pk.out);have Pm:=sh (Pk.out.trans g3 gW.out.size);clear g1 g2 g3
  (go_at_call 116)
  refine(wu TQ.out HB.out.2.2).mono ?_;rintro e w5 ⟨rfl,hp5⟩;have rM:=sh (lD xO.out Pm.out hp5);clear hp5;go_wp2_with fail
  go_ret
  exact dH (by rw[uL.out]) (by rw[uL.out];rfl) rM.out
end Go.Proofs.YtjbcbnemdhbhbaaGreatDoor
