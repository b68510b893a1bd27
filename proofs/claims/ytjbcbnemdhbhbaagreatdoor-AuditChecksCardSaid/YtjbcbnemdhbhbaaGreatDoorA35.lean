import Derived.Test.YtjbcbnemdhbhbaaGreatDoorA25
import Derived.Test.YtjbcbnemdhbhbaaGreatDoorA14
set_option maxRecDepth 100000
set_option linter.unusedVariables false
set_option linter.unusedSimpArgs false
set_option maxHeartbeats 40000000
open Array renaming length_toList→ady
open Go renaming World→AI
open Go.IntKind renaming wrap_u64→afY
open Go.Lib renaming hid→sh
open List renaming append_assoc→aaa,flatMap_cons→abH,getD_eq_getElem?_getD→acD,getElem?_eq_getElem→aaG,length_append→AT,length_take→abx,take_succ_eq_append_getElem→aaU
open List.Perm renaming append_left→ace
open Nat renaming mul_le_mul_left→agV
namespace Go.Proofs.YtjbcbnemdhbhbaaGreatDoor
open Go.Proofs.Tryz
open Go.RowKit
def Fr.one (x:Nat×Nat):List UInt8:=Be.low x.1 8++Be.low x.2 4
def Fr.bytes (next:Nat) (l:List (Nat×Nat)):List UInt8:=Be.low next 4++(Be.low l.length 2++l.flatMap Fr.one)
theorem Fr.Rz(x:Nat×Nat):(Fr.one x).length=12:=by unfold Fr.one;rw[AT,Be.au,Be.au]
theorem Fr.jS:∀l:List (Nat×Nat),(l.flatMap Fr.one).length=12*l.length
 | []=>rfl
 | x::l=>by rw[abH,AT,Fr.Rz,Fr.jS l,List.length_cons];omega
theorem Fr.qf(next:Nat)(l:List (Nat×Nat)):(Fr.bytes next l).length=6+12*l.length:=by
 unfold Fr.bytes;rw[AT,AT,Be.au,Be.au,Fr.jS];omega
theorem dS{s:ByteArray}{l:List UInt8}(h:s.data.toList=l):s.size=l.length:=by
 rw[<-h,ady];rfl
theorem AO{w:AI}{A:Option Addr}{c:Nat}{l:List (Nat×Nat)}(next:Nat)(h:gi w A l)(hs:Fr.Sorted l)(hk:∀x∈l,Fr.ok x=true)(bI:(Fr.pg l).Nodup)(hl:l.length<=40)(hn:next<512):
  Calls prog 114 #[.int .i64 next,.slice A l.length c] w (fun e w'=>(∃s:ByteArray,e= .returned (.tuple #[.string s,.int .i64 0])/\s.data.toList=Fr.bytes next l)/\Below w.heap.size w w'):=by
 have HM:=sh (QA (c:=c) next h hs hk bI hl hn);have HR:=sh h;have HK:=sh hk;obtain⟨n,rj⟩:∃n,n=l.length:=⟨_,rfl⟩;have HN:=sh rj;rw[<-rj]at HM hl |-;have y1:IntKind.u64.wrap (next:Int)=next:=by rw[afY];omega
 have y2:IntKind.u64.wrap (n:Int)=n:=by rw[afY];omega
 obtain⟨s0,rB⟩:∃s:ByteArray,s=(⟨#[]⟩:ByteArray)++⟨(Be.low next 4).toArray⟩:=⟨_,rfl⟩;obtain⟨s1,nD⟩:∃s:ByteArray,s=s0++⟨(Be.low n 2).toArray⟩:=⟨_,rfl⟩;have qZ:s0.data.toList=Be.low next 4:=by rw[rB];simp
 have zP:s1.data.toList=Be.low next 4++Be.low n 2:=by rw[nD];simp[qZ]
 have Yt:=sh fun(W:AI)=>(show Calls prog 160 #[.string ⟨#[]⟩,.int .u64 next,.int .i64 4] W (cT s0 0 W) from by rw[rB];exact gX ⟨#[]⟩ next 4 W (by show 0<=1000000;omega) (by omega) (by omega) (by omega));have yA:=sh fun(W:AI)=>(show Calls prog 160 #[.string s0,.int .u64 n,.int .i64 2] W (cT s1 0 W) from by rw[nD];exact gX s0 n 2 W (by rw[dS qZ,Be.au];omega) (by omega) (by omega) (by omega));have PX:=sh fun(s:ByteArray) (m k:Nat) (W:AI) (h1:s.size<=1000000) (h2:1<=k) (h3:k<=8) (h4:m<256 ^ k)=>gX s m k W h1 h2 h3 h4;have pS:s1.size<=1000:=by rw[dS zP,AT,Be.au,Be.au];omega
 have TY:=sh zP;clear h hs hk bI hn rj rB nD qZ zP;go_enter func114,ntmps114
 go_wp2_with fail
 refine HM.out.mono ?_;rintro e w1 ⟨rfl,ar⟩;have bh:=sh ar;clear ar;go_wp2_with fail
 refine(Yt.out _).mono ?_;rintro e w2 ⟨rfl,aC⟩;have bm:=sh (bh.out.trans (aC.mono bh.out.size));clear aC;go_wp2_with fail
 refine(yA.out _).mono ?_;rintro e w3 ⟨rfl,aN⟩;have du:=sh (bm.out.trans (aN.mono bm.out.size));clear aN;go_wp2_with fail
 go_loopw [6,30] (fun s i wr=>∃(sj:ByteArray) (j:Nat),s= .string sj/\i= .int .i64 j/\j<=n/\sj.size<=1000/\Hid (sj.data.toList=Be.low next 4++Be.low n 2++(l.take j).flatMap Fr.one)/\Hid (Below w.heap.size w wr)) (fun _ i _=>n-(intOf i).toNat)
 case atStart=>exact⟨s1,0,rfl,rfl,Nat.zero_le _,pS,sh (by simpa using TY.out),du⟩
 case round=>
  obtain⟨sj,j,rfl,rfl,hj,cZ,hI,hB⟩:=hrel;by_cases aH:j<n
  ·have z5:decide ((j:Int)<(n:Int))=true:=decide_eq_true (by omega)
   have QT:j<l.length:=by have:=HN.out;omega
   obtain⟨b,o,rfl,hb,Pz,PA⟩:=(HR.out.below hB.out).at j QT;obtain⟨x,hx⟩:∃x,x=l[j]:=⟨_,rfl⟩;rw[<-hx]at Pz PA;have M9:=HK.out x (by rw[hx];exact List.getElem_mem QT);have hxb:x.1<=1099511627776/\x.2<512:=by unfold Fr.ok at M9;simp at M9;omega
   have dY:l.take (j+1)=l.take j++[x]:=by rw[hx];exact aaU QT
   obtain⟨x1,BP⟩:∃x1,x1=x.1:=⟨_,rfl⟩;obtain⟨x2,zh⟩:∃x2,x2=x.2:=⟨_,rfl⟩;rw[<-BP]at Pz hxb;rw[<-zh]at PA hxb;have y3:IntKind.u64.wrap (x1:Int)=x1:=by rw[afY];omega
   have y4:IntKind.u64.wrap (x2:Int)=x2:=by rw[afY];omega
   obtain⟨sa,hsa⟩:∃s:ByteArray,s=sj++⟨(Be.low x1 8).toArray⟩:=⟨_,rfl⟩;obtain⟨sb,hsb⟩:∃s:ByteArray,s=sa++⟨(Be.low x2 4).toArray⟩:=⟨_,rfl⟩;have hda:sa.data.toList=sj.data.toList++Be.low x1 8:=by rw[hsa];simp
   have fw:sb.data.toList=sj.data.toList++(Be.low x1 8++Be.low x2 4):=by rw[hsb];simp[hda]
   have Vk:sb.data.toList=Be.low next 4++Be.low n 2++(l.take (j+1)).flatMap Fr.one:=by
    rw[fw,hI.out,dY,List.flatMap_append,abH,List.flatMap_nil,List.append_nil,aaa];unfold Fr.one;rw[BP,zh]
   have aaY:(1099511627776:Nat)<256 ^ 8:=by decide
   have aaX:(512:Nat)<256 ^ 4:=by decide
   have afS:sa.size=sj.size+8:=by rw[dS hda,AT,Be.au,ady];rfl
   have abf:sb.size<=1000:=by
    rw[dS Vk,AT,AT,Be.au,Be.au,Fr.jS,abx];omega
   have tC:=sh fun(W:AI)=>(show Calls prog 160 #[.string sj,.int .u64 x1,.int .i64 8] W (cT sa 0 W) from by rw[hsa];exact PX.out sj x1 8 W (by omega) (by omega) (by omega) (by omega));have O0:=sh fun(W:AI)=>(show Calls prog 160 #[.string sa,.int .u64 x2,.int .i64 4] W (cT sb 0 W) from by rw[hsb];exact PX.out sa x2 4 W (by omega) (by omega) (by omega) (by omega));have HI2:=sh Vk;have HX:=sh fun(W:AI) (hW:Below (wr.alloc (.cells #[.int .i64 x1,.int .i64 x2] 62)).heap.size (wr.alloc (.cells #[.int .i64 x1,.int .i64 x2] 62)) W)=>ae (Bk.new wr 62 #[.int .i64 x1,.int .i64 x2]) hW;clear hI cZ hx M9 dY BP zh hsa hsb hda fw Vk aaY aaX afS;go_wp2_with fail
   refine(tC.out _).mono ?_;rintro e w5 ⟨rfl,cV⟩;have aT:=HX.out w5 cV;have v1:=aT.cell 1;have lv:=aT.lt;have m5:=sh ((hB.out.alloc hB.out.size (.cells #[.int .i64 x1,.int .i64 x2] 62)).trans (cV.mono (by have:=hB.out.size;simp;omega)));clear aT cV;go_wp2_with fail
   refine(O0.out _).mono ?_;rintro e w6 ⟨rfl,ga⟩;have TU:=sh (m5.out.trans (ga.mono m5.out.size));clear ga;go_wp2_with fail
   go_roundw
   case rel=>first|exact⟨sb,j+1,rfl,by go_num,by omega,abf,HI2,TU⟩|((repeat apply Exists.intro);exact⟨⟨sb,j+1,rfl,by go_num,by omega,abf,HI2,TU⟩,rfl⟩)
   case measure=>simp[intOf];omega
  ·have z5:decide ((j:Int)<(n:Int))=false:=decide_eq_false (by omega)
   have sX:j=l.length:=by have:=HN.out;omega
   have HE:=sh (show sj.data.toList=Fr.bytes next l by
    rw[hI.out,sX,List.take_length,HN.out,aaa];rfl)
   clear hI sX;go_wp2_with fail
   go_ret2
   exact⟨⟨sj,rfl,HE.out⟩,hB.out⟩
end Go.Proofs.YtjbcbnemdhbhbaaGreatDoor
namespace Go.Proofs.YtjbcbnemdhbhbaaGreatDoor
open Go.Proofs.Tryz
def eS (l:List (Nat×Nat)) (m i:Nat):List (Nat×Nat):=(l.drop (l.length*i/m)).take (l.length*(i+1)/m-l.length*i/m)
def jh (ch:List Nat) (l:List (Nat×Nat)) (i:Nat):rW:=⟨4,⟨(Fr.bytes (ch.getD (i+1) 0) (eS l ch.length i)).toArray⟩⟩
def iX (d:ag) (ch:List Nat) (l:List (Nat×Nat)):Nat->ag
 | 0=>d
 | i+1=>Tr.cY (iX d ch l i) (ch.getD i 0) (some (jh ch l i))
theorem UJ(n i m:Nat)(hm:0<m):n*i/m<=n*(i+1)/m:=Nat.div_le_div_right (agV _ (Nat.le_succ i))
theorem Gc(n i m:Nat)(hm:0<m)(hi:i<m):n*(i+1)/m<=n:=by
 refine Nat.div_le_of_le_mul ?_;rw[Nat.mul_comm m n];exact agV _ hi
theorem Gd(n i m:Nat)(hm:0<m)(h:n<=40*m):n*(i+1)/m<=n*i/m+40:=by
 have e:n*i/m+40=(n*i+40*m)/m:=by rw[Nat.add_mul_div_right _ _ hm]
 rw[e];refine Nat.div_le_div_right ?_;rw[Nat.mul_succ];omega
theorem rD(l:List (Nat×Nat))(m i:Nat)(hm:0<m)(hi:i<m):(eS l m i).length=l.length*(i+1)/m-l.length*i/m:=by
 unfold eS;rw[abx,List.length_drop];have:=Gc l.length i m hm hi;omega
theorem B2(l:List (Nat×Nat))(m i:Nat):(eS l m i).Sublist l:=(List.take_sublist _ _).trans (List.drop_sublist _ _)
theorem ou(d:ag)(ch:List Nat)(l:List (Nat×Nat)):∀(i n:Nat),n∉ch.take i->i<=ch.length->iX d ch l i n=d n
 | 0,n,_,_=>rfl
 | i+1,n,h,hi=>by
  have e1:ch.take (i+1)=ch.take i++[ch[i]]:=aaU hi;rw[e1,List.mem_append,not_or,List.mem_singleton]at h;have e2:ch.getD i 0=ch[i]'(by omega):=by rw[acD,aaG (by omega)];rfl
  show Tr.cY (iX d ch l i) (ch.getD i 0) _ n=_;rw[e2,Tr.dM _ _ h.2];exact ou d ch l i n h.1 (by omega)
theorem GQ(d:ag)(ch:List Nat)(l:List (Nat×Nat))(hn:ch.Nodup):∀(i j:Nat) (hj:j<i) (hi:i<=ch.length),iX d ch l i (ch[j]'(by omega))=some (jh ch l j)
 | i+1,j,hj,hi=>by
  have e2:ch.getD i 0=ch[i]'(by omega):=by rw[acD,aaG (by omega)];rfl
  show Tr.cY (iX d ch l i) (ch.getD i 0) _ _=_;rw[e2];by_cases e:j=i
  ·subst e
   rw[Tr.fQ]
  ·have bM:ch[j]'(by omega)≠ch[i]'(by omega):=(List.pairwise_iff_getElem.1 hn) j i (by omega) (by omega) (by omega)
   rw[Tr.dM _ _ bM];exact GQ d ch l hn i j (by omega) (by omega)
theorem Co{a b:Nat}(h:a<=b):Fr.pieces a<=Fr.pieces b:=by
 unfold Fr.pieces;split
 ·omega
 ·split
  ·omega
  ·have:=Nat.div_le_div_right (c:=40) (show a-1<=b-1 by omega)
   omega
theorem nH{n m:Nat}(h:Fr.pieces n<=m):n<=40*m:=by
 unfold Fr.pieces at h;split at h
 ·omega
 ·omega
theorem JC{n:Nat}(h:n<=512):Fr.pieces n<=13:=by
 unfold Fr.pieces;split<;>omega
namespace Tx
theorem Ok.zz{x:Tx}{limit:Nat}{D:ag}{U pc h h':List Nat}(k:x.Ok limit D U pc h)(hp:h.Perm h'):x.Ok limit D U pc h':=by
 obtain⟨dk,h1,h2⟩:=k.perm;refine⟨⟨dk,h1,List.Perm.trans ?_ h2⟩,k.one,k.le,k.lim,k.sorted,k.aK,k.sub,k.cq,k.eQ⟩;exact ace _ (ace _ (ace _ (ace _ (ace _ hp.symm))))
theorem ek.book{x x':Tx}{limit upto n:Nat}(t:ek limit upto x n x')(D:ag)(U:List Nat):x'.book D U=x.book D U:=by
 obtain⟨h1,h2⟩:=t.az;unfold Tx.book;rw[h1,h2]
end Tx
end Go.Proofs.YtjbcbnemdhbhbaaGreatDoor
