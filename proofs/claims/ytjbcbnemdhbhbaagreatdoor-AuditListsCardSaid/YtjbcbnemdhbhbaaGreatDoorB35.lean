import Derived.Test.YtjbcbnemdhbhbaaGreatDoorB21
import Derived.Test.YtjbcbnemdhbhbaaGreatDoorB13
set_option maxRecDepth 100000
set_option linter.unusedVariables false
set_option linter.unusedSimpArgs false
set_option maxHeartbeats 40000000
open Array renaming length_toList→ack
open Go renaming World→AI
open Go.IntKind renaming wrap_u64→afP
open Go.Lib renaming hid→sh
open List renaming append_assoc→OF,flatMap_cons→abL,getD_eq_getElem?_getD→acE,getElem?_eq_getElem→aaG,length_append→BY,length_take→abv,take_succ_eq_append_getElem→aaT
open List.Perm renaming append_left→acw
open Nat renaming mul_le_mul_left→agO
namespace Go.Proofs.YtjbcbnemdhbhbaaGreatDoor
open Go.Proofs.Tryz
open Go.RowKit
def Fr.one (x:Nat×Nat):List UInt8:=Be.low x.1 8++Be.low x.2 4
def Fr.bytes (next:Nat) (l:List (Nat×Nat)):List UInt8:=Be.low next 4++(Be.low l.length 2++l.flatMap Fr.one)
theorem Fr.Rn(x:Nat×Nat):(Fr.one x).length=12:=by unfold Fr.one;rw[BY,Be.aq,Be.aq]
theorem Fr.jL:∀l:List (Nat×Nat),(l.flatMap Fr.one).length=12*l.length
 | []=>rfl
 | x::l=>by rw[abL,BY,Fr.Rn,Fr.jL l,List.length_cons];omega
theorem Fr.pU(next:Nat)(l:List (Nat×Nat)):(Fr.bytes next l).length=6+12*l.length:=by
 unfold Fr.bytes;rw[BY,BY,Be.aq,Be.aq,Fr.jL];omega
theorem dS{s:ByteArray}{l:List UInt8}(h:s.data.toList=l):s.size=l.length:=by
 rw[<-h,ack];rfl
theorem zZ{w:AI}{A:Option Addr}{c:Nat}{l:List (Nat×Nat)}(next:Nat)(h:fX w A l)(hs:Fr.Sorted l)(hk:∀x∈l,Fr.ok x=true)(cg:(Fr.pg l).Nodup)(hl:l.length<=40)(hn:next<512):
  Calls prog 114 #[.int .i64 next,.slice A l.length c] w (fun e w'=>(∃s:ByteArray,e= .returned (.tuple #[.string s,.int .i64 0])/\s.data.toList=Fr.bytes next l)/\Below w.heap.size w w'):=by
 have HM:=sh (Qg (c:=c) next h hs hk cg hl hn);have HR:=sh h;have HK:=sh hk;obtain⟨n,oh⟩:∃n,n=l.length:=⟨_,rfl⟩;have HN:=sh oh;rw[<-oh]at HM hl |-;have y1:IntKind.u64.wrap (next:Int)=next:=by rw[afP];omega
 have y2:IntKind.u64.wrap (n:Int)=n:=by rw[afP];omega
 obtain⟨s0,u7⟩:∃s:ByteArray,s=(⟨#[]⟩:ByteArray)++⟨(Be.low next 4).toArray⟩:=⟨_,rfl⟩;obtain⟨s1,pK⟩:∃s:ByteArray,s=s0++⟨(Be.low n 2).toArray⟩:=⟨_,rfl⟩;have qV:s0.data.toList=Be.low next 4:=by rw[u7];simp
 have zh:s1.data.toList=Be.low next 4++Be.low n 2:=by rw[pK];simp[qV]
 have Dh:=sh fun(W:AI)=>(show Calls prog 160 #[.string ⟨#[]⟩,.int .u64 next,.int .i64 4] W (cU s0 0 W) from by rw[u7];exact gR ⟨#[]⟩ next 4 W (by show 0<=1000000;omega) (by omega) (by omega) (by omega));have CJ:=sh fun(W:AI)=>(show Calls prog 160 #[.string s0,.int .u64 n,.int .i64 2] W (cU s1 0 W) from by rw[pK];exact gR s0 n 2 W (by rw[dS qV,Be.aq];omega) (by omega) (by omega) (by omega));have Px:=sh fun(s:ByteArray) (m k:Nat) (W:AI) (h1:s.size<=1000000) (h2:1<=k) (h3:k<=8) (h4:m<256 ^ k)=>gR s m k W h1 h2 h3 h4;have qq:s1.size<=1000:=by rw[dS zh,BY,Be.aq,Be.aq];omega
 have TP:=sh zh;clear h hs hk cg hn oh u7 pK qV zh;go_enter func114,ntmps114
 go_wp2_with fail
 refine HM.out.mono ?_;rintro e w1 ⟨rfl,ar⟩;have bh:=sh ar;clear ar;go_wp2_with fail
 refine(Dh.out _).mono ?_;rintro e w2 ⟨rfl,az⟩;have bz:=sh (bh.out.trans (az.mono bh.out.size));clear az;go_wp2_with fail
 refine(CJ.out _).mono ?_;rintro e w3 ⟨rfl,aQ⟩;have dt:=sh (bz.out.trans (aQ.mono bz.out.size));clear aQ;go_wp2_with fail
 go_loopw [6,30] (fun s i wr=>∃(sj:ByteArray) (j:Nat),s= .string sj/\i= .int .i64 j/\j<=n/\sj.size<=1000/\Hid (sj.data.toList=Be.low next 4++Be.low n 2++(l.take j).flatMap Fr.one)/\Hid (Below w.heap.size w wr)) (fun _ i _=>n-(intOf i).toNat)
 case atStart=>exact⟨s1,0,rfl,rfl,Nat.zero_le _,qq,sh (by simpa using TP.out),dt⟩
 case round=>
  obtain⟨sj,j,rfl,rfl,hj,cZ,hI,hB⟩:=hrel;by_cases aI:j<n
  ·have z5:decide ((j:Int)<(n:Int))=true:=decide_eq_true (by omega)
   have QB:j<l.length:=by have:=HN.out;omega
   obtain⟨b,o,rfl,hb,O7,MO⟩:=(HR.out.below hB.out).at j QB;obtain⟨x,hx⟩:∃x,x=l[j]:=⟨_,rfl⟩;rw[<-hx]at O7 MO;have QY:=HK.out x (by rw[hx];exact List.getElem_mem QB);have hxb:x.1<=1099511627776/\x.2<512:=by unfold Fr.ok at QY;simp at QY;omega
   have ey:l.take (j+1)=l.take j++[x]:=by rw[hx];exact aaT QB
   obtain⟨x1,Bi⟩:∃x1,x1=x.1:=⟨_,rfl⟩;obtain⟨x2,yz⟩:∃x2,x2=x.2:=⟨_,rfl⟩;rw[<-Bi]at O7 hxb;rw[<-yz]at MO hxb;have y3:IntKind.u64.wrap (x1:Int)=x1:=by rw[afP];omega
   have y4:IntKind.u64.wrap (x2:Int)=x2:=by rw[afP];omega
   obtain⟨sa,hsa⟩:∃s:ByteArray,s=sj++⟨(Be.low x1 8).toArray⟩:=⟨_,rfl⟩;obtain⟨sb,hsb⟩:∃s:ByteArray,s=sa++⟨(Be.low x2 4).toArray⟩:=⟨_,rfl⟩;have hda:sa.data.toList=sj.data.toList++Be.low x1 8:=by rw[hsa];simp
   have gI:sb.data.toList=sj.data.toList++(Be.low x1 8++Be.low x2 4):=by rw[hsb];simp[hda]
   have Vk:sb.data.toList=Be.low next 4++Be.low n 2++(l.take (j+1)).flatMap Fr.one:=by
    rw[gI,hI.out,ey,List.flatMap_append,abL,List.flatMap_nil,List.append_nil,OF];unfold Fr.one;rw[Bi,yz]
   have aaY:(1099511627776:Nat)<256 ^ 8:=by decide
   have aaX:(512:Nat)<256 ^ 4:=by decide
   have afU:sa.size=sj.size+8:=by rw[dS hda,BY,Be.aq,ack];rfl
   have abj:sb.size<=1000:=by
    rw[dS Vk,BY,BY,Be.aq,Be.aq,Fr.jL,abv];omega
   have va:=sh fun(W:AI)=>(show Calls prog 160 #[.string sj,.int .u64 x1,.int .i64 8] W (cU sa 0 W) from by rw[hsa];exact Px.out sj x1 8 W (by omega) (by omega) (by omega) (by omega));have OM:=sh fun(W:AI)=>(show Calls prog 160 #[.string sa,.int .u64 x2,.int .i64 4] W (cU sb 0 W) from by rw[hsb];exact Px.out sa x2 4 W (by omega) (by omega) (by omega) (by omega));have HI2:=sh Vk;have HX:=sh fun(W:AI) (hW:Below (wr.alloc (.cells #[.int .i64 x1,.int .i64 x2] 62)).heap.size (wr.alloc (.cells #[.int .i64 x1,.int .i64 x2] 62)) W)=>af (Bk.new wr 62 #[.int .i64 x1,.int .i64 x2]) hW;clear hI cZ hx QY ey Bi yz hsa hsb hda gI Vk aaY aaX afU;go_wp2_with fail
   refine(va.out _).mono ?_;rintro e w5 ⟨rfl,dO⟩;have aU:=HX.out w5 dO;have v1:=aU.cell 1;have lv:=aU.lt;have ou:=sh ((hB.out.alloc hB.out.size (.cells #[.int .i64 x1,.int .i64 x2] 62)).trans (dO.mono (by have:=hB.out.size;simp;omega)));clear aU dO;go_wp2_with fail
   refine(OM.out _).mono ?_;rintro e w6 ⟨rfl,gS⟩;have TJ:=sh (ou.out.trans (gS.mono ou.out.size));clear gS;go_wp2_with fail
   go_roundw
   case rel=>first|exact⟨sb,j+1,rfl,by go_num,by omega,abj,HI2,TJ⟩|((repeat apply Exists.intro);exact⟨⟨sb,j+1,rfl,by go_num,by omega,abj,HI2,TJ⟩,rfl⟩)
   case measure=>simp[intOf];omega
  ·have z5:decide ((j:Int)<(n:Int))=false:=decide_eq_false (by omega)
   have vo:j=l.length:=by have:=HN.out;omega
   have HE:=sh (show sj.data.toList=Fr.bytes next l by
    rw[hI.out,vo,List.take_length,HN.out,OF];rfl)
   clear hI vo;go_wp2_with fail
   go_ret2
   exact⟨⟨sj,rfl,HE.out⟩,hB.out⟩
end Go.Proofs.YtjbcbnemdhbhbaaGreatDoor
namespace Go.Proofs.YtjbcbnemdhbhbaaGreatDoor
open Go.Proofs.Tryz
def eT (l:List (Nat×Nat)) (m i:Nat):List (Nat×Nat):=(l.drop (l.length*i/m)).take (l.length*(i+1)/m-l.length*i/m)
def jc (ch:List Nat) (l:List (Nat×Nat)) (i:Nat):rO:=⟨4,⟨(Fr.bytes (ch.getD (i+1) 0) (eT l ch.length i)).toArray⟩⟩
def iR (d:ag) (ch:List Nat) (l:List (Nat×Nat)):Nat->ag
 | 0=>d
 | i+1=>Tr.cY (iR d ch l i) (ch.getD i 0) (some (jc ch l i))
theorem UO(n i m:Nat)(hm:0<m):n*i/m<=n*(i+1)/m:=Nat.div_le_div_right (agO _ (Nat.le_succ i))
theorem FQ(n i m:Nat)(hm:0<m)(hi:i<m):n*(i+1)/m<=n:=by
 refine Nat.div_le_of_le_mul ?_;rw[Nat.mul_comm m n];exact agO _ hi
theorem FR(n i m:Nat)(hm:0<m)(h:n<=40*m):n*(i+1)/m<=n*i/m+40:=by
 have e:n*i/m+40=(n*i+40*m)/m:=by rw[Nat.add_mul_div_right _ _ hm]
 rw[e];refine Nat.div_le_div_right ?_;rw[Nat.mul_succ];omega
theorem rk(l:List (Nat×Nat))(m i:Nat)(hm:0<m)(hi:i<m):(eT l m i).length=l.length*(i+1)/m-l.length*i/m:=by
 unfold eT;rw[abv,List.length_drop];have:=FQ l.length i m hm hi;omega
theorem Bw(l:List (Nat×Nat))(m i:Nat):(eT l m i).Sublist l:=(List.take_sublist _ _).trans (List.drop_sublist _ _)
theorem nV(d:ag)(ch:List Nat)(l:List (Nat×Nat)):∀(i n:Nat),n∉ch.take i->i<=ch.length->iR d ch l i n=d n
 | 0,n,_,_=>rfl
 | i+1,n,h,hi=>by
  have e1:ch.take (i+1)=ch.take i++[ch[i]]:=aaT hi;rw[e1,List.mem_append,not_or,List.mem_singleton]at h;have e2:ch.getD i 0=ch[i]'(by omega):=by rw[acE,aaG (by omega)];rfl
  show Tr.cY (iR d ch l i) (ch.getD i 0) _ n=_;rw[e2,Tr.dM _ _ h.2];exact nV d ch l i n h.1 (by omega)
theorem Gq(d:ag)(ch:List Nat)(l:List (Nat×Nat))(hn:ch.Nodup):∀(i j:Nat) (hj:j<i) (hi:i<=ch.length),iR d ch l i (ch[j]'(by omega))=some (jc ch l j)
 | i+1,j,hj,hi=>by
  have e2:ch.getD i 0=ch[i]'(by omega):=by rw[acE,aaG (by omega)];rfl
  show Tr.cY (iR d ch l i) (ch.getD i 0) _ _=_;rw[e2];by_cases e:j=i
  ·subst e
   rw[Tr.fM]
  ·have bL:ch[j]'(by omega)≠ch[i]'(by omega):=(List.pairwise_iff_getElem.1 hn) j i (by omega) (by omega) (by omega)
   rw[Tr.dM _ _ bL];exact Gq d ch l hn i j (by omega) (by omega)
theorem BP{a b:Nat}(h:a<=b):Fr.pieces a<=Fr.pieces b:=by
 unfold Fr.pieces;split
 ·omega
 ·split
  ·omega
  ·have:=Nat.div_le_div_right (c:=40) (show a-1<=b-1 by omega)
   omega
theorem m8{n m:Nat}(h:Fr.pieces n<=m):n<=40*m:=by
 unfold Fr.pieces at h;split at h
 ·omega
 ·omega
theorem Jn{n:Nat}(h:n<=512):Fr.pieces n<=13:=by
 unfold Fr.pieces;split<;>omega
namespace Tx
theorem Ok.yP{x:Tx}{limit:Nat}{D:ag}{U pc h h':List Nat}(k:x.Ok limit D U pc h)(hp:h.Perm h'):x.Ok limit D U pc h':=by
 obtain⟨dk,h1,h2⟩:=k.perm;refine⟨⟨dk,h1,List.Perm.trans ?_ h2⟩,k.one,k.le,k.lim,k.sorted,k.aM,k.sub,k.cF,k.eQ⟩;exact acw _ (acw _ (acw _ (acw _ (acw _ hp.symm))))
theorem ei.book{x x':Tx}{limit upto n:Nat}(t:ei limit upto x n x')(D:ag)(U:List Nat):x'.book D U=x.book D U:=by
 obtain⟨h1,h2⟩:=t.ax;unfold Tx.book;rw[h1,h2]
end Tx
end Go.Proofs.YtjbcbnemdhbhbaaGreatDoor
