import Derived.Test.YtjbcbnemdhbhbaaGreatDoorB1
import Derived.LoopN
import Derived.BigRegion
import Derived.Test.YtjbcbnemdhbhbaaGreatDoorB12
import Derived.Test.YtjbcbnemdhbhbaaGreatDoorB5
import Derived.Test.YtjbcbnemdhbhbaaGreatDoorB31
import Derived.Test.YtjbcbnemdhbhbaaGreatDoorB13
import Derived.Test.YtjbcbnemdhbhbaaGreatDoorB19
import Derived.Test.YtjbcbnemdhbhbaaGreatDoorB20
set_option maxRecDepth 100000
set_option linter.unusedVariables false
set_option linter.unusedSimpArgs false
set_option maxHeartbeats 40000000
open Go renaming Calls→aag,Value→IS,World→AI,maxLen→abi,rounds_succ→abK,wp_loop_rounds→acd
open Go.Lib renaming hid→sh
open Go.RowKit renaming Below→No
open Go.RowKit.Below renaming refl→IN
open Go.World.ownsRow renaming lt→abr
open List renaming length_append→BY
open Nat renaming le_refl→AS,lt_of_lt_of_le→aaf,zero_le→abc
namespace Go.Proofs.YtjbcbnemdhbhbaaGreatDoor
open Go.Proofs.Tryz
open Go.RowKit
theorem EW(v:IS)(w:AI):aag prog 73 #[v,.int .i64 0] w (fun e w'=>e= .returned (.tuple #[.slice none 0 0,.int .i64 0])/\w=w'):=by
 go_enter func73,ntmps73
 go_wp2_with fail
 go_ret2
 exact⟨rfl,rfl⟩
theorem wj(T:TypeId)(v:IS)(w:AI):aag prog 75 #[.iface T v,.int .i64 0] w (fun e w'=>e= .returned (.pointer (some ⟨w.heap.size,0,none⟩))/\Bk w' w.heap.size 215 #[.iface T v,.int .i64 0,.slice none 0 0]/\No w.heap.size w w'):=by
 go_enter func75,ntmps75
 go_wp2_with fail
 go_ret
 exact⟨rfl,Bk.new w _ _,(IN _ w).alloc (AS _) _⟩
theorem qN(v:IS)(c:Nat)(w:AI)(h:Bk w c 215 #[v,.int .i64 0,.slice none 0 0]):aag prog 76 #[.pointer (some ⟨c,0,none⟩)] w (fun e w'=>e= .returned (.tuple #[.bool false,.int .i64 0])/\ah [c] w w'):=by
 have HB:Hid (∀f:IS,aag prog 137 #[.pointer (some ⟨c,0,none⟩),f] w (fun e w'=>e= .returned (.tuple #[.bool false,.int .i64 0])/\ah [c] w w')):=fun f=>by
  have c1:=h.cell 1;have c2:=h.cell 2;have f2:=h.frozen 2;have lc:=h.lt;clear h;go_enter func137,ntmps137
  go_wp2_with fail
  go_ret2
  exact⟨rfl,(ah.refl [c] w).setCell (p:=⟨c,2,none⟩) (.inl (by simp)) _⟩
 clear h;go_enter func76,ntmps76
 go_wp2_with fail
 refine(HB.out _).mono ?_;rintro e w1 ⟨rfl,hb⟩;have HE:=sh hb;clear hb;go_wp2_with fail
 go_ret2
 exact⟨rfl,HE.out⟩
theorem wK(w:AI):aag prog 136 #[.slice none 0 0,.int .i64 0] w (fun e w'=>e= .returned (.slice none 0 0)/\w=w'):=by
 go_enter func136,ntmps136
 go_wp2_with fail
 go_ret
 exact⟨rfl,rfl⟩
theorem zN(k:Nat)(w:AI)(h:Bk w k 51 #[.slice none 0 0,.slice none 0 0]):aag prog 74 #[.slice (some ⟨k,0,none⟩) 2 2] w (fun e w'=>e= .returned (.slice none 0 0)/\No w.heap.size w w'):=by
 have c0:=h.cell 0;have c1:=h.cell 1;have lk:=h.lt;have HG:=sh fun(W:AI)=>wK W;clear h;go_enter func74,ntmps74
 go_wp2_with fail
 refine acd 4 ?_;rw[abK];go_wp2_with fail
 rw[abK];go_wp2_with fail
 rw[abK];go_wp2_with fail
 refine(HG.out _).mono ?_;rintro e w1 ⟨rfl,rfl⟩;go_wp2_with fail
 refine acd 4 ?_;rw[abK];go_wp2_with fail
 rw[abK];go_wp2_with fail
 rw[abK];go_wp2_with fail
 go_ret
 exact⟨rfl,IN _ _⟩
theorem Nb(w:AI):aag prog 142 #[.int .u64 0] w (fun e w'=>(∃n:Int,e= .returned (.int .i64 n))/\w=w'):=by
 have H:Hid (∀W,aag prog 200 #[.int .u64 0] W (fun e w'=>(∃n:Int,e= .returned (.int .i64 n))/\W=w')):=fun W=>by
  go_enter func200,ntmps200
  go_wp2_with fail
  go_ret
  exact⟨⟨_,rfl⟩,rfl⟩
 go_enter func142,ntmps142
 go_wp2_with fail
 refine(H.out _).mono ?_;rintro e w1 ⟨⟨n,rfl⟩,rfl⟩;go_wp2_with fail
 go_ret
 exact⟨⟨_,rfl⟩,rfl⟩
theorem JF(w:AI):aag prog 79 #[.slice none 0 0] w (fun e w'=>e= .returned (.tuple #[])/\No w.heap.size w w'):=by
 have HL:=sh fun(W:AI)=>Nb W;have HI:Hid (∀W,aag prog 190 #[.slice none 0 0,.int .i64 0,.int .i64 0] W (fun e w'=>e= .returned (.tuple #[])/\W=w')):=fun W=>by
  go_enter func190,ntmps190
  go_wp2_with fail
  refine acd 2 ?_;rw[abK];go_wp2_with fail
  refine bodyPost_end (results_none rfl _ _ _) rfl ?_;exact⟨rfl,rfl⟩
 have HP:Hid (∀(n:Int) W,aag prog 141 #[.slice none 0 0,.int .i64 0,.int .i64 0,.int .i64 n] W (fun e w'=>e= .returned (.tuple #[])/\W=w')):=fun n W=>by
  go_enter func141,ntmps141
  go_wp2_with fail
  refine acd 2 ?_;rw[abK];go_wp2_with fail
  refine(HI.out _).mono ?_;rintro e w1 ⟨rfl,rfl⟩;go_wp2_with fail
  first
   | (refine bodyPost_end (results_none rfl _ _ _) rfl ?_)
   | (refine bodyPost_ret (results_none rfl _ _ _) rfl ?_)
   | fail
  exact⟨rfl,rfl⟩
 go_enter func79,ntmps79
 go_wp2_with fail
 refine(HL.out _).mono ?_;rintro e w1 ⟨⟨n,rfl⟩,rfl⟩;go_wp2_with fail
 refine(HP.out _ _).mono ?_;rintro e w1 ⟨rfl,rfl⟩;go_wp2_with fail
 refine bodyPost_end (results_none rfl _ _ _) rfl ?_;exact⟨rfl,IN _ _⟩
def FK (n:Nat) (w:AI) (e:Ending) (w':AI):Prop:=No w.heap.size w w'/\∃v,e= .returned v/\w'.ownsRow w.heap.size 3 1 v 0 []
theorem Iq(n:Nat)(w:AI)(h0:0<n)(hn:n<=10000):aag prog 136 #[.slice none 0 0,.int .i64 n] w (FK n w):=by
 obtain⟨i0,hi,ef,dK,dY⟩:=info_parts iz;have z1:decide ((n:Int)<0)=false:=decide_eq_false (by omega);have z2:decide ((0:Int)<(n:Int))=true:=decide_eq_true (by omega);have Iu:=nextslicecap_le_wide (need:=0+n) (old:=0) (by omega);have xL:=sh fun(W:AI)=>Lib.run_append_grow_zeros (P:=prog) W 51 3 51 3 i0 _ .i64 .i64 underlying51 underlying3 hi ef none 0 0 [] (by simp[Builtin.firstCells]) n h0 (by rw[dK];omega) (by omega) (by omega) (by rw[dY];omega) (by rw[dY];have:=Nat.mul_le_mul_right 8 Iu;omega);have jr:∀W:AI,∃c,n<=c/\∃cur:Array IS,cur.size=c*1/\c<=abi/\(Builtin.append_ #[51,3] 51 #[.slice none 0 0,.int .i64 n]).run prog W= .ok (.slice (some ⟨W.heap.size,0,none⟩) n c) (W.drew.alloc (.cells cur 3)):=fun W=>by
  have h:=xL.out W;rw[Nat.zero_add]at h;have yt:=grownCap_ge W n 0 3;refine⟨_,yt,_,?_,grownCap_le_maxLen W n 0 _ (by unfold abi;omega),h⟩;have e5:(Value.int .i64 0).cells.size=1:=rfl;simp only[Array.size_append,size_zeroCells,e5];simp;omega
 obtain⟨c,hc,cur,fu,dC,HW⟩:=jr w;have HC:=sh fu;have CS:c<=9223372036854775807:=by unfold abi at dC;omega
 have HM:=sh dC;have Sn:=sh HW;clear Iu jr fu dC xL HW;go_enter func136,ntmps136
 go_wp2_with (at_builtin;refine wpList_append_run rfl (.tmp 20) (.tmp 21) 51 3 rfl _ _ _ _ rfl rfl Sn.out ?_)
 go_ret
 refine⟨(IN _ w).drew.alloc (AS _) _,_,rfl,?_⟩;refine⟨rfl,.inr ⟨w.heap.size,c,cur,rfl,AS _,?_,abc _,HM.out,HC.out,rfl⟩⟩;exact heap_alloc_new w.drew _
theorem Ip(n:Nat)(w:AI)(hn:n<=10000):aag prog 136 #[.slice none 0 0,.int .i64 n] w (FK n w):=by
 by_cases h:0<n
 ·exact Iq n w h hn
 ·obtain rfl:n=0:=by omega
  refine(wK w).mono ?_;rintro e w' ⟨rfl,rfl⟩;exact⟨IN _ _,_,rfl,World.ownsRow_nil _ _ _ _⟩
theorem zM{w:AI}{k:Nat}{A0 A1 A2:Option Addr}{c0 c1 c2:Nat}{l0 l1 l2:List Nat}(h:Bk w k 51 #[.slice A0 l0.length c0,.slice A1 l1.length c1,.slice A2 l2.length c2])(h0:Sl w A0 (ints l0))(h1:Sl w A1 (ints l1))(h2:Sl w A2 (ints l2))(hl:l0.length+l1.length+l2.length<=10000):
  aag prog 74 #[.slice (some ⟨k,0,none⟩) 3 3] w (fun e w'=>No w.heap.size w w'/\∃A c,e= .returned (.slice A (l0++(l1++l2)).length c)/\w'.ownsRow w.heap.size 3 1 (.slice A (l0++(l1++l2)).length c) (l0++(l1++l2)).length (ints (l0++(l1++l2)))):=by
 obtain⟨i0,hi,ef,dK,dY⟩:=info_parts iz;have q0:=h.cell 0;have q1:=h.cell 1;have q2:=h.cell 2;have lk:=h.lt;have HK:=sh h;have Sc:=sh h0;have YF:=sh h1;have j9:=sh h2;obtain⟨n0,II⟩:∃n,n=l0.length:=⟨_,rfl⟩;obtain⟨n1,gJ⟩:∃n,n=l1.length:=⟨_,rfl⟩;obtain⟨n2,jv⟩:∃n,n=l2.length:=⟨_,rfl⟩;rw[<-II]at q0;rw[<-gJ]at q1;rw[<-jv]at q2;have HN0:=sh II;have dD:=sh gJ;have fY:=sh jv;have b0:n0<=10000:=by omega
 have b1:n0+n1<=10000:=by omega
 have b2:n0+n1+n2<=10000:=by omega
 have y0:decide (((0:Int)+(n0:Int))<0)=false:=decide_eq_false (by omega);have y1:decide (((n0:Int)+(n1:Int))<0)=false:=decide_eq_false (by omega);have y2:decide (((n0:Int)+(n1:Int)+(n2:Int))<0)=false:=decide_eq_false (by omega);have HG:=sh fun(W:AI)=>Ip (n0+n1+n2) W b2;clear h h0 h1 h2 II gJ jv hl;go_enter func74,ntmps74
 go_wp2_with fail
 refine acd 5 ?_;rw[abK];go_wp2_with fail
 rw[abK];go_wp2_with fail
 rw[abK];go_wp2_with fail
 rw[abK];go_wp2_with fail
 refine(HG.out _).mono ?_;rintro e w1 ⟨ar,v0,rfl,AQ⟩;have bh:=sh ar;have dw:=af HK.out ar;have Uc:=sh AQ;clear ar AQ;have r0:=dw.cell 0;have lk1:=dw.lt;rw[<-HN0.out]at r0;clear dw q0 q1 q2 lk;go_wp2_with fail
 refine acd 5 ?_;rw[abK];go_wp2_with (at_builtin;refine cJ _ rfl (.tmp 31) (.tmp 32) 51 rfl w.heap.size 3 i0 (.int .i64 0) 8 underlying51 hi ef dK dY rfl v0 0 [] rfl Uc.out A0 n0 c0 (ints l0) (by rw[HN0.out,oT]) rfl (Sc.out.below bh.out) (gD l0) (by unfold abi;omega) (by omega) bh.out.size ?_;intro v1 w2 au bX D5)
 have iN:=sh au;have bz:=sh (((ah.ae bh.out []).grown bX (fun g hg=> .inr (Uc.out.lt g hg).1)).below (AS _) (by simp));have bO:=af HK.out bz.out;have r1:=bO.cell 1;rw[<-dD.out]at r1;have lk2:=bO.lt;clear au bX D5 bO r0 lk1;go_wp2_with fail
 rw[abK];go_wp2_with (at_builtin;refine cJ _ rfl (.tmp 31) (.tmp 32) 51 rfl w.heap.size 3 i0 (.int .i64 0) 8 underlying51 hi ef dK dY rfl v1 (0+n0) ([]++ints l0) rfl iN.out A1 n1 c1 (ints l1) (by rw[dD.out,oT]) rfl (YF.out.below bz.out) (gD l1) (by unfold abi;omega) (by omega) bz.out.size ?_;intro v2 w3 au bX D5)
 have gW:=sh au;have dt:=sh (((ah.ae bz.out []).grown bX (fun g hg=> .inr (iN.out.lt g hg).1)).below (AS _) (by simp));have dx:=af HK.out dt.out;have r2:=dx.cell 2;rw[<-fY.out]at r2;have lk3:=dx.lt;clear au bX D5 dx r1 lk2;go_wp2_with fail
 rw[abK];go_wp2_with (at_builtin;refine cJ _ rfl (.tmp 31) (.tmp 32) 51 rfl w.heap.size 3 i0 (.int .i64 0) 8 underlying51 hi ef dK dY rfl v2 (0+n0+n1) ([]++ints l0++ints l1) rfl gW.out A2 n2 c2 (ints l2) (by rw[fY.out,oT]) rfl (j9.out.below dt.out) (gD l2) (by unfold abi;omega) (by omega) dt.out.size ?_;intro v3 w4 au bX D5)
 have jZ:=sh au;have fx:=sh (((ah.ae dt.out []).grown bX (fun g hg=> .inr (gW.out.lt g hg).1)).below (AS _) (by simp));have fE:=af HK.out fx.out;have lk4:=fE.lt;clear au bX D5 fE r2 lk3;go_wp2_with fail
 rw[abK];go_wp2_with fail
 go_ret
 obtain⟨A,c,hv,-⟩:=bg jZ.out;subst hv;have e1:0+n0+n1+n2=(l0++(l1++l2)).length:=by rw[BY,BY,<-HN0.out,<-dD.out,<-fY.out];omega
 have e2:[]++ints l0++ints l1++ints l2=ints (l0++(l1++l2)):=by simp[ints]
 have h9:=jZ.out;rw[e2,e1]at h9;exact⟨fx.out,A,c,congrArg (fun z=>Ending.returned (.slice A z c)) e1,h9⟩
def mn (l:List (Nat×Nat)) (w:AI) (e:Ending) (w':AI):Prop:=∃f2 S2,e= .returned (.tuple #[.pointer (some ⟨f2,0,none⟩),.int .i64 0])/\rK w' f2 S2 l/\No w.heap.size w w'/\∀b∈S2,w.heap.size<=b
structure Dr (w:AI) (t:Nat) (fr:List (Nat×Nat)) (ms:List Nat) (f2:Nat) (A3:Option Addr) (j:Nat) (w':AI) (S2:List Nat):Prop where
 list:rK w' f2 S2 (Fr.aW t fr (ms.take j))
 below:No w.heap.size w w'
 new:∀b∈S2,w.heap.size<=b
 row:Sl w' A3 (ints ms)
 apart:∀a,A3=some a->a.block∉S2
theorem xx{E:Kv}(hE:E.Ok){w:AI}{S hd:List Nat}{x:Tx}{f dm nn:Nat}{Sf:List Nat}{lv fv:IS}(h:bd E w S hd x f dm nn Sf lv fv)(IM:w.ownsRow 0 3 1 E.c3 E.pc.length (ints E.pc)){A:Option Addr}{c:Nat}(mX:Sl w A (ints hd)):
  aag prog 110 #[.pointer (some ⟨E.t,0,none⟩),.slice A hd.length c] w (mn (Fr.aW E.txn x.fr (x.more E.pc)) w):=by
 obtain⟨cg,dv,hlen⟩:=h.ok.spare;have hsr:=h.ok.sorted;have hle:=h.ok.le;have kS:=h.ok.lim;have htx:=hE.JO;have HC:=sh (wD h.free (by omega));obtain⟨Al,cl,Xq,-,-⟩:=bg h.loose;obtain⟨Af,cf,hfv,-,-⟩:=bg h.aM;obtain⟨Ap,cp,Xw,-,-⟩:=bg IM;have Ka:=sh (show Sl w Al (ints x.loose) from Sl.eG (by have:=h.loose;rw[Xq]at this;exact this));have YI:=sh (show Sl w Af (ints x.aM) from Sl.eG (by have:=h.aM;rw[hfv]at this;exact this));have FE:=sh (show Sl w Ap (ints E.pc) from Sl.eG (by have:=IM;rw[Xw]at this;exact this));have bH:=sh (show ∀W,No w.heap.size w W->W.cell? ⟨E.t,10,none⟩=some (.slice Af x.aM.length cf)/\W.cell? ⟨E.t,9,none⟩=some (.slice Al x.loose.length cl)/\W.cell? ⟨E.t,0,none⟩=some (.pointer (some ⟨E.b,0,none⟩))/\W.cell? ⟨E.b,3,none⟩=some (.slice Ap E.pc.length cp)/\W.cell? ⟨E.t,1,none⟩=some (.int .i64 E.txn) from fun W hW=>by
  have k1:=af h.cells hW;have k2:=af h.db hW;refine⟨?_,?_,k1.cell 0,?_,k1.cell 1⟩
  ·have:=k1.cell 10
   rw[<-hfv];exact this
  ·have:=k1.cell 9
   rw[<-Xq];exact this
  ·have:=k2.cell 3
   rw[<-Xw];exact this)
 have J8:=sh (show x.aM.length+x.loose.length+E.pc.length<=10000 from by
  have:=hlen;unfold Tx.more at this;rw[BY,BY]at this;have:=h.ok.le;have:=h.ok.lim;omega)
 have zw:=sh (show x.aM++(x.loose++E.pc)=x.more E.pc from rfl);have KB:=sh mX;obtain⟨m1,og⟩:∃m,m=hd.length:=⟨_,rfl⟩;have Qx:hd.length<=1000:=by
  obtain⟨dk,k1,k2⟩:=h.ok.perm;have h1:=k2.length_eq;simp only[BY,iS,List.length_map,List.length_range]at h1;omega
 have KC:=sh fun(W:AI) (hW:No w.heap.size w W) (n:Nat) (hn:n∈x.more E.pc)=>qO (c:=c) (mX.below hW) (by omega) n (dv n hn).1;have HMS:=sh (show (∀j (hj:j<(x.more E.pc).length),Fr.Sorted (Fr.aW E.txn x.fr ((x.more E.pc).take j))/\(Fr.aW E.txn x.fr ((x.more E.pc).take j)).length=x.fr.length+j/\(x.more E.pc)[j]∉Fr.pg (Fr.aW E.txn x.fr ((x.more E.pc).take j))/\Fr.aW E.txn x.fr ((x.more E.pc).take (j+1))=Fr.ins (Fr.aW E.txn x.fr ((x.more E.pc).take j)) (E.txn,(x.more E.pc)[j])) from fun j hj=>Fr.He hsr cg j hj);have J7:=sh (show ∀n∈x.more E.pc,Fr.ok (E.txn,n)=true from fun n hn=>by
  have:=(dv n hn).2;unfold Fr.ok;simp;omega)
 have Z4:x.fr.length+(x.more E.pc).length<=512:=by omega
 have lt:=h.cells.lt;have lb:=h.db.lt;have c7:w.cell? ⟨E.t,7,none⟩=some (.pointer (some ⟨f,0,none⟩)):=h.cells.cell 7;obtain⟨ms,hms⟩:∃ms,ms=x.more E.pc:=⟨_,rfl⟩;rw[<-hms]at zw KC HMS J7 Z4 |-;obtain⟨fr,bZ⟩:∃fr,fr=x.fr:=⟨_,rfl⟩;rw[<-bZ]at HC HMS Z4 |-;obtain⟨fd,Iz⟩:∃l,l=x.aM:=⟨_,rfl⟩;rw[<-Iz]at YI bH J8 zw;obtain⟨ls,S9⟩:∃l,l=x.loose:=⟨_,rfl⟩;rw[<-S9]at Ka bH J8 zw;obtain⟨pc,uY⟩:∃l,l=E.pc:=⟨_,rfl⟩;rw[<-uY]at FE bH J8 zw;obtain⟨tx,abq⟩:∃l,l=E.txn:=⟨_,rfl⟩;rw[<-abq]at bH HMS J7 htx |-;obtain⟨t,ht⟩:∃l,l=E.t:=⟨_,rfl⟩;rw[<-ht]at bH lt c7 |-;obtain⟨b,hb⟩:∃l,l=E.b:=⟨_,rfl⟩;rw[<-hb]at bH lb;clear h IM mX cg dv hlen hsr hle kS Xq hfv Xw hms bZ Iz S9 uY abq ht hb hE og;go_enter func110,ntmps110
 go_wp2_with fail
 refine HC.out.mono ?_;rintro e w1 ⟨f2,S2,rfl,CU,ar,oO⟩;have TY:=sh CU;have bh:=sh ar;have KF:=sh oO;clear CU ar oO c7;obtain⟨q10,q9,q0,p3,q1⟩:=bH.out w1 bh.out;have XC:t<w1.heap.size:=aaf lt bh.out.size;have lb1:b<w1.heap.size:=aaf lb bh.out.size;have Da:=sh fun(W:AI) (hb:No w.heap.size w W) (k:Nat) (hk:Bk W k 51 #[.slice Af fd.length cf,.slice Al ls.length cl,.slice Ap pc.length cp])=>zM hk (YI.out.below hb) (Ka.out.below hb) (FE.out.below hb) J8.out;rw[zw.out]at Da;have hbX:No w.heap.size w ((w1.alloc (.cells #[.slice Af fd.length cf,.slice Al ls.length cl,.slice Ap pc.length cp] 51)).drew):=(bh.out.alloc bh.out.size _).drew;have HCX:=sh (Da.out _ hbX w1.heap.size (Bk.new w1 _ _).drew);have adl:=sh (show rK ((w1.alloc (.cells #[.slice Af fd.length cf,.slice Al ls.length cl,.slice Ap pc.length cp] 51)).drew) f2 S2 fr from TY.out.off (((ah.refl [] w1).alloc _).drew) (by simp));have jH:=sh hbX;have alW:w1.heap.size<((w1.alloc (.cells #[.slice Af fd.length cf,.slice Al ls.length cl,.slice Ap pc.length cp] 51)).drew).heap.size:=by simp
 have j9:=sh TY.out.old;clear hbX Da;go_wp2_with fail
 have sK:=sh (show ∀W,No w.heap.size w W->W.cell? ⟨t,10,none⟩=some (.slice Af fd.length cf)/\W.cell? ⟨t,9,none⟩=some (.slice Al ls.length cl)/\W.cell? ⟨t,0,none⟩=some (.pointer (some ⟨b,0,none⟩))/\W.cell? ⟨b,3,none⟩=some (.slice Ap pc.length cp) from fun W hW=>⟨(bH.out W hW).1,(bH.out W hW).2.1,(bH.out W hW).2.2.1,(bH.out W hW).2.2.2.1⟩);go_region_held3 (fun W=>W.cell? ⟨t,10,none⟩=some (.slice Af fd.length cf)/\W.cell? ⟨t,9,none⟩=some (.slice Al ls.length cl)/\W.cell? ⟨t,0,none⟩=some (.pointer (some ⟨b,0,none⟩))/\W.cell? ⟨b,3,none⟩=some (.slice Ap pc.length cp)) (first|exact sK.out _ bh.out.drew|exact sK.out _ (bh.out.drew.alloc bh.out.drew.size _)|exact sK.out _ jH.out|exact sK.out _ (jH.out.trans (bz.out.mono jH.out.size))|trace_state) (first
  | (go_at_call 74;refine HCX.out.mono ?_;rintro e w2 ⟨az,A3,c3,rfl,bf⟩;have bz:=sh az;have gW:=sh bf;clear az bf)
  | fail)
 all_goals
  clear q10 q9 q0 p3 q1;have rV:No w.heap.size w w2:=jH.out.trans (bz.out.mono jH.out.size);have h0:Hid (Dr w tx fr ms f2 A3 0 w2 S2):=⟨by simpa[Fr.aW]using adl.out.below bz.out,rV,KF.out,Sl.eG gW.out,fun a ha hs=>by
   have h1:=(abr gW.out a.block (by
    obtain⟨A',c',hv,-,-,-,-,gH⟩:=cT gW.out;injection hv with Wb Bh hv3;subst Wb hv3;exact(gH a ha).2)).1
   have h2:=j9.out _ hs;omega⟩
  have O1:ms.length<=512:=by omega
  have Qp:c3<=9223372036854775807:=by
   obtain⟨A',c',hv,-,dC,-⟩:=cT gW.out;injection hv with Wb Bh hv3;subst hv3;unfold abi at dC;omega
  clear rV;go_wp2_with fail
  go_loopw [32] (fun i wr=>∃j:Nat,i= .int .i64 j/\j<=ms.length/\Hid (∃Sj,Dr w tx fr ms f2 A3 j wr Sj)) (fun i _=>ms.length-(intOf i).toNat)
  case atStart=>exact⟨0,rfl,abc _,sh ⟨S2,h0.out⟩⟩
  case round=>
   obtain⟨j,rfl,hj,hI⟩:=hrel;obtain⟨Sj,hT⟩:=hI.out;by_cases aI:j<ms.length
   ·have z1:decide ((j:Int)<(ms.length:Int))=true:=decide_eq_true (by omega)
    obtain⟨k1,k2,k3,k4⟩:=HMS.out j aI;obtain⟨n,hn⟩:∃n,n=ms[j]:=⟨_,rfl⟩;have qj:n∈ms:=by rw[hn];exact List.getElem_mem aI
    rw[<-hn]at k3 k4;obtain⟨b3,o3,rfl,aQ,fU⟩:=ints_at hT.row j aI;rw[<-hn]at fU;obtain⟨-,-,-,-,r1⟩:=bH.out wr hT.below;have ltr:t<wr.heap.size:=aaf lt hT.below.size;have HCN:=sh (KC.out wr hT.below n qj);have HAD:=sh (Qd hT.list k1 (by rw[k2];omega) (tx,n) (J7.out n qj) k3);rw[<-k4]at HAD;have HT:=sh hT;clear hT hI h0 k1 k2 k3 k4 hn qj;go_wp2_with fail
    refine HCN.out.mono ?_;rintro e w4 ⟨rfl,rfl⟩;go_wp2_with fail
    refine HAD.out.mono ?_;rintro e w5 ⟨rfl,S5,Vx,O2,OV⟩;have HN:=sh (show ∃Sj,Dr w tx fr ms f2 (some ⟨b3,o3,none⟩) (j+1) w5 Sj from
     ⟨S5,Vx,((ah.ae HT.out.below []).then O2 (fun x hx=> .inr (HT.out.new x hx))).below (AS _) (by simp),fun x hx=>by
      rcases OV x hx with h|h
      ·exact HT.out.new x h
      ·have:=HT.out.below.size;omega,HT.out.row.off O2 HT.out.apart,fun a ha hs=>by
      rcases OV _ hs with h|h
      ·exact HT.out.apart a ha h
      ·cases ha
       simp only at h;omega⟩)
    clear Vx O2 OV;go_wp2_with fail
    go_roundw
    case rel=>first|exact⟨j+1,by go_num,by omega,HN⟩|((repeat apply Exists.intro);exact⟨⟨j+1,by go_num,by omega,HN⟩,rfl⟩)
    case measure=>simp[intOf];omega
   ·have z1:decide ((j:Int)<(ms.length:Int))=false:=decide_eq_false (by omega)
    have vo:j=ms.length:=by omega
    have HE:=sh (show mn (Fr.aW tx fr ms) w (.returned (.tuple #[.pointer (some ⟨f2,0,none⟩),.int .i64 0])) wr from ⟨f2,Sj,rfl,by
     have:=hT.list;rw[vo,List.take_length]at this;exact this,hT.below,hT.new⟩)
    clear hT hI h0;go_wp2_with fail
    go_ret2
    exact HE.out
end Go.Proofs.YtjbcbnemdhbhbaaGreatDoor
