import Derived.Test.YtjbcbnemdhbhbaaGreatDoorA23
import Derived.Test.YtjbcbnemdhbhbaaGreatDoorA22
import Derived.Test.YtjbcbnemdhbhbaaGreatDoorA13
import Derived.Test.YtjbcbnemdhbhbaaGreatDoorA27
set_option maxRecDepth 100000
set_option linter.unusedVariables false
set_option linter.unusedSimpArgs false
set_option maxHeartbeats 40000000
open Go renaming World→AI
open Go.IntKind renaming wrap_i64→acz
open Go.Lib renaming hid→sh
open Go.RowKit.Below renaming refl→BY
open Go.Value renaming int→acs,ownBlock→aaT
open List renaming mem_append→By,mem_singleton→IN
open Nat renaming le_refl→AS,lt_of_lt_of_le→aal,zero_le→abi
open Option renaming mem_toList→abG
namespace Go.Proofs.YtjbcbnemdhbhbaaGreatDoor
open Go.Proofs.Tryz
open Go.RowKit
def aJ (s:ByteArray):List ByteArray:=[s.extract 0 128,s.extract 128 256,s.extract 256 384,s.extract 384 512]
def eK.et (P:eK) (n:Nat):eK:={ P with log:=P.log++[(n:Int)] }
theorem Jn{w w3 w4:AI}{q g gg m cl qg n:Nat}{S T:List Nat}{D:DevS}{P:eK}{sl:Value}{Al:Option Addr}(kW:Hy w q T g P sl (.slice Al m cl))(hm:m=P.log.length)(hd:Dev w g S D)(jU:∀b∈T,b∉S)(aN:Below w.heap.size w w3)
  (cd:w4.ownsRow 0 3 1 (.slice (some ⟨gg,0,none⟩) (m+1) qg) (m+1) (P.log.map (acs .i64)++[.int .i64 n])) (dg:(w3.alloc (.cells #[.int .i64 n] 3)).drew.grownBy w4 (aaT (.slice Al m cl)))
  (Bf:aaT (.slice Al m cl)=some gg\/gg=w3.heap.size+1) (Mw:gg<w4.heap.size):
  Dev (w4.setCell ⟨q,13,none⟩ (.slice (some ⟨gg,0,none⟩) (m+1) qg)) g S D/\Pg (w4.setCell ⟨q,13,none⟩ (.slice (some ⟨gg,0,none⟩) (m+1) qg)) q (T++[gg]) g (P.et n)/\(∀b∈T++[gg],b∉S)/\ah T w (w4.setCell ⟨q,13,none⟩ (.slice (some ⟨gg,0,none⟩) (m+1) qg))/\ah T w3 (w4.setCell ⟨q,13,none⟩ (.slice (some ⟨gg,0,none⟩) (m+1) qg))/\aj w T (T++[gg]):=by
 have hqT:=kW.zj.1;have Tk:∀b,aaT (.slice Al m cl)=some b->b∈T:=kW.zj.2;have uu:ah (aaT (.slice Al m cl)).toList w3 w4:=(((ah.refl _ w3).alloc _).drew).grown dg (fun g hg=> .inl (by rw[hg];simp));have Po:ah T w3 (w4.setCell ⟨q,13,none⟩ (.slice (some ⟨gg,0,none⟩) (m+1) qg)):=(uu.mono (fun b hb=> .inl (Tk b (by rw[abG]at hb;exact hb)))).setCell (p:=⟨q,13,none⟩) (.inl hqT) _;have how:ah T w (w4.setCell ⟨q,13,none⟩ (.slice (some ⟨gg,0,none⟩) (m+1) qg)):=(ah.af aN T).trans Po;have hgn:gg∈T\/w.heap.size<=gg:=by
  rcases Bf with h|h
  ·exact .inl (Tk gg h)
  ·have:=aN.size;exact .inr (by omega)
 have afy:aaT (.slice Al m cl)≠some q:=cz kW.log kW.cells (by decide);have lQ:Bk w4 q 188 (gB g P.m P.o P.both sl (.slice Al m cl)):=uu.bk (ae kW.cells aN) (fun hs=>by rw[abG]at hs;exact afy hs);have VH:aaT (.slice (some ⟨gg,0,none⟩) (m+1) qg)≠some q:=cz cd lQ (by decide);have UW:∀b∈S,b∉T:=fun b hb ht=>jU b ht hb;refine⟨hd.off how UW,⟨sl,.slice (some ⟨gg,0,none⟩) (m+1) qg,?_⟩,fun b hb hs=> ?_,how,Po,fun b hb=> ?_⟩
 ·refine⟨lQ.put 13 _,?_,?_,⟨By.2 (.inl hqT),fun b hb=> ?_⟩,fun b hb=> ?_⟩
  ·have h:=kW.sld
   unfold SealAt at h |-;show (match P.bA with|none=>_|some s=>_);cases hs:P.bA with
   | none=>rw[hs]at h;exact h
   | some ms=>
    rw[hs]at h;obtain⟨b,h1,h2,h3⟩:=h;refine⟨b,By.2 (.inl h1),h2,?_⟩;have zN:b≠q:=h3.ne kW.cells (by decide);have ZD:aaT (.slice Al m cl)≠some b:=cz kW.log h3 (by decide);have h4:Bk w4 b 40 ms.cells:=uu.bk (ae h3 aN) (fun hs=>by rw[abG]at hs;exact ZD hs);exact h4.vV (p:=⟨q,13,none⟩) zN _
  ·have h1:(P.et n).log.map (acs .i64)=P.log.map (acs .i64)++[.int .i64 n]:=by simp[eK.et]
   have h2:(P.et n).log.length=m+1:=by simp[eK.et,hm]
   rw[h1,h2];exact((ah.refl [q] w4).setCell (p:=⟨q,13,none⟩) (.inl (by simp)) _).own cd (fun g hg hs=>by
    rw[IN]at hs;subst hs;exact VH hg)
  ·have:b=gg:=by
    have h9:aaT (.slice (some ⟨gg,0,none⟩) (m+1) qg)=some gg:=rfl;rw[h9]at hb;injection hb with hb;exact hb.symm
   subst this;simp
  ·rcases By.1 hb with hb|hb
   ·exact aal (kW.old b hb) how.size
   ·rw[IN]at hb
    subst hb;simpa using Mw
 ·rcases By.1 hb with hb|hb
  ·exact jU b hb hs
  ·rw[IN]at hb
   subst hb;rcases hgn with h|h
   ·exact jU b h hs
   ·have:=hd.old b hs;omega
 ·rcases By.1 hb with hb|hb
  ·exact .inl hb
  ·rw[IN]at hb
   subst hb;exact hgn
structure Written (g q:Nat) (S T:List Nat) (D:DevS) (P:eK) (s:ByteArray) (n:Nat) (w:AI) (T':List Nat) (i:Nat) (wr:AI) (Si:List Nat) (Di:DevS):Prop where
 dev:Dev wr g Si Di
 pg:Pg wr q T' g (P.et n)
 ap:∀b∈T',b∉Si
 off:ah (S++T) w wr
 fS:aj w S Si
 fT:aj w T T'
 go:D.writeL (4*n) (aJ s)=Di.writeL (4*n+i) ((aJ s).drop i)
 steps:Di.steps<=D.steps+i
 len:Di.sec.length=D.sec.length
 cell:∃cs,Bk wr w.heap.size 126 cs/\cs[1]? =some (.int .i64 n)
 apc:w.heap.size∉Si/\w.heap.size∉T'
theorem gC{s x:ByteArray}{i:Nat}(hs:s.size=512)(hx:(aJ s)[i]? =some x):x.size=128:=by
 have hm:=List.mem_of_getElem? hx;unfold aJ at hm;simp only[List.mem_cons,List.not_mem_nil,or_false]at hm;rcases hm with rfl|rfl|rfl|rfl;all_goals rw[ByteArray.size_extract,hs];rfl
theorem Written.next{g q:Nat}{S T:List Nat}{D:DevS}{P:eK}{s:ByteArray}{n:Nat}{w:AI}{T':List Nat}{i:Nat}{wr:AI}{Si:List Nat}{Di:DevS}(h:Written g q S T D P s n w T' i wr Si Di){x:ByteArray}(hx:(aJ s)[i]? =some x)(hs:s.size=512)(hi:i<4)(BI:4*n+4<=D.sec.length)
  {D':DevS} {r:Int} (hw:Di.write ((4*n+i:Nat):Int) x=(D',r)) {w':AI} {S':List Nat} (hd:Dev w' g S' D') (ho:ah Si wr w') (hf:aj wr Si S'):
  (r=0->Written g q S T D P s n w T' (i+1) w' S' D')/\(r≠0->jy g q S T (D.writeL (4*n) (aJ s)).1 (P.et n) (D.writeL (4*n) (aJ s)).2 w (.returned (.int .i64 r)) w'):=by
 have Dm:=gC hs hx;have dw:4*n+i<Di.sec.length:=by rw[h.len];omega
 obtain⟨k1,k2,k3⟩:=DevS.gO dw Dm;rw[hw]at k1 k2 k3;have SM:(aJ s).drop i=x::(aJ s).drop (i+1):=by
  have vH:i<(aJ s).length:=by
   by_cases hc:i<(aJ s).length
   ·exact hc
   ·rw[List.getElem?_eq_none (Nat.le_of_not_lt hc)]at hx;cases hx
  rw[List.drop_eq_getElem_cons vH];rw[List.getElem?_eq_getElem vH]at hx;injection hx with hx;rw[hx]
 have I1:=h.go;rw[SM]at I1;have Dj:Di.writeL (4*n+i) (x::(aJ s).drop (i+1))=if r=0 then D'.writeL (4*n+i+1) ((aJ s).drop (i+1))else (D',r):=by
  show (if (Di.write ((4*n+i:Nat):Int) x).2=0 then DevS.writeL (Di.write ((4*n+i:Nat):Int) x).1 (4*n+i+1) ((aJ s).drop (i+1))else ((Di.write ((4*n+i:Nat):Int) x).1,(Di.write ((4*n+i:Nat):Int) x).2))=_;rw[hw]
 rw[Dj]at I1;have hpo:Pg w' q T' g (P.et n):=h.pg.off ho h.ap;have jU:∀b∈T',b∉S':=fun b hb hs=>by
  rcases hf b hs with h9|h9
  ·exact h.ap b hb h9
  ·have:=h.pg.old b hb;omega
 have bF:ah (S++T) w w':=h.off.then ho (fun b hb=>by
  rcases h.fS b hb with h9|h9
  ·exact .inl (by simp[h9])
  ·exact .inr h9)
 have SN:aj w S S':=h.fS.trans hf h.off.size;refine⟨fun h0=> ?_,fun h0=> ?_⟩
 ·rw[if_pos h0]at I1
  obtain⟨cs,c1,c2⟩:=h.cell;refine⟨hd,hpo,jU,bF,SN,h.fT,I1,?_,by rw[k1.sec];exact h.len,⟨cs,ho.bk c1 h.apc.1,c2⟩,fun hs=> ?_,h.apc.2⟩
  ·have:=h.steps
   push_cast
   simp only at k2;omega
  ·rcases hf _ hs with h9|h9
   ·exact h.apc.1 h9
   ·have:=c1.lt;omega
 ·rw[if_neg h0]at I1
  rw[I1];exact⟨rfl,S',T',hd,hpo,jU,bF,SN,h.fT⟩
theorem Written.done{g q:Nat}{S T:List Nat}{D:DevS}{P:eK}{s:ByteArray}{n:Nat}{w:AI}{T':List Nat}{wr:AI}{Si:List Nat}{Di:DevS}(h:Written g q S T D P s n w T' 4 wr Si Di):
  jy g q S T (D.writeL (4*n) (aJ s)).1 (P.et n) (D.writeL (4*n) (aJ s)).2 w (.returned (.int .i64 0)) wr:=by
 have I1:=h.go;have:(aJ s).drop 4=[]:=rfl;rw[this]at I1;rw[I1];exact⟨rfl,Si,T',h.dev,h.pg,h.ap,h.off,h.fS,h.fT⟩
theorem Fk{g q:Nat}{S T:List Nat}{D:DevS}{P:eK}{w:AI}(hd:Dev w g S D)(hp:Pg w q T g P)(jU:∀b∈T,b∉S)(hr:aS w)(k t:Int)(n:Nat)(b:ByteArray)(eX:cm k n t b=true)(hn:n<512)(hl:(n:Int)<P.m.l)(BI:4*n+4<=D.sec.length)(hb:D.steps<=999999990)(Er:P.log.length<=1000000):
  Calls prog 115 #[.pointer (some ⟨q,0,none⟩),.agg #[.int .i64 k,.int .i64 n,.int .i64 t,.string b]] w (jy g q S T (D.writeL (4*n) (aJ (bL k n t b))).1 (P.et n) (D.writeL (4*n) (aJ (bL k n t b))).2 w):=by
 obtain⟨i0,hi,ez,dP,eh⟩:=info_parts dz;have zK:=sh fun(W:AI) (hW:aS W)=>(show Calls prog 172 #[.agg #[.int .i64 k,.int .i64 n,.int .i64 t,.string b]] W (fun e w'=>e= .returned (.tuple #[.string (bL k n t b),.int .i64 0])/\Below W.heap.size W w') from by
  have:=Ck k n t b W hW;unfold tF at this;rw[mh eX]at this;exact this)
 obtain⟨s,hs⟩:∃s,s=bL k n t b:=⟨_,rfl⟩;have cZ:s.size=512:=by
  rw[hs,jq eX];show (gZ _ _ _ _).toArray.size=512;rw[List.size_toArray];refine mR _ _ _ _ ?_;have h9:=eX;unfold cm at h9;simp at h9;show b.data.toList.length<=488;rw[Array.length_toList];show b.size<=488;omega
 rw[<-hs]at zK |-;obtain⟨sl,lg,kW⟩:=hp;obtain⟨Al,cl,zU,-,ni⟩:=aV kW.log;obtain⟨m,hm⟩:∃m,m=P.log.length:=⟨_,rfl⟩;rw[<-hm]at zU Er;subst zU;have tC:=sh kW;have HD:=sh hd;have yx:=sh jU;have HR:=sh hr;have HM:=sh hm;have Pp:=kW.cells.cell 0;have z1:decide (P.m.l<=(n:Int))=false:=decide_eq_false (by omega);have Xz:=kW.cells;have lq:=Xz.lt;have yC:=sh fun(W:AI) (hW:Below w.heap.size w W)=>(show W.cell? ⟨q,0,none⟩=some (.pointer (some ⟨g,0,none⟩))/\W.cell? ⟨q,5,none⟩=some (.int .i64 P.m.l)/\W.cell? ⟨q,13,none⟩=some (.slice Al m cl)/\W.frozen? ⟨q,13,none⟩=false from ⟨(ae Xz hW).cell 0,(ae Xz hW).cell 5,(ae Xz hW).cell 13,(ae Xz hW).frozen 13⟩);obtain⟨l,hle⟩:∃l,l=P.m.l:=⟨_,rfl⟩;have O4:=sh cZ;clear hd jU hr kW hs eX hm Pp Xz hl hle cZ;go_enter func115,ntmps115
 go_wp2_with fail
 refine(zK.out _ (HR.out.below ((BY _ w).alloc (AS _) _))).mono ?_;rintro e w2 ⟨rfl,aC⟩;have ED:=ae (Bk.new w 126 #[.int .i64 k,.int .i64 n,.int .i64 t,.string b]) aC;have sf:Below w.heap.size w w2:=((BY _ w).alloc (AS _) (.cells #[.int .i64 k,.int .i64 n,.int .i64 t,.string b] 126)).trans (aC.mono (by simp));have O0:=sh ED;have bm:=sh sf;obtain⟨c0,c5,vS,f13⟩:=yC.out w2 sf;have p1:=ED.cell 1;have lp:=ED.lt;have lq2:=aal lq sf.size;clear aC ED sf;go_wp2_with fail
 go_quiet (fail)
 go_wp2_with fail
 have aN:=below_drewN bm.out nq;have MO:Bk (w2.drewN nq) w.heap.size 126 #[.int .i64 k,.int .i64 n,.int .i64 t,.string b]:=O0.out;generalize w2.drewN nq=w3 at aN MO |-;clear c0 c5 vS f13 p1 lp lq2;obtain⟨c0,c5,vS,f13⟩:=yC.out w3 aN;have p1:=MO.cell 1;have lp:=MO.lt;have lq3:=aal lq aN.size;have du:=sh aN;have adH:=sh MO;have Ya:=sh (show w3.ownsRow 0 3 1 (.slice Al m cl) m (P.log.map (acs .i64)) from by
  have h9:=(ah.af aN []).own tC.out.log (by simp);rw[<-HM.out]at h9;exact h9)
 have HQB:=sh (ae tC.out.cells aN);have W6:=sh (show aaT (.slice Al m cl)≠some q from cz Ya.out HQB.out (by decide));clear aN MO O0;go_region_law ((refine step_append_lies _ (by rfl) _ _ 51 (by rfl) 0 3 i0 (.int .i64 0) 1 8 underlying51 hi ez dP eh (by rfl) (by omega) _ _ _ (by rfl) (Ya.out.alloc _) ⟨w3.heap.size,0,none⟩ 1 1 [.int .i64 n] (by rfl) (by rfl) (World.news_of_block (cs:= #[.int .i64 n]) (heap_alloc_new w3 _)) (cK [n]) (by omega) (by unfold maxLen;omega) (by omega) (abi _) (w3.heap.size+1) (by simp) ?_;intro gg qg w4 cd dg Bf Mw;have iU:=(dg.block q (by simp;omega) (fun e=>W6.out e.symm)).trans (HQB.out.alloc (.cells #[.int .i64 n] 3));have y0:w4.cell? ⟨q,13,none⟩=some (.slice Al m cl):=Bk.cell iU 13;have y1:=Bk.frozen iU 13;have y2:=Bk.lt iU))
 all_goals
  obtain⟨hd5,hp5,Zv,aaR,aaI,ZX⟩:=Jn tC.out HM.out HD.out yx.out du.out cd dg Bf Mw;have hwT:∀b∈T,b<w.heap.size:=tC.out.old;have hW0:Written g q S T D P s n w (T++[gg]) 0 (w4.setCell ⟨q,13,none⟩ (.slice (some ⟨gg,0,none⟩) (m+1) qg)) S D:=by
   refine⟨hd5,hp5,Zv,aaR.mono (fun b hb=> .inl (by simp[hb])),aj.refl _ _,ZX,rfl,by simp,rfl,⟨_,aaI.bk adH.out (fun hs=>by have:=hwT _ hs;omega),rfl⟩,fun hs=>by have:=HD.out.old _ hs;omega,fun hs=> ?_⟩;rcases By.1 hs with hs|hs
   ·have:=hwT _ hs;omega
   ·rw[IN]at hs
    rcases Bf with h9|h9
    ·have:=hwT _ (tC.out.zj.2 gg h9);omega
    ·have:=du.out.size;omega
  have HW0:=sh hW0;generalize w4.setCell ⟨q,13,none⟩ (.slice (some ⟨gg,0,none⟩) (m+1) qg)=v0 at HW0 |-;clear hd5 hp5 Zv aaR aaI ZX hwT hW0 cd dg Bf Mw iU y0 y1 y2;go_wp2_with fail
  go_loopw [40] (fun i wr=>∃j:Nat,i= .int .i64 j/\j<=4/\Hid (∃Si Di,Written g q S T D P s n w (T++[gg]) j wr Si Di)) (fun i _=>4-(intOf i).toNat)
  case atStart=>exact⟨0,rfl,abi _,sh ⟨S,D,HW0.out⟩⟩
  case round=>
   obtain⟨j,rfl,hj,hI⟩:=hrel;obtain⟨Si,Di,hW⟩:=hI.out;by_cases aH:j<4
   ·have z5:decide ((j:Int)<4)=true:=decide_eq_true (by omega)
    have z6:decide (j<4)=true:=decide_eq_true aH;obtain⟨a,ha⟩:∃a:Nat,a=j*128:=⟨_,rfl⟩;obtain⟨c,hc⟩:∃c:Nat,c=(j+1)*128:=⟨_,rfl⟩;obtain⟨z,hz⟩:∃z:Nat,z=4*n:=⟨_,rfl⟩;obtain⟨y,hy⟩:∃y:Nat,y=4*n+j:=⟨_,rfl⟩;have vJ:(aJ s)[j]? =some (s.extract a c):=by
     rw[ha,hc]
     match j,aH with
     | 0,_=>rfl
     | 1,_=>rfl
     | 2,_=>rfl
     | 3,_=>rfl
    obtain⟨D',r,hw⟩:∃D' r,Di.write ((4*n+j:Nat):Int) (s.extract a c)=(D',r):=⟨_,_,rfl⟩;have iT:r=0\/((r==0)=false/\(r != 0)=true/\r≠0):=by
     by_cases h9:r=0
     ·exact .inl h9
     ·exact .inr ⟨by rw[beq_eq_false_iff_ne];exact h9,by simpa using h9,h9⟩
    have HDW:=sh (show Calls prog 118 #[ptr g,.int .i64 y,.string (s.extract a c)] wr.drew (gv g Si D' (.int .i64 r) wr.drew) from by
     rw[hy];exact fa (hW.dev.off ((ah.refl [] wr).drew) (by simp)) ((4*n+j:Nat):Int) (s.extract a c) D' r (by have:=hW.steps;omega) (by rw[gC O4.out vJ];unfold maxLen;omega) hw)
    have nA:=sh fun(w':AI) (S':List Nat) (hd:Dev w' g S' D') (ho:ah Si wr w') (hf:aj wr Si S')=>hW.next vJ O4.out aH BI hw hd ho hf;have Pj:∀W,ah Si wr W->W.cell? ⟨q,0,none⟩=some (ptr g)/\W.cell? ⟨w.heap.size,1,none⟩=some (.int .i64 n):=fun W hW9=>by
     obtain⟨sl',lg',Q2⟩:=hW.pg;obtain⟨cs,k1,k2⟩:=hW.cell;exact⟨(hW9.bk Q2.cells (hW.ap q Q2.zj.1)).cell 0,((hW9.bk k1 hW.apc.1).cell 1).trans k2⟩
    have lqr:q<wr.heap.size:=by
     obtain⟨sl',lg',Q2⟩:=hW.pg;exact Q2.cells.lt
    have lpr:w.heap.size<wr.heap.size:=by
     obtain⟨cs,k1,k2⟩:=hW.cell;exact k1.lt
    have HKC:=sh Pj;have p1:(j:Int)*128=(a:Int):=by rw[ha];push_cast;rfl
    have p2:((j:Int)+1)*128=(c:Int):=by rw[hc];push_cast;rfl
    have p3:(4:Int)*(n:Int)=(z:Int):=by rw[hz];push_cast;rfl
    have p4:(z:Int)+(j:Int)=(y:Int):=by rw[hz,hy];push_cast;rfl
    have w1:IntKind.i64.wrap (a:Int)=a:=by rw[acz];omega
    have w2:IntKind.i64.wrap (c:Int)=c:=by rw[acz];omega
    have XE:IntKind.i64.wrap (z:Int)=z:=by rw[acz];omega
    have w4':IntKind.i64.wrap (y:Int)=y:=by rw[acz];omega
    have w5':IntKind.i64.wrap ((j:Int)+1)=(j:Int)+1:=by rw[acz];omega
    have w6':IntKind.i64.wrap (j:Int)=(j:Int):=by rw[acz];omega
    have b1:(0:Int)<=(a:Int):=by omega
    have b2:(a:Int)<=(c:Int):=by omega
    have b3:(c:Int)<=(s.size:Int):=by have:=O4.out;omega
    have b4:a<=c:=by omega
    have b5:c<=s.size:=by have:=O4.out;omega
    have HW:=sh hW;clear Pj hw hW hI ha hc hz hy vJ;rcases iT with rfl|⟨e1,e2,e3⟩
    ·go_wp2_with fail
     go_region_held3 (fun W=>W.cell? ⟨q,0,none⟩=some (ptr g)/\W.cell? ⟨w.heap.size,1,none⟩=some (.int .i64 n)) (first|exact HKC.out _ (ah.refl _ _).drew|exact HKC.out _ zR.out)
      (first
      | (go_at_call 118;refine HDW.out.mono ?_;rintro e v1 ⟨rfl,S1,Xl,GH,ZV⟩;have zR:=sh (((ah.refl Si wr).drew).trans GH))
      | fail)
     all_goals
      have F2:=sh (show ∃Si Di,Written g q S T D P s n w (T++[gg]) (j+1) v1 Si Di from ⟨S1,D',(nA.out v1 S1 Xl zR.out (ZV.mono (by simp))).1 (by first|exact trivial|rfl)⟩);clear Xl GH ZV zR;go_wp2_with fail
      go_roundw
      case rel=>first|exact⟨j+1,by go_num,by omega,F2⟩|((repeat apply Exists.intro);exact⟨⟨j+1,by go_num,by omega,F2⟩,rfl⟩)
      case measure=>simp[intOf];omega
    ·go_wp2_with fail
     go_region_held3 (fun W=>W.cell? ⟨q,0,none⟩=some (ptr g)/\W.cell? ⟨w.heap.size,1,none⟩=some (.int .i64 n)) (first|exact HKC.out _ (ah.refl _ _).drew|exact HKC.out _ zR.out)
      (first
      | (go_at_call 118;refine HDW.out.mono ?_;rintro e v1 ⟨rfl,S1,Xl,GH,ZV⟩;have zR:=sh (((ah.refl Si wr).drew).trans GH))
      | fail)
     all_goals
      have F2:=sh ((nA.out v1 S1 Xl zR.out (ZV.mono (by simp))).2 e3);clear Xl GH ZV zR e3;go_wp2_with fail
      go_ret
      exact F2.out
   ·have z5:decide ((j:Int)<4)=false:=decide_eq_false (by omega)
    have z6:decide (j<4)=false:=decide_eq_false aH;have hj4:j=4:=by omega
    have HE:=sh (show jy g q S T (D.writeL (4*n) (aJ s)).1 (P.et n) (D.writeL (4*n) (aJ s)).2 w (.returned (.int .i64 0)) wr from by subst hj4;exact hW.done);clear hW hI hj4;go_wp2_with fail
    go_ret
    exact HE.out
end Go.Proofs.YtjbcbnemdhbhbaaGreatDoor
