import Derived.Test.YtjbcbnemdhbhbaaGreatDoorB26
import Derived.Test.YtjbcbnemdhbhbaaGreatDoorB25
import Derived.Test.YtjbcbnemdhbhbaaGreatDoorB12
import Derived.Test.YtjbcbnemdhbhbaaGreatDoorB27
set_option maxRecDepth 100000
set_option linter.unusedVariables false
set_option linter.unusedSimpArgs false
set_option maxHeartbeats 40000000
open Go renaming World→AI
open Go.IntKind renaming wrap_i64→acC
open Go.Lib renaming hid→sh
open Go.RowKit.Below renaming refl→IN
open Go.Value renaming int→acK,ownBlock→aaU
open List renaming mem_append→AT,mem_singleton→By
open Nat renaming le_refl→AS,lt_of_lt_of_le→aaf,zero_le→abc
open Option renaming mem_toList→abz
namespace Go.Proofs.YtjbcbnemdhbhbaaGreatDoor
open Go.Proofs.Tryz
open Go.RowKit
def aK (s:ByteArray):List ByteArray:=[s.extract 0 128,s.extract 128 256,s.extract 256 384,s.extract 384 512]
def eR.ep (P:eR) (n:Nat):eR:={ P with log:=P.log++[(n:Int)] }
theorem I8{w w3 w4:AI}{q g gg m cl pV n:Nat}{S T:List Nat}{D:DevS}{P:eR}{sl:Value}{Al:Option Addr}(kY:Hb w q T g P sl (.slice Al m cl))(hm:m=P.log.length)(hd:Dev w g S D)(jr:∀b∈T,b∉S)(aQ:Below w.heap.size w w3)
  (bM:w4.ownsRow 0 3 1 (.slice (some ⟨gg,0,none⟩) (m+1) pV) (m+1) (P.log.map (acK .i64)++[.int .i64 n])) (cd:(w3.alloc (.cells #[.int .i64 n] 3)).drew.grownBy w4 (aaU (.slice Al m cl)))
  (An:aaU (.slice Al m cl)=some gg\/gg=w3.heap.size+1) (Mk:gg<w4.heap.size):
  Dev (w4.setCell ⟨q,13,none⟩ (.slice (some ⟨gg,0,none⟩) (m+1) pV)) g S D/\Pg (w4.setCell ⟨q,13,none⟩ (.slice (some ⟨gg,0,none⟩) (m+1) pV)) q (T++[gg]) g (P.ep n)/\(∀b∈T++[gg],b∉S)/\ah T w (w4.setCell ⟨q,13,none⟩ (.slice (some ⟨gg,0,none⟩) (m+1) pV))/\ah T w3 (w4.setCell ⟨q,13,none⟩ (.slice (some ⟨gg,0,none⟩) (m+1) pV))/\aj w T (T++[gg]):=by
 have hqT:=kY.zm.1;have Tj:∀b,aaU (.slice Al m cl)=some b->b∈T:=kY.zm.2;have tE:ah (aaU (.slice Al m cl)).toList w3 w4:=(((ah.refl _ w3).alloc _).drew).grown cd (fun g hg=> .inl (by rw[hg];simp));have O2:ah T w3 (w4.setCell ⟨q,13,none⟩ (.slice (some ⟨gg,0,none⟩) (m+1) pV)):=(tE.mono (fun b hb=> .inl (Tj b (by rw[abz]at hb;exact hb)))).setCell (p:=⟨q,13,none⟩) (.inl hqT) _;have how:ah T w (w4.setCell ⟨q,13,none⟩ (.slice (some ⟨gg,0,none⟩) (m+1) pV)):=(ah.ae aQ T).trans O2;have Z9:gg∈T\/w.heap.size<=gg:=by
  rcases An with h|h
  ·exact .inl (Tj gg h)
  ·have:=aQ.size;exact .inr (by omega)
 have afA:aaU (.slice Al m cl)≠some q:=bP kY.log kY.cells (by decide);have lK:Bk w4 q 188 (gv g P.m P.o P.both sl (.slice Al m cl)):=tE.bk (af kY.cells aQ) (fun hs=>by rw[abz]at hs;exact afA hs);have VE:aaU (.slice (some ⟨gg,0,none⟩) (m+1) pV)≠some q:=bP bM lK (by decide);have UZ:∀b∈S,b∉T:=fun b hb ht=>jr b ht hb;refine⟨hd.off how UZ,⟨sl,.slice (some ⟨gg,0,none⟩) (m+1) pV,?_⟩,fun b hb hs=> ?_,how,O2,fun b hb=> ?_⟩
 ·refine⟨lK.put 13 _,?_,?_,⟨AT.2 (.inl hqT),fun b hb=> ?_⟩,fun b hb=> ?_⟩
  ·have h:=kY.sld
   unfold SealAt at h |-;show (match P.bC with|none=>_|some s=>_);cases hs:P.bC with
   | none=>rw[hs]at h;exact h
   | some ms=>
    rw[hs]at h;obtain⟨b,h1,h2,h3⟩:=h;refine⟨b,AT.2 (.inl h1),h2,?_⟩;have zg:b≠q:=h3.ne kY.cells (by decide);have ZD:aaU (.slice Al m cl)≠some b:=bP kY.log h3 (by decide);have h4:Bk w4 b 40 ms.cells:=tE.bk (af h3 aQ) (fun hs=>by rw[abz]at hs;exact ZD hs);exact h4.zf (p:=⟨q,13,none⟩) zg _
  ·have h1:(P.ep n).log.map (acK .i64)=P.log.map (acK .i64)++[.int .i64 n]:=by simp[eR.ep]
   have h2:(P.ep n).log.length=m+1:=by simp[eR.ep,hm]
   rw[h1,h2];exact((ah.refl [q] w4).setCell (p:=⟨q,13,none⟩) (.inl (by simp)) _).own bM (fun g hg hs=>by
    rw[By]at hs;subst hs;exact VE hg)
  ·have:b=gg:=by
    have h9:aaU (.slice (some ⟨gg,0,none⟩) (m+1) pV)=some gg:=rfl;rw[h9]at hb;injection hb with hb;exact hb.symm
   subst this;simp
  ·rcases AT.1 hb with hb|hb
   ·exact aaf (kY.old b hb) how.size
   ·rw[By]at hb
    subst hb;simpa using Mk
 ·rcases AT.1 hb with hb|hb
  ·exact jr b hb hs
  ·rw[By]at hb
   subst hb;rcases Z9 with h|h
   ·exact jr b h hs
   ·have:=hd.old b hs;omega
 ·rcases AT.1 hb with hb|hb
  ·exact .inl hb
  ·rw[By]at hb
   subst hb;exact Z9
structure Written (g q:Nat) (S T:List Nat) (D:DevS) (P:eR) (s:ByteArray) (n:Nat) (w:AI) (T':List Nat) (i:Nat) (wr:AI) (Si:List Nat) (Di:DevS):Prop where
 dev:Dev wr g Si Di
 pg:Pg wr q T' g (P.ep n)
 ap:∀b∈T',b∉Si
 off:ah (S++T) w wr
 fS:aj w S Si
 fT:aj w T T'
 go:D.writeL (4*n) (aK s)=Di.writeL (4*n+i) ((aK s).drop i)
 steps:Di.steps<=D.steps+i
 len:Di.sec.length=D.sec.length
 cell:∃cs,Bk wr w.heap.size 126 cs/\cs[1]? =some (.int .i64 n)
 apc:w.heap.size∉Si/\w.heap.size∉T'
theorem gw{s x:ByteArray}{i:Nat}(hs:s.size=512)(hx:(aK s)[i]? =some x):x.size=128:=by
 have hm:=List.mem_of_getElem? hx;unfold aK at hm;simp only[List.mem_cons,List.not_mem_nil,or_false]at hm;rcases hm with rfl|rfl|rfl|rfl;all_goals rw[ByteArray.size_extract,hs];rfl
theorem Written.next{g q:Nat}{S T:List Nat}{D:DevS}{P:eR}{s:ByteArray}{n:Nat}{w:AI}{T':List Nat}{i:Nat}{wr:AI}{Si:List Nat}{Di:DevS}(h:Written g q S T D P s n w T' i wr Si Di){x:ByteArray}(hx:(aK s)[i]? =some x)(hs:s.size=512)(hi:i<4)(A8:4*n+4<=D.sec.length)
  {D':DevS} {r:Int} (hw:Di.write ((4*n+i:Nat):Int) x=(D',r)) {w':AI} {S':List Nat} (hd:Dev w' g S' D') (ho:ah Si wr w') (hf:aj wr Si S'):
  (r=0->Written g q S T D P s n w T' (i+1) w' S' D')/\(r≠0->jq g q S T (D.writeL (4*n) (aK s)).1 (P.ep n) (D.writeL (4*n) (aK s)).2 w (.returned (.int .i64 r)) w'):=by
 have CZ:=gw hs hx;have dv:4*n+i<Di.sec.length:=by rw[h.len];omega
 obtain⟨k1,k2,k3⟩:=DevS.gG dv CZ;rw[hw]at k1 k2 k3;have SI:(aK s).drop i=x::(aK s).drop (i+1):=by
  have uU:i<(aK s).length:=by
   by_cases hc:i<(aK s).length
   ·exact hc
   ·rw[List.getElem?_eq_none (Nat.le_of_not_lt hc)]at hx;cases hx
  rw[List.drop_eq_getElem_cons uU];rw[List.getElem?_eq_getElem uU]at hx;injection hx with hx;rw[hx]
 have IC:=h.go;rw[SI]at IC;have El:Di.writeL (4*n+i) (x::(aK s).drop (i+1))=if r=0 then D'.writeL (4*n+i+1) ((aK s).drop (i+1))else (D',r):=by
  show (if (Di.write ((4*n+i:Nat):Int) x).2=0 then DevS.writeL (Di.write ((4*n+i:Nat):Int) x).1 (4*n+i+1) ((aK s).drop (i+1))else ((Di.write ((4*n+i:Nat):Int) x).1,(Di.write ((4*n+i:Nat):Int) x).2))=_;rw[hw]
 rw[El]at IC;have hpo:Pg w' q T' g (P.ep n):=h.pg.off ho h.ap;have jr:∀b∈T',b∉S':=fun b hb hs=>by
  rcases hf b hs with h9|h9
  ·exact h.ap b hb h9
  ·have:=h.pg.old b hb;omega
 have bG:ah (S++T) w w':=h.off.then ho (fun b hb=>by
  rcases h.fS b hb with h9|h9
  ·exact .inl (by simp[h9])
  ·exact .inr h9)
 have SJ:aj w S S':=h.fS.trans hf h.off.size;refine⟨fun h0=> ?_,fun h0=> ?_⟩
 ·rw[if_pos h0]at IC
  obtain⟨cs,c1,c2⟩:=h.cell;refine⟨hd,hpo,jr,bG,SJ,h.fT,IC,?_,by rw[k1.sec];exact h.len,⟨cs,ho.bk c1 h.apc.1,c2⟩,fun hs=> ?_,h.apc.2⟩
  ·have:=h.steps
   push_cast
   simp only at k2;omega
  ·rcases hf _ hs with h9|h9
   ·exact h.apc.1 h9
   ·have:=c1.lt;omega
 ·rw[if_neg h0]at IC
  rw[IC];exact⟨rfl,S',T',hd,hpo,jr,bG,SJ,h.fT⟩
theorem Written.done{g q:Nat}{S T:List Nat}{D:DevS}{P:eR}{s:ByteArray}{n:Nat}{w:AI}{T':List Nat}{wr:AI}{Si:List Nat}{Di:DevS}(h:Written g q S T D P s n w T' 4 wr Si Di):
  jq g q S T (D.writeL (4*n) (aK s)).1 (P.ep n) (D.writeL (4*n) (aK s)).2 w (.returned (.int .i64 0)) wr:=by
 have IC:=h.go;have:(aK s).drop 4=[]:=rfl;rw[this]at IC;rw[IC];exact⟨rfl,Si,T',h.dev,h.pg,h.ap,h.off,h.fS,h.fT⟩
theorem EV{g q:Nat}{S T:List Nat}{D:DevS}{P:eR}{w:AI}(hd:Dev w g S D)(hp:Pg w q T g P)(jr:∀b∈T,b∉S)(hr:aO w)(k t:Int)(n:Nat)(b:ByteArray)(eX:cw k n t b=true)(hn:n<512)(hl:(n:Int)<P.m.l)(A8:4*n+4<=D.sec.length)(hb:D.steps<=999999990)(D8:P.log.length<=1000000):
  Calls prog 115 #[.pointer (some ⟨q,0,none⟩),.agg #[.int .i64 k,.int .i64 n,.int .i64 t,.string b]] w (jq g q S T (D.writeL (4*n) (aK (bK k n t b))).1 (P.ep n) (D.writeL (4*n) (aK (bK k n t b))).2 w):=by
 obtain⟨i0,hi,ef,dK,dY⟩:=info_parts iz;have Dj:=sh fun(W:AI) (hW:aO W)=>(show Calls prog 172 #[.agg #[.int .i64 k,.int .i64 n,.int .i64 t,.string b]] W (fun e w'=>e= .returned (.tuple #[.string (bK k n t b),.int .i64 0])/\Below W.heap.size W w') from by
  have:=BM k n t b W hW;unfold sP at this;rw[l8 eX]at this;exact this)
 obtain⟨s,hs⟩:∃s,s=bK k n t b:=⟨_,rfl⟩;have cZ:s.size=512:=by
  rw[hs,jk eX];show (gV _ _ _ _).toArray.size=512;rw[List.size_toArray];refine mK _ _ _ _ ?_;have h9:=eX;unfold cw at h9;simp at h9;show b.data.toList.length<=488;rw[Array.length_toList];show b.size<=488;omega
 rw[<-hs]at Dj |-;obtain⟨sl,lg,kY⟩:=hp;obtain⟨Al,cl,zk,-,od⟩:=bg kY.log;obtain⟨m,hm⟩:∃m,m=P.log.length:=⟨_,rfl⟩;rw[<-hm]at zk D8;subst zk;have va:=sh kY;have HD:=sh hd;have xL:=sh jr;have HR:=sh hr;have HM:=sh hm;have O3:=kY.cells.cell 0;have z1:decide (P.m.l<=(n:Int))=false:=decide_eq_false (by omega);have Xx:=kY.cells;have lq:=Xx.lt;have xQ:=sh fun(W:AI) (hW:Below w.heap.size w W)=>(show W.cell? ⟨q,0,none⟩=some (.pointer (some ⟨g,0,none⟩))/\W.cell? ⟨q,5,none⟩=some (.int .i64 P.m.l)/\W.cell? ⟨q,13,none⟩=some (.slice Al m cl)/\W.frozen? ⟨q,13,none⟩=false from ⟨(af Xx hW).cell 0,(af Xx hW).cell 5,(af Xx hW).cell 13,(af Xx hW).frozen 13⟩);obtain⟨l,hle⟩:∃l,l=P.m.l:=⟨_,rfl⟩;have ON:=sh cZ;clear hd jr hr kY hs eX hm O3 Xx hl hle cZ;go_enter func115,ntmps115
 go_wp2_with fail
 refine(Dj.out _ (HR.out.below ((IN _ w).alloc (AS _) _))).mono ?_;rintro e w2 ⟨rfl,az⟩;have Ef:=af (Bk.new w 126 #[.int .i64 k,.int .i64 n,.int .i64 t,.string b]) az;have rV:Below w.heap.size w w2:=((IN _ w).alloc (AS _) (.cells #[.int .i64 k,.int .i64 n,.int .i64 t,.string b] 126)).trans (az.mono (by simp));have OM:=sh Ef;have bz:=sh rV;obtain⟨c0,c5,wh,f13⟩:=xQ.out w2 rV;have p1:=Ef.cell 1;have lp:=Ef.lt;have lq2:=aaf lq rV.size;clear az Ef rV;go_wp2_with fail
 go_quiet (fail)
 go_wp2_with fail
 have aQ:=below_drewN bz.out nq;have Mx:Bk (w2.drewN nq) w.heap.size 126 #[.int .i64 k,.int .i64 n,.int .i64 t,.string b]:=OM.out;generalize w2.drewN nq=w3 at aQ Mx |-;clear c0 c5 wh f13 p1 lp lq2;obtain⟨c0,c5,wh,f13⟩:=xQ.out w3 aQ;have p1:=Mx.cell 1;have lp:=Mx.lt;have lq3:=aaf lq aQ.size;have dt:=sh aQ;have adK:=sh Mx;have Yd:=sh (show w3.ownsRow 0 3 1 (.slice Al m cl) m (P.log.map (acK .i64)) from by
  have h9:=(ah.ae aQ []).own va.out.log (by simp);rw[<-HM.out]at h9;exact h9)
 have HQB:=sh (af va.out.cells aQ);have WW:=sh (show aaU (.slice Al m cl)≠some q from bP Yd.out HQB.out (by decide));clear aQ Mx OM;go_region_law ((refine step_append_lies _ (by rfl) _ _ 51 (by rfl) 0 3 i0 (.int .i64 0) 1 8 underlying51 hi ef dK dY (by rfl) (by omega) _ _ _ (by rfl) (Yd.out.alloc _) ⟨w3.heap.size,0,none⟩ 1 1 [.int .i64 n] (by rfl) (by rfl) (World.news_of_block (cs:= #[.int .i64 n]) (heap_alloc_new w3 _)) (gD [n]) (by omega) (by unfold maxLen;omega) (by omega) (abc _) (w3.heap.size+1) (by simp) ?_;intro gg pV w4 bM cd An Mk;have iO:=(cd.block q (by simp;omega) (fun e=>WW.out e.symm)).trans (HQB.out.alloc (.cells #[.int .i64 n] 3));have y0:w4.cell? ⟨q,13,none⟩=some (.slice Al m cl):=Bk.cell iO 13;have y1:=Bk.frozen iO 13;have y2:=Bk.lt iO))
 all_goals
  obtain⟨hd5,hp5,Zt,aaR,aaJ,ZY⟩:=I8 va.out HM.out HD.out xL.out dt.out bM cd An Mk;have hwT:∀b∈T,b<w.heap.size:=va.out.old;have hW0:Written g q S T D P s n w (T++[gg]) 0 (w4.setCell ⟨q,13,none⟩ (.slice (some ⟨gg,0,none⟩) (m+1) pV)) S D:=by
   refine⟨hd5,hp5,Zt,aaR.mono (fun b hb=> .inl (by simp[hb])),aj.refl _ _,ZY,rfl,by simp,rfl,⟨_,aaJ.bk adK.out (fun hs=>by have:=hwT _ hs;omega),rfl⟩,fun hs=>by have:=HD.out.old _ hs;omega,fun hs=> ?_⟩;rcases AT.1 hs with hs|hs
   ·have:=hwT _ hs;omega
   ·rw[By]at hs
    rcases An with h9|h9
    ·have:=hwT _ (va.out.zm.2 gg h9);omega
    ·have:=dt.out.size;omega
  have HW0:=sh hW0;generalize w4.setCell ⟨q,13,none⟩ (.slice (some ⟨gg,0,none⟩) (m+1) pV)=v0 at HW0 |-;clear hd5 hp5 Zt aaR aaJ ZY hwT hW0 bM cd An Mk iO y0 y1 y2;go_wp2_with fail
  go_loopw [40] (fun i wr=>∃j:Nat,i= .int .i64 j/\j<=4/\Hid (∃Si Di,Written g q S T D P s n w (T++[gg]) j wr Si Di)) (fun i _=>4-(intOf i).toNat)
  case atStart=>exact⟨0,rfl,abc _,sh ⟨S,D,HW0.out⟩⟩
  case round=>
   obtain⟨j,rfl,hj,hI⟩:=hrel;obtain⟨Si,Di,hW⟩:=hI.out;by_cases aI:j<4
   ·have z5:decide ((j:Int)<4)=true:=decide_eq_true (by omega)
    have z6:decide (j<4)=true:=decide_eq_true aI;obtain⟨a,ha⟩:∃a:Nat,a=j*128:=⟨_,rfl⟩;obtain⟨c,hc⟩:∃c:Nat,c=(j+1)*128:=⟨_,rfl⟩;obtain⟨z,hz⟩:∃z:Nat,z=4*n:=⟨_,rfl⟩;obtain⟨y,hy⟩:∃y:Nat,y=4*n+j:=⟨_,rfl⟩;have uY:(aK s)[j]? =some (s.extract a c):=by
     rw[ha,hc]
     match j,aI with
     | 0,_=>rfl
     | 1,_=>rfl
     | 2,_=>rfl
     | 3,_=>rfl
    obtain⟨D',r,hw⟩:∃D' r,Di.write ((4*n+j:Nat):Int) (s.extract a c)=(D',r):=⟨_,_,rfl⟩;have gr:r=0\/((r==0)=false/\(r != 0)=true/\r≠0):=by
     by_cases h9:r=0
     ·exact .inl h9
     ·exact .inr ⟨by rw[beq_eq_false_iff_ne];exact h9,by simpa using h9,h9⟩
    have HDW:=sh (show Calls prog 118 #[ptr g,.int .i64 y,.string (s.extract a c)] wr.drew (gl g Si D' (.int .i64 r) wr.drew) from by
     rw[hy];exact fe (hW.dev.off ((ah.refl [] wr).drew) (by simp)) ((4*n+j:Nat):Int) (s.extract a c) D' r (by have:=hW.steps;omega) (by rw[gw ON.out uY];unfold maxLen;omega) hw)
    have oc:=sh fun(w':AI) (S':List Nat) (hd:Dev w' g S' D') (ho:ah Si wr w') (hf:aj wr Si S')=>hW.next uY ON.out aI A8 hw hd ho hf;have OX:∀W,ah Si wr W->W.cell? ⟨q,0,none⟩=some (ptr g)/\W.cell? ⟨w.heap.size,1,none⟩=some (.int .i64 n):=fun W hW9=>by
     obtain⟨sl',lg',QL⟩:=hW.pg;obtain⟨cs,k1,k2⟩:=hW.cell;exact⟨(hW9.bk QL.cells (hW.ap q QL.zm.1)).cell 0,((hW9.bk k1 hW.apc.1).cell 1).trans k2⟩
    have lqr:q<wr.heap.size:=by
     obtain⟨sl',lg',QL⟩:=hW.pg;exact QL.cells.lt
    have lpr:w.heap.size<wr.heap.size:=by
     obtain⟨cs,k1,k2⟩:=hW.cell;exact k1.lt
    have HKC:=sh OX;have p1:(j:Int)*128=(a:Int):=by rw[ha];push_cast;rfl
    have p2:((j:Int)+1)*128=(c:Int):=by rw[hc];push_cast;rfl
    have p3:(4:Int)*(n:Int)=(z:Int):=by rw[hz];push_cast;rfl
    have p4:(z:Int)+(j:Int)=(y:Int):=by rw[hz,hy];push_cast;rfl
    have w1:IntKind.i64.wrap (a:Int)=a:=by rw[acC];omega
    have w2:IntKind.i64.wrap (c:Int)=c:=by rw[acC];omega
    have XF:IntKind.i64.wrap (z:Int)=z:=by rw[acC];omega
    have w4':IntKind.i64.wrap (y:Int)=y:=by rw[acC];omega
    have w5':IntKind.i64.wrap ((j:Int)+1)=(j:Int)+1:=by rw[acC];omega
    have w6':IntKind.i64.wrap (j:Int)=(j:Int):=by rw[acC];omega
    have b1:(0:Int)<=(a:Int):=by omega
    have b2:(a:Int)<=(c:Int):=by omega
    have b3:(c:Int)<=(s.size:Int):=by have:=ON.out;omega
    have b4:a<=c:=by omega
    have b5:c<=s.size:=by have:=ON.out;omega
    have HW:=sh hW;clear OX hw hW hI ha hc hz hy uY;rcases gr with rfl|⟨e1,e2,e3⟩
    ·go_wp2_with fail
     go_region_held3 (fun W=>W.cell? ⟨q,0,none⟩=some (ptr g)/\W.cell? ⟨w.heap.size,1,none⟩=some (.int .i64 n)) (first|exact HKC.out _ (ah.refl _ _).drew|exact HKC.out _ CV.out)
      (first
      | (go_at_call 118;refine HDW.out.mono ?_;rintro e v1 ⟨rfl,S1,ZQ,Gd,ZW⟩;have CV:=sh (((ah.refl Si wr).drew).trans Gd))
      | fail)
     all_goals
      have PD:=sh (show ∃Si Di,Written g q S T D P s n w (T++[gg]) (j+1) v1 Si Di from ⟨S1,D',(oc.out v1 S1 ZQ CV.out (ZW.mono (by simp))).1 (by first|exact trivial|rfl)⟩);clear ZQ Gd ZW CV;go_wp2_with fail
      go_roundw
      case rel=>first|exact⟨j+1,by go_num,by omega,PD⟩|((repeat apply Exists.intro);exact⟨⟨j+1,by go_num,by omega,PD⟩,rfl⟩)
      case measure=>simp[intOf];omega
    ·go_wp2_with fail
     go_region_held3 (fun W=>W.cell? ⟨q,0,none⟩=some (ptr g)/\W.cell? ⟨w.heap.size,1,none⟩=some (.int .i64 n)) (first|exact HKC.out _ (ah.refl _ _).drew|exact HKC.out _ CV.out)
      (first
      | (go_at_call 118;refine HDW.out.mono ?_;rintro e v1 ⟨rfl,S1,ZQ,Gd,ZW⟩;have CV:=sh (((ah.refl Si wr).drew).trans Gd))
      | fail)
     all_goals
      have PD:=sh ((oc.out v1 S1 ZQ CV.out (ZW.mono (by simp))).2 e3);clear ZQ Gd ZW CV e3;go_wp2_with fail
      go_ret
      exact PD.out
   ·have z5:decide ((j:Int)<4)=false:=decide_eq_false (by omega)
    have z6:decide (j<4)=false:=decide_eq_false aI;have hj4:j=4:=by omega
    have HE:=sh (show jq g q S T (D.writeL (4*n) (aK s)).1 (P.ep n) (D.writeL (4*n) (aK s)).2 w (.returned (.int .i64 0)) wr from by subst hj4;exact hW.done);clear hW hI hj4;go_wp2_with fail
    go_ret
    exact HE.out
end Go.Proofs.YtjbcbnemdhbhbaaGreatDoor
