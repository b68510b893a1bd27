import Derived.Test.YtjbcbnemdhbhbaaGreatDoorB14
import Derived.Test.YtjbcbnemdhbhbaaGreatDoorB5
set_option maxRecDepth 100000
set_option linter.unusedVariables false
set_option linter.unusedSimpArgs false
set_option maxHeartbeats 40000000
open Go renaming World→AI
open Go.Lib renaming hid→sh
open Go.RowKit renaming Below→No
open Go.RowKit.Below renaming refl→IN
open Nat renaming le_refl→AS,zero_add→abU,zero_le→abc
namespace Go.Proofs.YtjbcbnemdhbhbaaGreatDoor
open Go.Proofs.Tryz
open Go.RowKit
def Kw (l:List (Nat×Nat)) (w:AI) (e:Ending) (w':AI):Prop:=No w.heap.size w w'/\∃(A:Option Addr) (c:Nat),e= .returned (.slice A l.length c)/\gL w' w.heap.size (.slice A l.length c) l
theorem Ia(W:AI):(binOp .eql 49 (.slice none 0 0) (.slice none 0 0)).run prog W= .ok (.bool true) W:=run_eql_nil_slice W 49 62 none 0 0 0 0 underlying49
theorem gL.nil(w:AI)(B:Nat):gL w B (.slice none 0 0) []:=World.ownsRow_nil _ _ _ _
theorem ta{w:AI}{A:Option Addr}{c:Nat}{l:List (Nat×Nat)}(h:fX w A l)(h1:l.length<=c)(h2:c<=maxLen)(hl:l.length<=10000)(Av:A=none->c=0):Calls prog 102 #[.slice A l.length c] w (Kw l w):=by
 obtain⟨i0,hi,ef,dK,dY⟩:=info_parts mI;have dC:c<=9223372036854775807:=by unfold maxLen at h2;omega
 cases A with
 | none=>
  have O0:l=[]:=by
   cases l with
   | nil=>rfl
   | cons x t=>obtain⟨b,o,hA,-⟩:=h.at 0 (by simp);cases hA
  subst O0;obtain rfl:=Av rfl;have heq:∀W:AI,(binOp .eql 49 (.slice none 0 0) (.slice none 0 0)).run prog W= .ok (.bool true) W:=fun W=>Ia W;go_enter func102,ntmps102
  go_wp2_with fail
  go_ret
  exact⟨IN _ _,none,0,rfl,gL.nil _ _⟩
 | some ad=>
  have IJ:∀W,Sem.run prog (binOp BinOp.eql 49 (.slice (some ad) l.length c) (.slice none 0 0)) W= .ok (.bool false) W:=fun W=>by kernel_rfl
  have zu:=sh (show (w.alloc (.cells #[] 62)).ownsRow w.heap.size 62 2 (.slice (some ⟨w.heap.size,0,none⟩) 0 0) 0 [] from World.ownsRow_lit w #[] 0 (AS _) (abc _) rfl);have KF:=sh (show ∀a,some ad=some a->∀(j:Nat) (u:Value),(aN l)[j]? =some u->(w.alloc (.cells #[] 62)).cell? (a.add j)=some u from fun a ha j u hu=>by
   obtain⟨b,o,hA,hb,hc⟩:=h j u hu;rw[ha]at hA;injection hA with hA;subst hA;rw[bI];exact(((IN w.heap.size w).alloc (AS _) _).cell (p:=⟨b,o+j,none⟩) hb).trans hc)
  obtain⟨n,hn⟩:∃n,n=l.length:=⟨_,rfl⟩;have HN:=sh hn;rw[<-hn]at h1 hl IJ |-;clear h hn;go_enter func102,ntmps102
  go_wp2_with (at_builtin;refine aD _ rfl (.tmp 5) (.tmp 6) 49 rfl w.heap.size 62 i0 _ 2 16 underlying49 hi ef dK dY rfl (by omega) (.slice (some ⟨w.heap.size,0,none⟩) 0 0) 0 [] rfl zu.out (some ad) n c (aN l) rfl (by rw[HN.out];exact cH l) (fun hh=>by cases hh) KF.out (mB l) (by unfold maxLen;omega) (by omega) (by simp) ?_;intro A3 c3 w3 aw aF)
  have jZ:=sh (show gL w3 w.heap.size (.slice A3 n c3) l by
   unfold gL;rw[abU,List.nil_append]at aw;rw[<-HN.out];exact aw)
  have dN:=sh (((ah.ae ((IN _ w).alloc (AS _) (.cells #[] 62)) []).grown aF (fun g hg=> .inr (zu.out.lt g hg).1)).below (AS _) (by simp));clear aw aF;have hz:(0:Nat)+n=n:=abU n;go_wp2_with fail
  go_ret
  exact⟨dN.out,A3,c3,by rw[<-HN.out];exact congrArg (fun k=>Ending.returned (.slice A3 k c3)) (by omega),by rw[<-HN.out];exact jZ.out⟩
theorem LL{w:AI}{f:Nat}{S:List Nat}{l:List (Nat×Nat)}(h:FL w f S l)(hl:l.length<=10000):Calls prog 61 #[.pointer (some ⟨f,0,none⟩)] w (Kw l w):=by
 obtain⟨⟨A,c,h1,h2,h3,h4,h5,h8⟩,h6,h7⟩:=h;have c0:=(h1.cell 0).trans (bu A c l);have lf:=h1.lt;have HC:=sh (ta h2 h3 h4 hl h8);clear h1 h2 h5 h6 h7 h8 hl h3 h4;go_enter func61,ntmps61
 go_wp2_with fail
 refine HC.out.mono ?_;rintro e w1 ⟨hb,A3,c3,rfl,ho⟩;have HB:=sh hb;have HO:=sh ho;clear hb ho;go_wp2_with fail
 go_ret
 exact⟨HB.out,A3,c3,rfl,HO.out⟩
def PH (n:Nat) (w:AI) (e:Ending) (w':AI):Prop:=∃q:Bool,e= .returned (.tuple #[.int .i64 n,.bool q])/\No w.heap.size w w'
theorem Ak{w:AI}{A:Option Addr}{c:Nat}{l:List (Nat×Nat)}(h:fX w A l)(hs:Fr.Sorted l)(hl:l.length<=1000)(x:Nat×Nat):
  Calls prog 215 #[.slice A l.length c,.agg #[.int .i64 x.1,.int .i64 x.2],.func (.func 216) #[] #[]] w (PH (Fr.spot l x) w):=by
 have HO:=sh fun(a b:Nat×Nat) (W:AI)=>tj a b W;have HP:=sh (Fr.hJ l x);have CJ:=sh (Fr.gj l x);have pE:=sh (fun i=>Fr.iJ hs x i);have HF:=sh h;have HT:Hid (∀W,No (w.heap.size+1) (w.alloc (.cells #[.int .i64 x.1,.int .i64 x.2] 62)) W->W.cell? ⟨w.heap.size,0,none⟩=some (.int .i64 x.1)/\W.cell? ⟨w.heap.size,1,none⟩=some (.int .i64 x.2)/\fX W A l):=fun W hW=>by
  have h1:=af (Bk.new w 62 #[.int .i64 x.1,.int .i64 x.2]) (w':=W) (by simpa using hW);exact⟨h1.cell 0,h1.cell 1,(h.below ((IN _ w).alloc (AS _) _)).below (by simpa using hW)⟩
 obtain⟨n,hn⟩:∃n,n=l.length:=⟨_,rfl⟩;obtain⟨p,hp⟩:∃p,p=Fr.spot l x:=⟨_,rfl⟩;have HN:=sh hn;rw[<-hn]at hl HP |-;rw[<-hp]at HP CJ pE |-;clear h hs hn hp;go_enter func215,ntmps215
 go_wp2_with fail
 go_loopw [9,10] (fun i j wr=>∃(a b:Nat),i= .int .i64 a/\j= .int .i64 b/\a<=p/\p<=b/\b<=n/\Hid (No (w.heap.size+1) (w.alloc (.cells #[.int .i64 x.1,.int .i64 x.2] 62)) wr)) (fun i j _=>(intOf j).toNat-(intOf i).toNat)
 case atStart=>exact⟨0,n,rfl,rfl,abc _,HP.out,AS _,sh (IN _ _)⟩
 case round=>
  obtain⟨a,b,rfl,rfl,ha,hb,Xg,HB⟩:=hrel;by_cases aI:a<b
  ·have og:a<=(a+b)/2:=by omega
   have mF:(a+b)/2<b:=by omega
   have z1:decide ((a:Int)<(b:Int))=true:=decide_eq_true (by omega);have z2:decide (a<b)=true:=decide_eq_true aI;have nQ:(a+b)/2<n:=by omega
   have hi0:(0:Int)<=((a:Int)+(b:Int))/2:=by omega
   have Md:((a:Int)+(b:Int))/2<(n:Int):=by omega
   have Xm:(((a:Int)+(b:Int))/2).toNat=(a+b)/2:=by omega
   obtain⟨bb,o,hA,lb,q0,q1⟩:=(HT.out wr HB.out).2.2.at ((a+b)/2) (by rw[<-HN.out];omega);obtain⟨y,hy⟩:∃y,y=l[(a+b)/2]'(by rw[<-HN.out];omega):=⟨_,rfl⟩;have HY:=sh hy;rw[<-hy]at q0 q1;have bH:=sh (show ∀W,No wr.heap.size wr W->W.cell? ⟨w.heap.size,0,none⟩=some (.int .i64 x.1)/\W.cell? ⟨w.heap.size,1,none⟩=some (.int .i64 x.2)/\W.cell? ⟨bb,o+(a+b)/2*2,none⟩=some (.int .i64 y.1)/\W.cell? ⟨bb,o+(a+b)/2*2+1,none⟩=some (.int .i64 y.2) from fun W hW=>by
    have h1:=HT.out W (HB.out.trans (hW.mono (by have:=HB.out.size;simpa using this)));exact⟨h1.1,h1.2.1,(hW.cell (p:=⟨bb,o+(a+b)/2*2,none⟩) lb).trans q0,(hW.cell (p:=⟨bb,o+(a+b)/2*2+1,none⟩) lb).trans q1⟩)
   have od:=Fr.Lw y x;have zl:Fr.lt y x=true->(a+b)/2<p:=fun hq=>by
    by_cases hh:(a+b)/2<p
    ·exact hh
    ·have:=pE.out ((a+b)/2) (by omega) (by rw[<-HN.out];omega)
     rw[<-HY.out,hq]at this;cases this
   have km:Fr.lt y x=false->p<=(a+b)/2:=fun hq=>by
    by_cases hh:(a+b)/2<p
    ·have:=CJ.out ((a+b)/2) hh (by rw[<-HN.out];omega)
     rw[<-HY.out,hq]at this;cases this
    ·omega
   clear hy q0 q1;subst hA;cases hq:Fr.lt y x
   all_goals
    rw[hq]at od;have ala:=od.symm;have HU:=sh (show (Fr.lt y x=true->(a+b)/2<p)/\(Fr.lt y x=false->p<=(a+b)/2) from ⟨zl,km⟩);have HQ:=sh hq;clear od zl km hq;go_wp2_with fail
    go_region_held3 (fun W=>W.cell? ⟨w.heap.size,0,none⟩=some (.int .i64 x.1)/\W.cell? ⟨w.heap.size,1,none⟩=some (.int .i64 x.2)/\W.cell? ⟨bb,o+(a+b)/2*2,none⟩=some (.int .i64 y.1)/\W.cell? ⟨bb,o+(a+b)/2*2+1,none⟩=some (.int .i64 y.2)) (first|(refine bH.out _ ?_;with_reducible (first|exact(IN _ _).drew|exact J3.out))|fail) (first
    | (go_at_call 216;(with_reducible refine(HO.out _ _ _).mono ?_);rintro e w1 ⟨rfl,ar⟩;have J3:=sh (show No wr.heap.size wr w1 from (IN _ _).drew.trans ar);clear ar))
    all_goals
     go_wp2_with fail
     go_roundw
     case rel=>first
      | exact⟨(a+b)/2+1,b,by go_num,rfl,(by have:=HU.out.1 HQ.out;omega),hb,Xg,sh (HB.out.trans (J3.out.mono (by have:=HB.out.size;simpa using this)))⟩
      | exact⟨a,(a+b)/2,rfl,by go_num,ha,(by have:=HU.out.2 HQ.out;omega),by omega,sh (HB.out.trans (J3.out.mono (by have:=HB.out.size;simpa using this)))⟩
     case measure=>simp[intOf];omega
  ·obtain rfl:a=p:=by omega
   have z1:decide ((a:Int)<(b:Int))=false:=decide_eq_false (by omega);have z2:decide (a<b)=false:=decide_eq_false aI;have ZH:=HB.out.size;simp at ZH;by_cases han:a<n
   ·have z3:decide ((a:Int)<(n:Int))=true:=decide_eq_true (by omega)
    have z4:decide (a<n)=true:=decide_eq_true han;obtain⟨bb,o,hA,lb,q0,q1⟩:=(HT.out wr HB.out).2.2.at a (by rw[<-HN.out];exact han);obtain⟨y,hy⟩:∃y,y=l[a]'(by rw[<-HN.out];exact han):=⟨_,rfl⟩;rw[<-hy]at q0 q1;have bH:=sh (show ∀W,No wr.heap.size wr W->W.cell? ⟨w.heap.size,0,none⟩=some (.int .i64 x.1)/\W.cell? ⟨w.heap.size,1,none⟩=some (.int .i64 x.2)/\W.cell? ⟨bb,o+a*2,none⟩=some (.int .i64 y.1)/\W.cell? ⟨bb,o+a*2+1,none⟩=some (.int .i64 y.2) from fun W hW=>by
     have h1:=HT.out W (HB.out.trans (hW.mono (by have:=HB.out.size;simpa using this)));exact⟨h1.1,h1.2.1,(hW.cell (p:=⟨bb,o+a*2,none⟩) lb).trans q0,(hW.cell (p:=⟨bb,o+a*2+1,none⟩) lb).trans q1⟩)
    clear hy q0 q1;subst hA;go_wp2_with fail
    go_region_held3 (fun W=>W.cell? ⟨w.heap.size,0,none⟩=some (.int .i64 x.1)/\W.cell? ⟨w.heap.size,1,none⟩=some (.int .i64 x.2)/\W.cell? ⟨bb,o+a*2,none⟩=some (.int .i64 y.1)/\W.cell? ⟨bb,o+a*2+1,none⟩=some (.int .i64 y.2)) (first|(refine bH.out _ ?_;with_reducible (first|exact(IN _ _).drew|exact J3.out))|fail) (first
     | (go_at_call 216;(with_reducible refine(HO.out _ _ _).mono ?_);rintro e w1 ⟨rfl,ar⟩;have J3:=sh (show No wr.heap.size wr w1 from (IN _ _).drew.trans ar);clear ar))
    all_goals
     go_wp2_with fail
     go_ret2
     exact⟨_,rfl,((IN _ w).alloc (AS _) _).trans ((HB.out.mono (by omega)).trans (J3.out.mono (by omega)))⟩
   ·have z3:decide ((a:Int)<(n:Int))=false:=decide_eq_false (by omega)
    have z4:decide (a<n)=false:=decide_eq_false han;go_wp2_with fail
    go_quiet (fail)
    go_wp2_with fail
    go_ret2
    exact⟨_,rfl,below_drewN (((IN _ w).alloc (AS _) _).trans (HB.out.mono (by omega))) _⟩
end Go.Proofs.YtjbcbnemdhbhbaaGreatDoor
