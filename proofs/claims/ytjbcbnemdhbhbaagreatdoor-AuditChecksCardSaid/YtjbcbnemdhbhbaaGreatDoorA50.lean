import Derived.Test.YtjbcbnemdhbhbaaGreatDoorA17
import Derived.LoopN
import Derived.Test.YtjbcbnemdhbhbaaGreatDoorA12
import Derived.Test.YtjbcbnemdhbhbaaGreatDoorA8
import Derived.Test.YtjbcbnemdhbhbaaGreatDoorA13
import Derived.Test.YtjbcbnemdhbhbaaGreatDoorA6
import Derived.Test.YtjbcbnemdhbhbaaGreatDoorA1
import Derived.ProofKit
import Derived.OpenShut
import Derived.ShutString
import Derived.ChangeOld
import Derived.SliceStrings
import Derived.Deep.SlicePairs
set_option maxRecDepth 100000
set_option linter.unusedVariables false
set_option linter.unusedSimpArgs false
set_option maxHeartbeats 40000000
open ByteArray renaming size_extract→agq
open Go renaming Calls→aaf,Ending→acb,Value→No,World→AI,bodyPost_ret→abT,maxLen→abj,rounds_succ→abF
open Go.IntKind renaming wrap_i64→acz
open Go.IntWalk renaming wrap64_in→aeC
open Go.Lib renaming hid→sh
open Go.RowKit renaming Below→IT
open Go.RowKit.Below renaming refl→BY
open Go.Value renaming int→acs
open Go.World.ownsRow renaming frozenAt→adR,lt→abq,stored→aec
open List renaming append_assoc→aaa,append_nil→acP,drop_eq_getElem_cons→abM,flatMap_cons→abH,flatMap_map→afU,getElem?_append_left→acd,getElem?_append_right→abU,getElem?_eq_getElem→aaG,getElem?_eq_some_iff→abB,getElem_cons_zero→acQ,getElem_mem→abE,length→agb,length_cons→abv,length_drop→abQ,length_map→IS,length_set→aen,length_take→abx,map_append→abI,map_cons→acm,mem_append→By,mem_cons→OF,mem_flatMap→abr,mem_map→abK,mem_map_of_mem→abO,mem_singleton→IN,nodup_append→aag,perm_append_comm→adu,set_eq_take_append_cons_drop→ahj,sum_append→adX,take_append_drop→abm,take_of_length_le→aca
open List.Pairwise renaming nil→aey
open List.Perm renaming append_left→ace
open List.cons renaming injEq→adx
open Nat renaming add_zero→adh,le_add_right→agK,le_refl→AS,le_trans→abw,lt_of_lt_of_le→aal,sub_self→agj,zero_add→abR,zero_le→abi,zero_mul→adA
open Option renaming some→aev
open Option.some renaming injEq→acx
namespace Go.Proofs.YtjbcbnemdhbhbaaGreatDoor
open Go.Proofs.Tryz
open Go.RowKit
theorem tS{p:ay}(hp:cR p){fc:Nat}{dx:Array No}{w0:AI}{S0:List Nat}{σ0:ag}{X:List Nat}{f:List En->List En}{iK:Bool}(key:ByteArray)(hf:Tr.eJ key f)(yZ:pV p fc dx w0 S0 σ0 X iK key f):∀d,yv p fc dx w0 S0 σ0 X iK f key d
 | 0=>AK hp key hf yZ
 | d+1=>vT hp key hf d (tS hp key hf yZ d)
def DF (p:ay) (S:List Nat) (σ :ag) (k d0:Nat) (P:List Nat) (L:List En) (w:AI) (v:No) (w':AI):Prop:=
 ∃(r:Rw) (d:Nat) (cs:List Ce) (P':List Nat) (σ':ag) (S':List Nat) (k':Nat),v= .slice r.A r.n r.c/\gF w' (Cl 0 S') r [⟨⟨#[]⟩,d==0,cs⟩]/\Tr.Part σ' d cs P' L/\Nd.sum (d==0) cs<=488/\Tr.aE (if d=0 then 0 else Tr.rE d0 2) σ P σ' P'/\p.At w' S' σ' k'/\(k<=k'+2/\(d=0->d0=0))/\ah S w w'/\aj w S S'
def aZ (p:ay) (S:List Nat) (σ :ag) (k c n:Nat) (Q:List Nat) (L:List En) (w:AI) (e:acb) (w':AI):Prop:=
 (∃(root:Nat) (P':List Nat) (σ':ag) (S':List Nat) (k':Nat),e= .returned (.tuple #[.int .i64 root,.int .i64 0])/\Tr.dt σ' root P' L/\Tr.aE n σ Q σ' P'/\p.At w' S' σ' k'/\k<=k'+c/\ah S w w'/\aj w S S')\/Full p S w w' e (.returned (.tuple #[.int .i64 0,.int .i64 9]))
abbrev ki (p:ay) (S:List Nat) (σ :ag) (k c:Nat) (Q:List Nat) (L:List En) (w:AI) (e:acb) (w':AI):Prop:=aZ p S σ k c 2 Q L w e w'
theorem Hh{p:ay}(hp:cR p){w:AI}{S:List Nat}{σ :ag}{k:Nat}(h:p.At w S σ k){d:Nat}{ps:List Pt}{P:List Nat}{L:List En}{xs:List Tr.Pd}{r:Rw}(EE:Tr.Parts σ d ⟨#[]⟩ ps P L xs)(hP:P.Nodup)(hr:gF w (Cl 0 S) r ps)(hk:p.F\/4<=k):
  aaf prog 161 #[.iface p.T p.v,.slice r.A r.n r.c] w (aZ p S σ k 4 (Tr.rE d 2) P L w):=by
 obtain⟨A,n,cap⟩:=r;have iT:=hr;obtain⟨h1,h2,h3,-⟩:=iT;simp only at h1 h2 h3 |-;have iS:ps.length=xs.length:=by rw[EE.WA,IS]
 rw[iS]at h1;subst h1;have cI:cap<=9223372036854775807:=by unfold abj at h3;omega
 have yB:=sh EE;have HR:=sh hr;have HA:=sh h;have HK:=sh hk;have HP:=sh hP;have m9:=sh iS;clear EE hr h hk h3 hP iS;go_enter func161,ntmps161
 go_upto_block 0 with fail
 go_cut [1] (fun v wx=>DF p S σ k d P L w v wx)
 case first=>
  have IU:(xs.length=1/\decide ((1:Int)<(xs.length:Int))=false)\/(xs.length=2/\decide ((1:Int)<(xs.length:Int))=true):=by
   rcases yB.out.count with h|h
   ·exact .inl ⟨h,decide_eq_false (by omega)⟩
   ·exact .inr ⟨h.1,decide_eq_true (by omega)⟩
  rcases IU with⟨hc,z1⟩|⟨hc,z1⟩
  ·obtain⟨x,hx,BQ,hxP,hxL,TH,Dm,EL⟩:=yB.out.one hc
   have HW:=sh (show DF p S σ k d P L w (.slice A xs.length cap) w from ⟨⟨A,xs.length,cap⟩,d,x.cs,x.P,σ,S,k,rfl,by rw[<-TH];exact HR.out,by rw[hxL];exact EL,Dm,by rw[<-hxP];exact(Tr.aE.refl (fun n hn=>by rw[hxP]at hn;exact(EL.mem n hn).2.2) HP.out).more (abi _),HA.out,⟨by omega,id⟩,ah.refl _ _,aj.refl _ _⟩);clear hc hx BQ hxP hxL TH Dm EL;go_wp2_with fail
   refine wp_loop_rounds 1 ?_;rw[abF];go_wp2_with fail
   go_meet
   exact HW.out
  ·have hg:∀x∈xs,Tr.Good (d==0) x.cs x.L/\Tr.Hp d x.L:=by
    rcases yB.out.count with h|h
    ·omega
    ·exact h.2
   have o5:=HR.out;rw[yB.out.WA]at o5;have hN:(xs.flatMap (·.P)).Nodup:=by rw[<-yB.out.aa];exact HP.out
   have W0:=sh (uO hp HA.out hN (fun x hx=>⟨(yB.out.each x hx).2.2,(yB.out.each x hx).2.1,(hg x hx).1⟩) o5 (abi _) (HK.out.imp id (fun _=>by omega)) (by omega));have HC:=sh hc;have M7:0<xs.length:=by omega
   have HG:=sh hg;clear hc hg o5 hN;go_wp2_with fail
   refine wp_loop_rounds 2 ?_;rw[abF];go_wp2_with fail
   refine W0.out.mono ?_;rintro e w6 (⟨A',c',kS,σ',rfl,cQ,su,BL,Bu,S6,ku,iW,jA,Ex⟩|⟨hF,rfl,σ',S6,ku,iW,jA⟩)
   ·have Ep:kS.length=2:=by
     have:=congrArg agb su;rw[IS,IS,HC.out]at this;exact this
    obtain⟨g6,rfl,Z8,Z9,-,Vp,Em⟩:=cQ.full (by rw[IS];omega);have uC:=cQ.here (Ex g6 rfl);obtain⟨x0,t0,Dl,BQ⟩:=yB.out.head;have Gz:Tr.Kids σ' d kS:=by
     refine⟨?_,by rw[su];exact yB.out.sep,fun k0 mL=>⟨⟨?_,?_⟩,BL k0 mL⟩⟩
     ·cases kS with
      | nil=>simp at Ep
      | cons k0 t=>
       refine⟨k0,t,rfl,?_⟩;rw[Dl]at su;simp only[acm,adx]at su;have:=congrArg Prod.fst su.1;simp only[Kd.rg,Tr.Pd.rg]at this;rw[this,BQ]
     ·have:k0.rg∈xs.map Tr.Pd.rg:=by rw[<-su];exact abO mL
      obtain⟨y,hy,e⟩:=abK.1 this;have e1:=congrArg Prod.fst e;simp only[Kd.rg,Tr.Pd.rg]at e1;rw[<-e1];exact(yB.out.each y hy).1
     ·have:k0.rg∈xs.map Tr.Pd.rg:=by rw[<-su];exact abO mL
      obtain⟨y,hy,e⟩:=abK.1 this;have e1:=congrArg Prod.snd e;simp only[Kd.rg,Tr.Pd.rg]at e1;rw[<-e1];exact(HG.out y hy).2
    have Zh:kS.flatMap (·.L)=L:=by
     have e1:∀(l:List Kd),l.flatMap (·.L)=(l.map Kd.rg).flatMap (·.2):=fun l=>by rw[afU];rfl
     have e2:∀(l:List Tr.Pd),l.flatMap (·.L)=(l.map Tr.Pd.rg).flatMap (·.2):=fun l=>by rw[afU];rfl
     rw[yB.out.nV,e1,e2,su]
    have cJ:Tr.Part σ' (d+1) (kS.map Kd.cell) (kS.flatMap (·.P)) L:=by have:=Gz.part;rwa [Zh]at this
    have dL:Nd.sum false (kS.map Kd.cell)<=488:=by
     obtain⟨a,b,e⟩:∃a b,kS=[a,b]:=by
      match kS,Ep with
      | [a,b],_=>exact⟨a,b,rfl⟩
     have h1:=(Gz.each a (by rw[e];simp)).1.1;have h2:=(Gz.each b (by rw[e];simp)).1.1;rw[e];simp[Nd.sum,Tr.pC];omega
    have HPO:=sh (mS ⟨#[]⟩ false ⟨some ⟨g6,0,none⟩,kS.length,c'⟩ (kS.map Kd.cell) (Cl 0 S6) w6 uC cJ.right.2 dL);have oF:=sh uC;have HW:=sh (show ∀(g:Nat) (w8:AI),IT w6.heap.size w6 w8->w6.heap.size<=g->Bk w8 g 319 #[.string ⟨#[]⟩,.bool false,.slice (some ⟨g6,0,none⟩) kS.length c']->DF p S σ k d P L w (.slice (some ⟨g,0,none⟩) 1 1) w8 from fun g w8 ng hg8 Gy=>
     ⟨⟨some ⟨g,0,none⟩,1,1⟩,d+1,kS.map Kd.cell,_,σ',S6,_,rfl,gF.lit (x:=⟨⟨#[]⟩,d+1==0,kS.map Kd.cell⟩) (q:=⟨some ⟨g6,0,none⟩,kS.length,c'⟩) Gy ⟨abi _,fun hh=>by have:=hp.old ku g hh;omega⟩ (uC.below ng),cJ,dL,by rw[yB.out.aa];exact Bu.more (by rw[if_neg (Nat.succ_ne_zero d),HC.out];exact AS _),hp.below ku ng,⟨by rw[HC.out];omega,fun h=>absurd h (Nat.succ_ne_zero d)⟩,iW.trans (ah.af ng S),jA⟩)
    have T6:=sh Ep;clear uC cJ dL Zh Gz Dl BQ cQ su BL Bu ku iW jA Ex Ep Em;go_wp2_with fail
    refine HPO.out.mono ?_;rintro e w8 ⟨ng,g8,hg8,rfl,Gy⟩;have HW8:=sh (HW.out g8 w8 ng hg8 Gy);clear ng hg8 Gy;go_wp2_with fail
    rw[abF];go_wp2_with fail
    go_meet
    exact HW8.out
   ·have bX:=sh (show aZ p S σ k 4 (Tr.rE d 2) P L w (.returned (.tuple #[.int .i64 0,.int .i64 9])) w6 from .inr ⟨hF,rfl,σ',S6,ku,iW,jA⟩)
    clear ku iW jA;go_wp2_with fail
    go_ret2
    exact bX.out
 case rest=>
  obtain⟨r1,d1,cs,P1,σ1,S1,k1,rfl,o5,cJ,dL,jJ,cG,dy,bB,bU⟩:=hcut;obtain⟨dy,ZO⟩:=dy;have I4:(if d1=0 then 0 else Tr.rE d 2)+Tr.rE d1 1<=Tr.rE d 2:=by
   unfold Tr.rE;by_cases e:d1=0
   ·rw[if_pos e,if_pos e,if_pos (ZO e)];omega
   ·rw[if_neg e,if_neg e];exact AS _
  have My:=jJ.more (abw (agK _ _) I4);have adj:=sh I4;clear I4 ZO;obtain⟨rA,rn,rc⟩:=r1;obtain⟨bp,op,Za,Zr,qp,p0,p1,p2,vJ⟩:=o5.at 0 (by simp);simp only at Za;subst Za;simp only[acQ,adA,adh]at p0 p1 p2 vJ;have Tu:rn=1:=o5.1;subst Tu;have afH:rc<=9223372036854775807:=by have h:=o5.2.2.1;simp only at h;unfold abj at h;omega
  have al7:1<=rc:=o5.2.1;have ZE:=Zr.2;have Pr:qp.n=cs.length:=vJ.1;have hqm:qp.c<=9223372036854775807:=by have h:=vJ.2.2.1;unfold abj at h;omega
  have ry:=vJ.2.1;have ni:cs.length<=1000:=by have:=Nd.ey (d1==0) cs;omega
  have fh:(cs=[]/\d1=0)\/(∃d2,d1=d2+1/\cs.length=1)\/Tr.Good (d1==0) cs L:=by
   cases d1 with
   | zero=>
    obtain⟨e1,-⟩:=cJ;cases L with
    | nil=>exact .inl ⟨e1,rfl⟩
    | cons a t=>exact .inr (.inr ⟨List.cons_ne_nil _ _,fun h=>by cases h⟩)
   | succ d2=>
    obtain⟨ks,hB,e1,e2,e3⟩:=Tr.Kids.mQ cJ;obtain⟨k0,t,e4,-⟩:=hB.first;subst e4;cases t with
    | nil=>exact .inr (.inl ⟨d2,rfl,by rw[e1];rfl⟩)
    | cons a t=>
     refine .inr (.inr ⟨?_,fun _=>by rw[e1];simp⟩);rw[e3,abH];have:=(hB.each k0 (by simp)).2.ne;simp[this]
  obtain⟨qA,qn,qc⟩:=qp;simp only at Pr hqm ry p2;subst Pr;rcases fh with⟨rfl,rfl⟩|⟨d2,rfl,sV⟩|hg
  ·obtain⟨e1,e2,-⟩:=cJ
   have hL:L=[]:=by simpa using e1.symm
   subst hL;have US:P1=[]:=by simpa using e2
   subst US;have HE:=sh (show aZ p S σ k 4 (Tr.rE d 2) P [] w (.returned (.tuple #[.int .i64 0,.int .i64 0])) (wc.alloc (.cells #[.string ⟨#[]⟩,.bool true,.slice qA 0 qc] 319)) from
    .inl ⟨0,[],σ1,S1,k1,rfl,.inl ⟨rfl,rfl,rfl⟩,My,hp.below cG ((BY _ _).alloc (AS _) _),by omega,bB.alloc _,bU⟩)
   clear o5 vJ e1 e2 jJ My cG bB bU;go_wp2_with fail
   go_ret2
   exact HE.out
  ·obtain⟨ks,hB,e1,e2,e3⟩:=Tr.Kids.mQ cJ
   obtain⟨k0,t,e4,-⟩:=hB.first;subst e4;have ht:t=[]:=by
    rw[e1]at sV;cases t with
    | nil=>rfl
    | cons a t=>simp at sV
   subst ht;have aX:=(hB.each k0 (by simp)).2;obtain⟨b3,o3,c3,Pq,aN,-,-⟩:=vJ.some (by omega);injection Pq with Pq hq4 hq5;subst Pq hq5;have Pj:=o7 (ks:=[k0]) (by rw[<-e1];exact vJ) 0 (by simp);simp only[adA,adh,acQ]at Pj;have u4:=Pj.2;have e2':P1=k0.P:=by rw[e2];simp
   have e3':L=k0.L:=by rw[e3];simp
   have HE:=sh (show aZ p S σ k 4 (Tr.rE d 2) P L w (.returned (.tuple #[.int .i64 k0.no,.int .i64 0])) (wc.alloc (.cells #[.string ⟨#[]⟩,.bool false,.slice (some ⟨b3,o3,none⟩) cs.length qc] 319)) from
    .inl ⟨k0.no,k0.P,σ1,S1,k1,rfl,.inr ⟨d2,by rw[e3'];exact aX⟩,by rw[<-e2'];exact My,hp.below cG ((BY _ _).alloc (AS _) _),by omega,bB.alloc _,bU⟩)
   have z1:((cs.length:Int)==0)=false:=by rw[sV];rfl
   have z2:((cs.length:Int)==1)=true:=by rw[sV];rfl
   have z3:(cs.length==0)=false:=by rw[sV];rfl
   have z4:(cs.length==1)=true:=by rw[sV];rfl
   have alg:0<cs.length:=by omega
   clear o5 vJ jJ My cG bB bU hB aX Pj sV cJ e1 e2 e3 e2' e3';go_wp2_with fail
   go_ret2
   exact HE.out
  ·have hN:([(⟨⟨#[]⟩,cs,P1,L⟩:Tr.Pd)].flatMap (·.P)).Nodup:=by simpa using jJ.nodup
   have gJ:IT wc.heap.size wc (wc.alloc (.cells #[.string ⟨#[]⟩,.bool (d1==0),.slice qA cs.length qc] 319)):=(BY _ _).alloc (AS _) _;have W0:=sh (uO hp (hp.below cG gJ) (d:=d1) (xs:=[⟨⟨#[]⟩,cs,P1,L⟩]) (r:=⟨some ⟨bp,op,none⟩,1,rc⟩) hN (fun x hx=>by
    obtain rfl:=IN.1 hx;exact⟨cJ,dL,hg⟩) (o5.below gJ) (abi _) (HK.out.imp id (fun _=>by show 1<=k1;omega)) (by simp))
   have xG:0<cs.length:=by
    cases d1 with
    | zero=>
     obtain⟨e1,-⟩:=cJ;cases hL:L with
     | nil=>exact absurd hL hg.1
     | cons a t=>rw[e1,hL];simp
    | succ d=>have:=hg.2 rfl;omega
   have z1:((cs.length:Int)==0)=false:=by rw[beq_eq_false_iff_ne];omega
   have z3:(cs.length==0)=false:=by rw[beq_eq_false_iff_ne];omega
   obtain⟨leaf,jX⟩:∃leaf,leaf=(d1==0):=⟨_,rfl⟩;have nw:leaf=true\/(leaf=false/\((cs.length:Int)==1)=false/\(cs.length==1)=false):=by
    cases hl:leaf with
    | true=>exact .inl rfl
    | false=>
     have:=hg.2 (by rw[<-jX,hl]);exact .inr ⟨rfl,by rw[beq_eq_false_iff_ne];omega,by rw[beq_eq_false_iff_ne];omega⟩
   rw[<-jX]at p1 W0;have ka:=sh (show Tr.aE (if d1=0 then 0 else Tr.rE d 2) σ P σ1 P1/\k<=k1+2/\ah S w wc/\aj w S S1 from ⟨jJ,dy,bB,bU⟩);have W8:=sh (show ∀b,ah S w (wc.alloc (.cells #[.string ⟨#[]⟩,.bool b,.slice qA cs.length qc] 319)) from fun b=>bB.alloc _);clear o5 vJ jJ My cG bB bU cJ dL hg hN gJ jX;rcases nw with rfl|⟨rfl,z5,z6⟩;all_goals
    go_wp2_with fail
    refine W0.out.mono ?_;rintro e w6 (⟨A',c',kS,σ',rfl,cQ,su,BL,Bu,S6,ku,iW,jA,Ex⟩|⟨hF,rfl,σ',S6,ku,iW,jA⟩)
    ·obtain⟨k0,rfl⟩:∃k0,kS=[k0]:=by
      have:=congrArg agb su;simp at this
      match kS,this with
      | [a],_=>exact⟨a,rfl⟩
     obtain⟨g6,rfl,Z8,Z9,-,Vp,Em⟩:=cQ.full (by simp);have Pj:=o7 (ks:=[k0]) cQ.as 0 (by simp);simp only[adA,adh,abR,acQ]at Pj;have u4:=Pj.2;have Sx:k0.L=L:=by
      simp only[acm,List.map_nil,adx,and_true]at su;have:=congrArg Prod.snd su;exact this
     have Wd:=BL k0 (by simp);rw[Sx]at Wd;have aay:Tr.aE (Tr.rE d 2) σ P σ' k0.P:=(ka.out.1.trans (show Tr.aE (Tr.rE d1 1) σ1 P1 σ' k0.P by simpa using Bu)).more adj.out;have aeR:c'<=9223372036854775807:=by unfold abj at Em;omega
     have ale:1<=c':=Vp;have HE:=sh (show aZ p S σ k 4 (Tr.rE d 2) P L w (.returned (.tuple #[.int .i64 k0.no,.int .i64 0])) w6 from
      .inl ⟨k0.no,k0.P,σ',S6,_,rfl,.inr ⟨d1,Wd⟩,aay,ku,by have:=ka.out.2.1;simp;omega,(W8.out _).then iW ka.out.2.2.2,ka.out.2.2.2.trans jA (W8.out _).size⟩)
     clear cQ su BL Bu ku iW jA Ex Pj Wd aay Sx Em;go_wp2_with fail
     go_ret2
     exact HE.out
    ·have HE:=sh (show aZ p S σ k 4 (Tr.rE d 2) P L w (.returned (.tuple #[.int .i64 0,.int .i64 9])) w6 from
      .inr ⟨hF,rfl,σ',S6,ku,(W8.out _).then iW ka.out.2.2.2,ka.out.2.2.2.trans jA (W8.out _).size⟩)
     clear ku iW jA;go_wp2_with fail
     go_ret2
     exact HE.out
theorem aZ.from{p:ay}{S S1:List Nat}{σ σ1:ag}{k k1 c c1 a b:Nat}{Q P1:List Nat}{L:List En}{w w1:AI}{e:acb}{w':AI}(hm:Tr.aE a σ Q σ1 P1)(hk:k<=k1+c1)(ho:ah S w w1)(hf:aj w S S1)(h:aZ p S1 σ1 k1 c b P1 L w1 e w'):aZ p S σ k (c1+c) (a+b) Q L w e w':=by
 rcases h with⟨root,P',σ',S',k',rfl,h1,h2,h3,h4,h5,h6⟩|⟨hF,rfl,σ',S',h1,h2,h3⟩
 ·exact .inl ⟨root,P',σ',S',k',rfl,h1,hm.trans h2,h3,by omega,ho.then h5 hf,hf.trans h6 ho.size⟩
 ·exact .inr ⟨hF,rfl,σ',S',h1,ho.then h2 hf,hf.trans h3 ho.size⟩
theorem aZ.letters{p:ay}{S:List Nat}{σ :ag}{k c n:Nat}{Q:List Nat}{L:List En}{w:AI}{e:acb}{w':AI}(h:aZ p S σ k c n Q L w e w'):∃a b:Int,e= .returned (.tuple #[.int .i64 a,.int .i64 b])/\Hid (aZ p S σ k c n Q L w (.returned (.tuple #[.int .i64 a,.int .i64 b])) w'):=by
 rcases h with⟨root,P',σ',S',k',rfl,h1⟩|⟨hF,rfl,h1⟩
 ·exact⟨root,0,rfl,sh (.inl ⟨root,P',σ',S',k',rfl,h1⟩)⟩
 ·exact⟨0,9,rfl,sh (.inr ⟨hF,rfl,h1⟩)⟩
theorem aZ.more{p:ay}{S:List Nat}{σ :ag}{k c c' n n':Nat}{Q:List Nat}{L:List En}{w:AI}{e:acb}{w':AI}(h:aZ p S σ k c n Q L w e w')(hc:c<=c')(hn:n<=n'):aZ p S σ k c' n' Q L w e w':=by
 rcases h with⟨root,P',σ',S',k',h0,h1,h2,h3,h4,h5⟩|h
 ·exact .inl ⟨root,P',σ',S',k',h0,h1,h2.more hn,h3,by omega,h5⟩
 ·exact .inr h
def Tr.ej (σ :ag) (c:Nat) (root:Nat) (P:List Nat) (L:List En):Prop:=(root=0/\P=[]/\L=[]/\4<=c)\/∃d,Tr.aD σ d root P L/\2*d+4<=c
theorem Tr.ej.root{σ :ag}{c root:Nat}{P:List Nat}{L:List En}(h:Tr.ej σ c root P L):Tr.dt σ root P L:=by
 rcases h with⟨h1,h2,h3,-⟩|⟨d,h,-⟩
 ·exact .inl ⟨h1,h2,h3⟩
 ·exact .inr ⟨d,h⟩
theorem Tr.ej.congr{σ σ':ag}{c root:Nat}{P:List Nat}{L:List En}(h:Tr.ej σ c root P L)(hk:∀n∈P,σ' n= σ n):Tr.ej σ' c root P L:=by
 rcases h with h|⟨d,h,h2⟩
 ·exact .inl h
 ·exact .inr ⟨d,h.congr hk,h2⟩
theorem Tr.dt.ef{σ :ag}{root:Nat}{P:List Nat}{L:List En}(h:Tr.dt σ root P L)(hn:P.Nodup):Tr.ej σ 20 root P L:=by
 rcases h with⟨h1,h2,h3⟩|⟨d,h⟩
 ·exact .inl ⟨h1,h2,h3,by omega⟩
 ·exact .inr ⟨d,h,by have:=h.low hn;omega⟩
theorem xh{p:ay}(hp:cR p){fc:Nat}{dx:Array No}{w0:AI}{S0:List Nat}{σ0:ag}{X:List Nat}{f:List En->List En}{iK:Bool}(key:ByteArray)(hf:Tr.eJ key f)(yZ:pV p fc dx w0 S0 σ0 X iK key f)
  {w:AI} {S:List Nat} {σ :ag} {k:Nat} (h:p.At w S σ k) (h0:ah S0 w0 w) (h1:aj w0 S0 S) (root:Nat) {P:List Nat} {L:List En} {c:Nat} (sY:Tr.ej σ c root P L) (bI:(P++X).Nodup) (hX:∀n∈X,σ n= σ0 n/\ σ n≠none) (oW:Tr.Has iK key L) (hk:p.F\/c<=k):
  aaf prog 104 #[.iface p.T p.v,.int .i64 root,.string key,.func (.func fc) #[] dx] w (ki p S σ k c (P++X) (f L) w):=by
 have he:=yZ.enter;rcases sY with⟨rfl,rfl,rfl,Kw⟩|⟨d,aX,Xj⟩
 ·have hDO:=yZ.DX w S σ k [] none 0 w.heap.size h0 h1 h aey oW (by simp) (by simpa using bI) (fun n hn=>(hX n hn).1) (World.ownsRow_nil _ _ _ _) h0.size (by intro g hg;cases hg) (AS _) (by simp)
  simp only[List.length_nil]at hDO;have WV:=sh hDO;have I9:=hf.rise [] aey;have Mn:=hf.grow [];have HRI:=sh I9;have dL:Nd.sum true ((f []).map (·.cell))<=488:=by simp[Nd.sum]at Mn |-;omega
  have pY:=sh dL;have HK:=sh hk;have gj:=sh (hp.old h);clear hDO I9 Mn dL h h0 h1 bI hX hk yZ oW;go_enter func104,ntmps104
  go_wp2_with fail
  refine WV.out.mono ?_;rintro e w3 ⟨A',c',σ',S',U,rfl,BF,qt,IV,df,eB,Zs,gU⟩;have bB:ah S w w3:=eB.mono Zs;have cJ:Tr.Part σ' 0 ((f []).map (·.cell)) ((f []).flatMap (·.aa)) (f []):=⟨rfl,rfl,HRI.out,IV⟩;obtain⟨xs,Dm⟩:=cJ.parts ⟨#[]⟩ (fun e _=>Tr.le_nil _) (by show (0:Nat)<=120;omega) (abw pY.out (by omega));have An:=sh (iz ⟨#[]⟩ true ⟨A',(f []).length,c'⟩ ((f []).map (·.cell)) 0 S' w3 BF (hp.old df) (abi _) cJ.right.2 (abw pY.out (by omega)));have hP:=qt.nodup;have YW:=sh Dm;have HP:=sh hP;have zZ:=sh df;have Ak:=sh (show Tr.aE 0 σ ([]++X) σ' ((f []).flatMap (·.aa))/\ah S w w3/\aj w S S' from ⟨Tr.Moved.ma (by simpa using qt) (fun n hn=>by
   obtain⟨y,hy,hn⟩:=abr.1 hn;exact(IV y hy).kind n hn),bB,gU⟩)
  clear BF qt IV df eB Zs gU bB cJ Dm hP;go_wp2_with fail
  refine An.out.mono ?_;rintro e w4 ⟨bT,r,rfl,MR⟩;have Ur:=sh ((Hh hp (hp.below zZ.out bT) YW.out HP.out MR (HK.out.imp id (fun _=>by omega))).mono fun e w' h=>aZ.letters h);have fU:=sh bT;clear bT MR;go_wp2_with fail
  refine Ur.out.mono ?_;rintro e w5 ⟨a,b,rfl,o6⟩;have HE:=sh ((aZ.from Ak.out.1 (agK k 0) (Ak.out.2.1.trans (ah.af fU.out S)) Ak.out.2.2 o6.out).more (c':=c) (n':=2) (by omega) (by decide));clear o6;go_wp2_with fail
  go_ret2
  exact HE.out
 ·have hd:d<=8:=aX.low (aag.1 bI).1
  have gd:=aX;obtain⟨cs,P',rfl,g1,g2,-⟩:=gd;have hED:=tS hp key hf yZ d w S σ k root ⟨#[]⟩ 1 _ L h h0 h1 aX bI hX (fun e _=>Tr.le_nil _) (Tr.le_nil _) oW (by show (0:Nat)<=120;omega) (by omega) (hk.imp id (fun _=>by omega));have HED:=sh (show aaf prog 163 #[.iface p.T p.v,.int .i64 root,.string ⟨#[]⟩,.string key,.func (.func fc) #[] dx,.int .i64 1] w (wW p S σ k d ⟨#[]⟩ (root::P'++X) (f L) w) from hED);have z1:((root:Int)==0)=false:=by rw[beq_eq_false_iff_ne];omega
  have z2:(root==0)=false:=by rw[beq_eq_false_iff_ne];omega
  have HK:=sh hk;clear hED h h0 h1 aX bI hX hk yZ oW;go_enter func104,ntmps104
  go_wp2_with fail
  refine HED.out.mono ?_;rintro e w3 ⟨⟨rA,rn,rc⟩,b,rfl,nE⟩;rcases nE.out with⟨rfl,ps,xs,P1,σ1,S3,k3,MQ,I8,qt,df,cO,eB,gU⟩|⟨hF,rfl,rfl,rfl,rfl,σ3,BK⟩
  ·have Ur:=sh ((Hh hp df I8 qt.nodup MQ (HK.out.imp id (fun _=>by omega))).mono fun e w' h=>aZ.letters h)
   have HM:=sh (show Tr.aE (Tr.lc d) σ (root::P'++X) σ1 P1/\k<=k3+2*d/\ah S w w3/\aj w S S3 from ⟨qt,cO,eB,gU⟩);clear nE MQ I8 qt df cO eB gU;go_wp2_with fail
   refine Ur.out.mono ?_;rintro e w5 ⟨a,b,rfl,o6⟩;have HE:=sh ((aZ.from HM.out.1 HM.out.2.1 HM.out.2.2.1 HM.out.2.2.2 o6.out).more (c':=c) (n':=2) (by omega) (by by_cases hd:d=0<;>simp[Tr.lc,Tr.rE,hd]));clear o6;go_wp2_with fail
   go_ret2
   exact HE.out
  ·have HE:=sh (show ki p S σ k c (root::P'++X) (f L) w (.returned (.tuple #[.int .i64 0,.int .i64 9])) w3 from .inr ⟨hF,rfl,σ3,BK⟩)
   clear BK nE;go_wp2_with fail
   go_ret2
   exact HE.out
namespace Tr
theorem RJ{l:List En}{key:ByteArray}(e:En)(h:lO l key=false):(dB key e l).map (·.cell)=kC (l.map (·.cell)) (dR l key) e.cell/\((l.flatMap (·.aa))++e.aa).Perm ((dB key e l).flatMap (·.aa)):=by
 unfold dB kC;rw[h];refine⟨by simp,?_⟩;have e1:l.flatMap (·.aa)=(l.take (dR l key)).flatMap (·.aa)++(l.drop (dR l key)).flatMap (·.aa):=by rw[<-aw,abm]
 rw[e1,aw,aw];simp only[abH,List.flatMap_nil,acP,Bool.false_eq_true,if_false,aaa];exact ace _ adu
theorem RK{l:List En}{key:ByteArray}(e:En)(h:lO l key=true):∃hi:dR l key<l.length,dB key e l=l.set (dR l key) e:=by
 have hi:dR l key<l.length:=by
  by_cases hl:dR l key<l.length
  ·exact hl
  ·unfold lO Nd.has at h
   rw[List.getElem?_eq_none (by rw[IS];exact Nat.le_of_not_lt hl)]at h;cases h
 refine⟨hi,?_⟩;unfold dB;rw[h,ahj,if_pos hi];rfl
end Tr
def Rel (p:ay) (S:List Nat) (σ :ag) (k:Nat) (P:List Nat) (w w':AI):Prop:=∃ σ',Step p S w w' σ' k/\Tr.Moved σ P σ' []
theorem Rel.off{p:ay}{S:List Nat}{σ :ag}{k:Nat}{P:List Nat}{w w':AI}(h:Rel p S σ k P w w'):ah S w w':=by obtain⟨_,⟨_,_,h,_⟩,_⟩:=h;exact h
theorem ba.set{w:AI}{B g n c:Nat}{l:List Ce}(h:ba w B (.slice (aev ⟨g,0,none⟩) n c) l)(hn:n=l.length)(i:Nat)(hi:i<l.length)(x:Ce):
  ba (((((w.setCell ⟨g,i*5,none⟩ (.string x.key)).setCell ⟨g,i*5+1,none⟩ (.string x.val)).setCell ⟨g,i*5+2,none⟩ (.int .i64 x.over)).setCell ⟨g,i*5+3,none⟩ (.int .i64 x.size)).setCell ⟨g,i*5+4,none⟩ (.int .i64 x.child)) B (.slice (aev ⟨g,0,none⟩) n c) (l.set i x):=by
 subst hn;have h1:=(aec h (i*5) (.string x.key)).1;have h2:=(aec h1 (i*5+1) (.string x.val)).1;have h3:=(aec h2 (i*5+2) (.int .i64 x.over)).1;have h4:=(aec h3 (i*5+3) (.int .i64 x.size)).1;have h5:=(aec h4 (i*5+4) (.int .i64 x.child)).1;unfold ba;rw[aen];have e:(((((aA l).set (i*5) (.string x.key)).set (i*5+1) (.string x.val)).set (i*5+2) (.int .i64 x.over)).set (i*5+3) (.int .i64 x.size)).set (i*5+4) (.int .i64 x.child)=aA (l.set i x):=by
  have e1:l=l.take i++([l[i]]++l.drop (i+1)):=by rw[List.singleton_append,<-abM hi,abm]
  have e2:l.set i x=l.take i++([x]++l.drop (i+1)):=by rw[ahj,if_pos hi];rfl
  have hl:(aA (l.take i)).length=i*5:=by rw[bC,abx];omega
  rw[e2]
  conv=>lhs;rw[e1]
  simp only[bP,fb];have hs:∀(a b:List No) (j:Nat) (v:No),a.length=i*5->(a++b).set (i*5+j) v=a++b.set j v:=fun a b j v ha=>by
   rw[List.set_append_right _ _ (by omega),show i*5+j-a.length=j by omega]
  have h0:(aA (l.take i)++(([.string l[i].key,.string l[i].val,.int .i64 l[i].over,.int .i64 l[i].size,.int .i64 l[i].child]:List No)++aA (l.drop (i+1)))).set (i*5) (.string x.key)=aA (l.take i)++(([.string l[i].key,.string l[i].val,.int .i64 l[i].over,.int .i64 l[i].size,.int .i64 l[i].child]:List No)++aA (l.drop (i+1))).set 0 (.string x.key):=hs _ _ 0 _ hl;rw[h0,hs _ _ 1 _ hl,hs _ _ 2 _ hl,hs _ _ 3 _ hl,hs _ _ 4 _ hl];rfl
 rw[<-e];exact h5
theorem zy{σ σ':ag}{l:List En}{i:Nat}{old e:En}(hi:i<l.length)(ho:old=l[i])(he:Tr.eI σ e)(hl:∀x∈l,Tr.eI σ x)(bI:(l.flatMap (·.aa)++e.aa).Nodup)(hm:Tr.Moved σ old.aa σ' []):
  Tr.Moved σ (l.flatMap (·.aa)++e.aa) σ' ((l.set i e).flatMap (·.aa))/\∀x∈l.set i e,Tr.eI σ' x:=by
 obtain⟨a,b,rfl,ha⟩:∃a b,l=a++(old::b)/\a.length=i:=⟨l.take i,l.drop (i+1),by rw[ho,<-abM hi,abm],by rw[abx];omega⟩;have kB:(a++old::b).set i e=a++e::b:=by
  rw[<-ha,List.set_append_right _ _ (AS _),agj];rfl
 rw[kB];have zf:((a++old::b).flatMap (·.aa)++e.aa).Perm (old.aa++(a.flatMap (·.aa)++b.flatMap (·.aa)++e.aa)):=by
  rw[Tr.aw,abH];have:(a.flatMap (·.aa)++(old.aa++b.flatMap (·.aa))++e.aa).Perm ((old.aa++(a.flatMap (·.aa)++b.flatMap (·.aa)))++e.aa):=by
   refine List.Perm.append_right _ ?_;rw[<-aaa,<-aaa];exact List.perm_append_comm.append_right _
  rw[aaa old.aa]at this;exact this
 have jY:=zf.nodup_iff.1 bI;obtain⟨n1,n2,n3⟩:=aag.1 jY;have hR:∀n∈a.flatMap (·.aa)++b.flatMap (·.aa)++e.aa,σ n≠none:=fun n hn=>by
  rcases By.1 hn with hn|hn
  ·rcases By.1 hn with hn|hn
   ·obtain⟨x,hx,hn⟩:=abr.1 hn
    exact((hl x (by simp[hx])).mem n hn).2.2
   ·obtain⟨x,hx,hn⟩:=abr.1 hn
    exact((hl x (by simp[hx])).mem n hn).2.2
  ·exact(he.mem n hn).2.2
 have hd:∀n∈a.flatMap (·.aa)++b.flatMap (·.aa)++e.aa,n∉old.aa:=fun n hn ho=>n3 n ho n hn rfl;have bU:=hm.frame hR n2 hd;have iE:=hm.same hR hd;refine⟨bU.perm zf.symm ?_,fun x hx=> ?_⟩
 ·rw[List.nil_append,Tr.aw,abH,aaa]
  exact ace _ adu
 ·rcases By.1 hx with hx|hx
  ·exact(hl x (by simp[hx])).congr fun n hn=>iE n (by simp only[By];exact .inl (.inl (abr.2 ⟨x,hx,hn⟩)))
  ·rcases OF.1 hx with rfl|hx
   ·exact he.congr fun n hn=>iE n (by simp only[By];exact .inr hn)
   ·exact(hl x (by simp[hx])).congr fun n hn=>iE n (by simp only[By];exact .inl (.inr (abr.2 ⟨x,hx,hn⟩)))
theorem JF{p:ay}(hp:cR p){w0:AI}{S0:List Nat}{σ0:ag}{kb cb pb:Nat}(key:ByteArray)(e:En)(hk:Bk w0 kb 9 #[.string key])(hc:Bk w0 cb 170 #[.string e.cell.key,.string e.cell.val,.int .i64 e.cell.over,.int .i64 e.cell.size,.int .i64 e.cell.child])(ED:Bk w0 pb 168 #[.iface p.T p.v])
  (hkS:kb∉S0) (hcS:cb∉S0) (MN:pb∉S0) (he:Tr.eI σ0 e):pV p 105 #[.pointer (some ⟨kb,0,none⟩),.pointer (some ⟨cb,0,none⟩),.pointer (some ⟨pb,0,none⟩)] w0 S0 σ0 e.aa false key (Tr.dB key e):=by
 refine⟨fun args W=>call105 args W,?_⟩;intro w S σ k l A c B h0 h1 cG I9 _ fA bI hX aq Zb pR hB De;have kz:=h0.bk hk hkS;have hc':=h0.bk hc hcS;have lV:=h0.bk ED MN;have iV:=kz.cell 0;have QS:w.cell? ⟨kb,0,none⟩=some (.string key):=kz.cell 0;have bd:=aq.as;have m9:=sh (show aaf prog 106 #[.slice A l.length c,.string key] w (fun e w'=>e= .returned (.tuple #[.int .i64 (Tr.dR l key:Nat),.bool (Tr.lO l key)])/\IT w.heap.size w w') from xZ ⟨A,l.length,c⟩ (l.map (fun x:En=>x.cell)) key _ w bd (by rw[IS];omega));have sZ:=Tr.vm l key;have cI:c<=9223372036854775807:=by have:=bd.2.2.1;simp only at this;unfold abj at this;omega
 have heX:Tr.eI σ e:=he.congr hX;have XT:=sh heX;have Dv:=sh cG;have ft:=sh aq;have PW:=sh fA;have pK:=sh bI;have C7:=sh pR;have HK:=sh kz;have HC:=sh hc';have HP:=sh lV;have lk:=kz.lt;cases hh:Tr.lO l key with
 | false=>
  obtain⟨mM,jf⟩:=Tr.RJ e hh;rw[hh]at m9;have HM1:=sh mM;have sI:=sh jf;obtain⟨i,hi⟩:∃i,i=Tr.dR l key:=⟨_,rfl⟩;rw[<-hi]at m9 HM1 sZ;clear kz hc' lV iV bd heX cG aq fA bI pR hh mM jf hi hX he hk hc ED;go_enter func105,ntmps105
  go_wp2_with fail
  refine m9.out.mono ?_;rintro x w1 ⟨rfl,ar⟩;have zO:=ae HC.out ar;obtain⟨u0,u1,u2,u3,u4,-,-,-,-,-,ul⟩:=zO.gG;have gJ:IT w.heap.size w (w1.alloc (.cells #[.string e.cell.key,.string e.cell.val,.int .i64 e.cell.over,.int .i64 e.cell.size,.int .i64 e.cell.child] 170)):=ar.alloc ar.size _;have gK:ba (w1.alloc (.cells #[.string e.cell.key,.string e.cell.val,.int .i64 e.cell.over,.int .i64 e.cell.size,.int .i64 e.cell.child] 170)) B (.slice A (l.map (·.cell)).length c) (l.map (·.cell)):=by
   rw[IS];exact ft.out.below gJ
  have VS:=gK;have dw:=EO A B w1.heap.size i c (l.map (·.cell)) e.cell _ gK (by have:=gJ.size;omega) (by rw[IS];omega) (by rw[IS];omega) (Bk.new w1 _ _) (fun hb=>by
   rw[IS]at hb;have:=(abq ft.out _ hb).2;have:=ar.size;omega)
  rw[IS]at dw;have yz:=sh dw;have TV:=sh gJ;clear dw gK VS gJ zO ar;go_wp2_with fail
  refine yz.out.mono ?_;rintro x w2 ⟨U,A2,c2,hU,cP,rfl,aU,aaH⟩;have bF:ah U w w2:=((ah.af TV.out U).trans cP);have rz:∀S',(∀b∈S',b∈S)->aW w2 (Cl 0 S') ⟨A2,(Tr.dB key e l).length,c2⟩ ((Tr.dB key e l).map (·.cell)):=fun S' hS'=>by
   rw[HM1.out,show (Tr.dB key e l).length=(kC (l.map (·.cell)) i e.cell).length by rw[<-HM1.out,IS]];have aar:0<(kC (l.map (·.cell)) i e.cell).length:=by rw[iF _ _ _ (by rw[IS];omega)];omega
   obtain⟨g2,rfl,-⟩:=aU.full aar;refine aU.here (fun hg=> ?_);rcases aaH g2 rfl with h9|h9
   ·exact C7.out g2 h9 (hS' g2 hg)
   ·have h8:=hp.old Dv.out g2 (hS' g2 hg)
    have h7:=TV.out.size;omega
  have hlen:(kC (l.map (·.cell)) i e.cell).length=(Tr.dB key e l).length:=by rw[<-HM1.out,IS]
  have bX:=sh (show yt p S σ k B e.aa l (Tr.dB key e l) w (.returned (.tuple #[.slice A2 (kC (l.map (·.cell)) i e.cell).length c2,.int .i64 0])) w2 from
   ⟨A2,c2,σ,S,U,by rw[hlen],rz S (fun _ h=>h),(Tr.Moved.refl (fun n hn=>by
    rcases By.1 hn with hn|hn
    ·obtain⟨x,hx,hn⟩:=abr.1 hn
     exact((PW.out x hx).mem n hn).2.2
    ·exact(XT.out.mem n hn).2.2) pK.out).perm (List.Perm.refl _) sI.out,(fun x hx=>by
    unfold Tr.dB at hx;rcases By.1 hx with hx|hx
    ·exact PW.out x (List.mem_of_mem_take hx)
    ·rcases By.1 hx with hx|hx
     ·rw[IN.1 hx];exact XT.out
     ·exact PW.out x (List.mem_of_mem_drop hx)),hp.off Dv.out bF (fun b hb hu=>C7.out b (hU b hu) hb),bF,fun g hg=> .inr (abq ft.out g (hU g hg)).1,aj.refl _ _⟩)
  clear bF rz hlen hU cP aU aaH;go_wp2_with fail
  go_ret2
  exact bX.out
 | true=>
  obtain⟨hi,kB⟩:=Tr.RK e hh;rw[hh]at m9;obtain⟨i,Vu⟩:∃i,i=Tr.dR l key:=⟨_,rfl⟩;rw[<-Vu]at m9 kB sZ;have vH:i<l.length:=by rw[Vu];exact hi
  obtain⟨g,rfl,-⟩:=aq.full (by rw[IS];omega);have sW:g∉S:=pR g rfl;have nB:g<w.heap.size:=(abq aq g rfl).2;obtain⟨b9,o9,pO,-,q0,q1,q2,q3,q4⟩:=bd.at i (by rw[IS];exact vH);simp only[acx,Addr.mk.injEq,and_true]at pO;obtain⟨rfl,rfl⟩:=pO;obtain⟨old,hold⟩:∃x,x=l[i]:=⟨_,rfl⟩;simp only[List.getElem_map,abR]at q0 q1 q2 q3 q4;rw[<-hold]at q0 q1 q2 q3 q4;have VV:pb∉S:=fun hs=>by
   rcases h1 pb hs with h9|h9
   ·exact MN h9
   ·have:=ED.lt;omega
  have aeN:cb∉S:=fun hs=>by
   rcases h1 cb hs with h9|h9
   ·exact hcS h9
   ·have:=hc.lt;omega
  have MB:old.aa.Nodup:=by
   have h9:=(aag.1 bI).1;have e9:l=l.take i++(old::l.drop (i+1)):=by rw[hold,<-abM vH,abm]
   rw[e9,Tr.aw,abH]at h9;exact(aag.1 (aag.1 h9).2.1).1
  have HRL:=sh fun(W:AI) (hb:IT w.heap.size w W)=>(show aaf prog 108 #[.iface p.T p.v,.agg #[.string old.cell.key,.string old.cell.val,.int .i64 old.cell.over,.int .i64 old.cell.size,.int .i64 old.cell.child]] W (fun x w'=>x= .returned (.int .i64 0)/\Hid (Rel p S σ k old.aa W w')) from (u7 hp (hp.below cG hb) old (fA old (by rw[hold];exact abE vH)) MB).mono fun x w' h=>⟨h.1,sh h.2⟩);have pX:=sh kB;have gj:=sh hold;have bD:=sh (show ∀W:AI,ah S w W->W.cell? ⟨pb,0,none⟩=some (.iface p.T p.v)/\W.cell? ⟨g,i*5,none⟩=some (.string old.cell.key)/\W.cell? ⟨g,i*5+1,none⟩=some (.string old.cell.val)/\W.cell? ⟨g,i*5+2,none⟩=some (.int .i64 old.cell.over)/\W.cell? ⟨g,i*5+3,none⟩=some (.int .i64 old.cell.size)/\W.cell? ⟨g,i*5+4,none⟩=some (.int .i64 old.cell.child) from fun W hb=>
   ⟨(hb.cell (p:=⟨pb,0,none⟩) lV.lt VV).trans (lV.cell 0),(hb.cell (p:=⟨g,_,none⟩) nB sW).trans q0,(hb.cell (p:=⟨g,_,none⟩) nB sW).trans q1,(hb.cell (p:=⟨g,_,none⟩) nB sW).trans q2,(hb.cell (p:=⟨g,_,none⟩) nB sW).trans q3,(hb.cell (p:=⟨g,_,none⟩) nB sW).trans q4⟩)
  have lp:=lV.lt;clear kz hc' lV iV bd heX cG aq fA bI pR hh Vu hX he hk hc ED hi kB q0 q1 q2 q3 q4 MB hold;go_enter func105,ntmps105
  go_wp2_with fail
  refine m9.out.mono ?_;rintro x w1 ⟨rfl,ar⟩;have bh:=sh ar;have hJ:=sh ((ah.af ar S).drew);have F0:=sh (HRL.out w1.drew ar.drew);have Ky:g<w1.heap.size:=aal nB ar.size;have zf:pb<w1.heap.size:=aal lp ar.size;clear ar;go_wp2_with fail
  go_region_held3 (fun W=>W.cell? ⟨pb,0,none⟩=some (.iface p.T p.v)/\W.cell? ⟨g,i*5,none⟩=some (.string old.cell.key)/\W.cell? ⟨g,i*5+1,none⟩=some (.string old.cell.val)/\W.cell? ⟨g,i*5+2,none⟩=some (.int .i64 old.cell.over)/\W.cell? ⟨g,i*5+3,none⟩=some (.int .i64 old.cell.size)/\W.cell? ⟨g,i*5+4,none⟩=some (.int .i64 old.cell.child)) (first|(with_reducible exact bD.out _ hJ.out)|(with_reducible exact bD.out _ (hJ.out.trans (Rel.off lW.out)))) (first
   | (go_at_call 108;(with_reducible refine F0.out.mono ?_);rintro x w2 ⟨rfl,lW⟩))
  all_goals
   obtain⟨σ',⟨S2,gI,cP,fH⟩,uq⟩:=lW.out;have bF:ah S w w2:=hJ.out.trans cP;have aU:ba w2 B (.slice (some ⟨g,0,none⟩) l.length c) (l.map (·.cell)):=ah.own bF ft.out C7.out;have Vd:=bF.bk HC.out aeN;obtain⟨u0,u1,u2,u3,u4,-,-,-,-,-,ul⟩:=Vd.gG;obtain⟨-,v0,v1,v2,v3,v4⟩:=bD.out w2 bF;have ax:w2.ownsRow B 170 5 (.slice (some ⟨g,0,none⟩) l.length c) l.length (aA (l.map (·.cell))):=by
    have h9:=aU;unfold ba at h9
    rwa [IS]at h9
   have f0:=adR ax (i*5);have f1:=adR ax (i*5+1);have f2:=adR ax (i*5+2);have f3:=adR ax (i*5+3);have f4:=adR ax (i*5+4);have ra:g<w2.heap.size:=aal nB bF.size;have YQ:=sh aU;have tp:=sh gI;have m7:=sh bF;have lu:=sh (show aj w S S2 from fH.mono bh.out.size);have Ht:=sh uq;clear gI cP fH uq bF aU ax Vd lW;have I0:g∉S2:=fun hs=>by
    rcases lu.out g hs with h9|h9
    ·exact sW h9
    ·omega
   have oF:=sh ((ba.set YQ.out (by rw[IS]) i (by rw[IS];exact vH) e.cell).here I0);have Tj:ah [g] w2 (((((w2.setCell ⟨g,i*5,none⟩ (.string e.cell.key)).setCell ⟨g,i*5+1,none⟩ (.string e.cell.val)).setCell ⟨g,i*5+2,none⟩ (.int .i64 e.cell.over)).setCell ⟨g,i*5+3,none⟩ (.int .i64 e.cell.size)).setCell ⟨g,i*5+4,none⟩ (.int .i64 e.cell.child)):=
    (((((ah.refl [g] w2).setCell (p:=⟨g,i*5,none⟩) (.inl (by simp)) _).setCell (p:=⟨g,i*5+1,none⟩) (.inl (by simp)) _).setCell (p:=⟨g,i*5+2,none⟩) (.inl (by simp)) _).setCell (p:=⟨g,i*5+3,none⟩) (.inl (by simp)) _).setCell (p:=⟨g,i*5+4,none⟩) (.inl (by simp)) _
   have HOG:=sh Tj;have hgB:B<=g:=(abq ft.out g rfl).1;have EG:=zy vH gj.out XT.out PW.out pK.out Ht.out;rw[<-pX.out]at EG;have Bq:(Tr.dB key e l).length=l.length:=by rw[pX.out,aen]
   have Bt:(Tr.dB key e l).map (·.cell)=(l.map (·.cell)).set i e.cell:=by rw[pX.out,List.map_set]
   have KY:=sh EG;have Ub:=sh Bq;have HMP:=sh Bt;have bX:=sh (show yt p S σ k B e.aa l (Tr.dB key e l) w (.returned (.tuple #[.slice (some ⟨g,0,none⟩) l.length c,.int .i64 0])) (((((w2.setCell ⟨g,i*5,none⟩ (.string e.cell.key)).setCell ⟨g,i*5+1,none⟩ (.string e.cell.val)).setCell ⟨g,i*5+2,none⟩ (.int .i64 e.cell.over)).setCell ⟨g,i*5+3,none⟩ (.int .i64 e.cell.size)).setCell ⟨g,i*5+4,none⟩ (.int .i64 e.cell.child)) from by
    refine⟨some ⟨g,0,none⟩,c,σ',S2,g::S,by rw[Ub.out],?_,KY.out.1,KY.out.2,hp.off tp.out HOG.out (fun b hb hg=> ?_),?_,fun x hx=> ?_,lu.out⟩
    ·rw[Ub.out,HMP.out];exact oF.out
    ·rw[IN]at hg
     subst hg;exact I0 hb
    ·exact(m7.out.mono (fun x hx=> .inl (by simp[hx]))).then HOG.out (fun x hx=> .inl (by rw[IN]at hx;simp[hx]))
    ·rcases OF.1 hx with rfl|hx
     ·exact .inr hgB
     ·exact .inl hx)
   clear Tj EG Bq Bt I0;go_wp2_with fail
   go_ret2
   exact bX.out
theorem Ez(p:ay)(key val:ByteArray)(w:AI)(hv:val.size<=96):
  aaf prog 103 #[.iface p.T p.v,.string key,.string val] w (fun e w'=>e= .returned (.tuple #[.agg #[.string key,.string val,.int .i64 0,.int .i64 0,.int .i64 0],.int .i64 0])/\IT w.heap.size w w'):=by
 have z1:decide ((val.size:Int)<=96)=true:=decide_eq_true (by omega);have z2:decide (val.size<=96)=true:=decide_eq_true hv;go_enter func103,ntmps103
 go_wp2_with fail
 refine abT (v:= .tuple #[.agg #[.string key,.string val,.int .i64 0,.int .i64 0,.int .i64 0],.int .i64 0]) (by simp[results,results103,go_sem]) rfl ⟨rfl,?_⟩;exact(BY _ w).alloc (AS _) _
namespace Tr
theorem Chain.tX{σ :ag}{next:Nat}{ns:List Nat}{v:List UInt8}(h:Chain σ next ns v):next<512:=by
 cases ns with
 | nil=>have:=h.1;omega
 | cons n ns=>have:=h.1;have:=h.2.2.1;omega
theorem Chain.push{σ :ag}{n next:Nat}{ns:List Nat}{v piece:List UInt8}(h:Chain σ next ns v)(hn: σ n=none)(h1:1<=n)(h2:n<512)(zf:0<piece.length)(ru:piece.length<=484)(Tl:next≠0->piece.length=484):
  Chain (cY σ n (some ⟨3,⟨(Be.low next 4++piece).toArray⟩⟩)) n (n::ns) (piece++v):=
 ⟨rfl,h1,h2,next,piece,v,fQ _ _ _,h.tX,rfl,zf,ru,Tl,h.congr fun m hm=>dM _ _ (by rintro rfl;exact(h.mem m hm).2.2 hn)⟩
theorem Moved.push{σ σj:ag}{ns:List Nat}{n:Nat}(h:Moved σ [] σj ns)(hn: σj n=none)(x:rW):Moved σ [] (cY σj n (some x)) (n::ns):=by
 have f2:=(Moved.make hn x).frame (R:=ns) h.there h.nodup (fun m hm=>by simp);exact h.trans (f2.perm (by simp) (by simp))
end Tr
def Tr.pieces (n:Nat):Nat:=if n<=96 then 0 else (n-1)/484+1
def Ut (p:ay) (S:List Nat) (w:AI) (e:acb) (w':AI):Prop:=Full p S w w' e (.returned (.tuple #[.agg #[.string ⟨#[]⟩,.string ⟨#[]⟩,.int .i64 0,.int .i64 0,.int .i64 0],.int .i64 9]))
theorem Step.result{p:ay}(hp:cR p){w w1 w3 w4:AI}{S:List Nat}{σ :ag}{k:Nat}(hb:IT w.heap.size w w1)(h:Step p S w1 w3 σ k)(ho:ah [w.heap.size] w3 w4)(hS:∀b∈S,b<w.heap.size)(aH:w.heap.size<w1.heap.size):Step p S w w4 σ k:=by
 obtain⟨S',cG,bB,bU⟩:=h;have hn:w.heap.size∉S':=fun hs=>by
  rcases bU _ hs with h|h
  ·have:=hS _ h;omega
  ·omega
 refine⟨S',hp.off cG ho (fun b hb hu=>by rw[IN]at hu;subst hu;exact hn hb),(((ah.af hb S).trans bB).then ho (fun g hg=>by rw[IN]at hg;subst hg;exact .inr (AS _))),bU.mono hb.size⟩
theorem ah.oR{w:AI}{q:Nat}{a0 a1 a2 a3 a4:No}:ah [q] w (((((w.setCell ⟨q,0,none⟩ a0).setCell ⟨q,1,none⟩ a1).setCell ⟨q,2,none⟩ a2).setCell ⟨q,3,none⟩ a3).setCell ⟨q,4,none⟩ a4):=
 (((((ah.refl _ _).setCell (.inl (by simp)) _).setCell (.inl (by simp)) _).setCell (.inl (by simp)) _).setCell (.inl (by simp)) _).setCell (.inl (by simp)) _
theorem Bk.Gj{w:AI}{q:Nat}{t:TypeId}{v0 v1 v2 v3 v4:No}(h:Bk w q t #[v0,v1,v2,v3,v4])(a0 a1 a2 a3 a4:No):
  (w.setCell ⟨q,0,none⟩ a0).cell? ⟨q,0,none⟩=some a0/\((w.setCell ⟨q,0,none⟩ a0).setCell ⟨q,1,none⟩ a1).cell? ⟨q,1,none⟩=some a1/\(((w.setCell ⟨q,0,none⟩ a0).setCell ⟨q,1,none⟩ a1).setCell ⟨q,2,none⟩ a2).cell? ⟨q,2,none⟩=some a2/\
  ((((w.setCell ⟨q,0,none⟩ a0).setCell ⟨q,1,none⟩ a1).setCell ⟨q,2,none⟩ a2).setCell ⟨q,3,none⟩ a3).cell? ⟨q,3,none⟩=some a3/\(((((w.setCell ⟨q,0,none⟩ a0).setCell ⟨q,1,none⟩ a1).setCell ⟨q,2,none⟩ a2).setCell ⟨q,3,none⟩ a3).setCell ⟨q,4,none⟩ a4).cell? ⟨q,4,none⟩=some a4:=by
 have h0:=h.put 0 a0;have h1:=h0.put 1 a1;have h2:=h1.put 2 a2;have h3:=h2.put 3 a3;have h4:=h3.put 4 a4;exact⟨h0.cell 0,h1.cell 1,h2.cell 2,h3.cell 3,h4.cell 4⟩
theorem Fg(l:List UInt8)(n a hi:Nat)(hn:n=l.length)(ha:a<n)(hh:(a+484<n/\hi=a+484)\/(n<=a+484/\hi=n)):(l.drop a).take (hi-a)++l.drop (a+484)=l.drop a:=by
 subst hn;rcases hh with⟨h1,rfl⟩|⟨h1,rfl⟩
 ·rw[show a+484-a=484 by omega,<-List.drop_drop,abm]
 ·rw[aca (by rw[abQ];omega),show l.drop (a+484)=[] from List.drop_eq_nil_of_le (by omega),acP]
structure tD (p:ay) (S:List Nat) (σ :ag) (k m:Nat) (v:List UInt8) (w wr:AI) (j n:Nat):Prop where
 le:j<=m+1
 st:∃(ns:List Nat) (σj:ag) (Sj:List Nat),ns.length+j=m+1/\Tr.Chain σj n ns (v.drop (484*j))/\Tr.Moved σ [] σj ns/\p.At wr Sj σj (k-ns.length)/\ah S w wr/\∀b∈Sj,b∈S\/w.heap.size+1<=b
 cell:Bk wr w.heap.size 170 #[.string ⟨#[]⟩,.string ⟨#[]⟩,.int .i64 0,.int .i64 0,.int .i64 0]
theorem tD.lt{p:ay}{S:List Nat}{σ :ag}{k m:Nat}{v:List UInt8}{w wr:AI}{j n:Nat}(h:tD p S σ k m v w wr j n):n<512:=by
 obtain⟨ns,σj,Sj,-,h1,-⟩:=h.st;exact h1.tX
theorem I7{p:ay}(hp:cR p){w:AI}{S:List Nat}{σ :ag}{k:Nat}(h:p.At w S σ k)(key val:ByteArray)(hv:96<val.size)(BO:val.size<=4000)(hk:p.F\/(val.size-1)/484+1<=k):
  aaf prog 103 #[.iface p.T p.v,.string key,.string val] w (fun e w'=>(∃n:Nat,e= .returned (.tuple #[.agg #[.string key,.string ⟨#[]⟩,.int .i64 n,.int .i64 val.size,.int .i64 0],.int .i64 0])/\
   ∃(ns:List Nat) (σ':ag),n≠0/\ns.length=(val.size-1)/484+1/\Tr.Chain σ' n ns val.data.toList/\Tr.Moved σ [] σ' ns/\Step p S w w' σ' (k-((val.size-1)/484+1)))\/Ut p S w e w'):=by
 have z1:decide ((val.size:Int)<=96)=false:=decide_eq_false (by omega);have z2:decide (val.size<=96)=false:=decide_eq_false (by omega);obtain⟨f,rv,hn,hm,he,Es⟩:=hp.make;have PX:=sh fun(n:Nat) (hn:n<512) (W:AI)=>(show aaf prog 160 #[.string ⟨#[]⟩,.int .u64 n,.int .i64 4] W (cT (⟨(Be.low n 4).toArray⟩) 0 W) from gX ⟨#[]⟩ n 4 W (by show 0<=1000000;omega) (by omega) (by omega) (by omega));obtain⟨m,kV⟩:∃m,m=(val.size-1)/484:=⟨_,rfl⟩;rw[<-kV]at hk |-;have q1:(val.size:Int)-1=((val.size-1:Nat):Int):=by omega
 have q2:((val.size-1:Nat):Int)/484=(m:Int):=by omega
 have q3:IntKind.i64.wrap ((m:Int)*484)=484*(((m+1:Nat):Int))-484:=by rw[acz];omega
 have Hs:=sh kV;have HV:=sh (show 96<val.size/\val.size<=4000 from ⟨hv,BO⟩);have Ye:=sh Es;have HA:=sh h;have HK:=sh hk;have gj:=sh (hp.old h);have C7:=sh (show w.heap.size∉S from fun hs=>by have:=hp.old h _ hs;omega);clear Es h hk kV hv BO;go_enter func103,ntmps103
 go_wp2_with fail
 go_loopw [8,9] (fun nx at_ wr=>∃(j n:Nat) (a:Int),nx= .int .i64 n/\at_= .int .i64 a/\a=484*(j:Int)-484/\Hid (tD p S σ k m val.data.toList w wr j n)) (fun _ a _=>((intOf a)+484).toNat)
 case atStart=>
  have hq:wrap64 (wrap64 ((wrap64 ((val.size-1:Nat):Int)).tdiv 484)*484)=484*(((m+1:Nat)):Int)-484:=by
   have h1:=Hs.out;have h2:=HV.out;rw[aeC ((val.size-1:Nat):Int) ⟨by omega,by omega⟩,Int.tdiv_eq_ediv_of_nonneg (by omega),q2,aeC (m:Int) ⟨by omega,by omega⟩]<;>(try rw[aeC ((m:Int)*484) ⟨by omega,by omega⟩])
   omega
  refine⟨m+1,0,_,rfl,rfl,hq,sh ⟨AS _,⟨[],σ,S,by simp,⟨rfl,?_⟩,Tr.Moved.refl (by simp) (by simp),?_,(ah.refl S w).alloc _,fun b hb=> .inl hb⟩,Bk.new w _ _⟩⟩
  ·refine List.drop_eq_nil_of_le ?_
   have h1:=Hs.out;have h2:=HV.out;show val.size<=484*(m+1);omega
  ·exact hp.off (hp.less HA.out (by simp)) ((ah.refl [] w).alloc _) (by simp)
 case round=>
  obtain⟨j,n,a,rfl,rfl,ha,hI⟩:=hrel;cases j with
  | zero=>
   obtain rfl:a= -484:=by omega
   clear ha;have HI:=sh hI.out;obtain⟨f0,f1,f2,f3,f4,g0,g1,g2,g3,g4,l3⟩:=hI.out.cell.gG;go_wp2_with fail
   obtain⟨s0,s1,s2,s3,s4⟩:=HI.out.cell.Gj (.string key) (.string ⟨#[]⟩) (.int .i64 n) (.int .i64 val.size) (.int .i64 0);refine abT (v:= .tuple #[.agg #[.string key,.string ⟨#[]⟩,.int .i64 n,.int .i64 val.size,.int .i64 0],.int .i64 0]) (by simp[results,results103,go_sem,l3,s0,s1,s2,s3,s4]) rfl (.inl ⟨n,rfl,?_⟩);obtain⟨ns,σj,Sj,e1,e2,e3,e4,e5,e6⟩:=HI.out.st;have e1:ns.length=m+1:=by omega
   rw[Nat.mul_zero,List.drop_zero]at e2;refine⟨ns,σj,?_,e1,e2,e3,?_⟩
   ·cases ns with
    | nil=>cases e1
    | cons x t=>have h1:=e2.1;have h2:=e2.2.1;omega
   ·rw[<-e1]
    refine⟨Sj,hp.off e4 ah.oR (fun b hb hu=> ?_),e5.then ah.oR (fun g hg=> ?_),fun b hb=>(e6 b hb).imp id (fun h=>by omega)⟩
    ·rw[IN]at hu
     subst hu;rcases e6 _ hb with h1|h1
     ·exact C7.out h1
     ·omega
    ·rw[IN]at hg
     subst hg;exact .inr (AS _)
  | succ i=>
   obtain⟨a',ha'⟩:∃a':Nat,a'=484*i:=⟨_,rfl⟩;obtain rfl:a=(a':Int):=by omega
   have ur:=hI.out.lt;have hle:=hI.out.le;have hm:=Hs.out;have hv:=HV.out;have halt:a'<val.size:=by omega
   have y1:IntKind.u64.wrap (n:Int)=(n:Int):=by rw[IntKind.wrap_u64];omega
   obtain⟨b',vX⟩:∃b':Nat,b'=a'+484:=⟨_,rfl⟩;have y2:IntKind.i64.wrap ((a':Int)+484)=(b':Int):=by rw[acz];omega
   obtain⟨hi,hhi⟩:∃hi:Nat,hi=if b'<val.size then b' else val.size:=⟨_,rfl⟩;have y3:(if b'<val.size then (b':Int)else (val.size:Int))=(hi:Int):=by rw[hhi];split<;>rfl
   have y4:(if (b':Int)<(val.size:Int)then (b':Int)else (val.size:Int))=(hi:Int):=by
    rw[<-y3];by_cases h9:b'<val.size
    ·rw[if_pos h9,if_pos (by omega)]
    ·rw[if_neg h9,if_neg (by omega)]
   have fh:(a'+484<val.size/\hi=a'+484)\/(val.size<=a'+484/\hi=val.size):=by
    rw[hhi,vX];by_cases h9:a'+484<val.size
    ·rw[if_pos h9];exact .inl ⟨h9,rfl⟩
    ·rw[if_neg h9];exact .inr ⟨by omega,rfl⟩
   have y5:a'<=hi:=by omega
   have y6:hi<=val.size:=by omega
   have y7:(a':Int)<=(hi:Int):=by omega
   have y8:(hi:Int)<=(val.size:Int):=by omega
   have y9:IntKind.i64.wrap ((a':Int)-484)=(a':Int)-484:=by rw[acz];omega
   have HW:=sh (show ((a'+484<val.size/\hi=a'+484)\/(val.size<=a'+484/\hi=val.size))/\a'=484*i/\a'<val.size from ⟨fh,ha',halt⟩);obtain⟨b,sU⟩:∃b:ByteArray,b=⟨(Be.low n 4).toArray⟩++val.extract a' hi:=⟨_,rfl⟩;have U9:b.size<=488:=by rw[sU,ByteArray.size_append];show 4+(val.extract a' hi).size<=488;rw[agq];omega
   have Zu:∀W:AI,(Op.stringOp .add ⟨(Be.low n 4).toArray⟩ (val.extract a' hi)).run prog W= .ok (.string b) W:=fun W=>by
    rw[sU];exact run_string_add_sum W _ _ (by show 4+(val.extract a' hi).size<=_;rw[agq];omega)
   have HB9:=sh sU;clear ha ha' hle hm hv vX hhi fh halt sU;obtain⟨ns,σj,Sj,e1,e2,e3,e4,e5,e6⟩:=hI.out.st;have Dv:=sh e4;have Hq:=sh e2;have Ak:=sh e3;have wZ:=sh e1;have m6:=sh (show ah S w wr/\(∀b∈Sj,b∈S\/w.heap.size+1<=b)/\w.heap.size+1<=wr.heap.size from ⟨e5,e6,hI.out.cell.lt⟩);have OT:=sh hI.out.cell;have aaF:w.heap.size∉Sj:=fun hs=>by
    rcases e6 _ hs with h1|h1
    ·exact C7.out h1
    ·omega
   have HNJ:=sh aaF;clear e1 e2 e3 e4 e5 e6 hI aaF;go_wp2_with (first
    | (go_at_call 160;go_must (refine(PX.out n ur _).mono ?_);rintro e w1 ⟨rfl,ar⟩;have dG:=sh ar;have Kp:=sh (ae OT.out ar);clear ar)
    | fail)
   have l1:=Kp.out.lt;have HMJ:=sh (rQ (Ye.out w1.drew Sj σj (k-ns.length) ⟨3,b⟩ (hp.below Dv.out dG.out.drew) (HK.out.imp id (fun _=>by have:=wZ.out;omega)) (by show 1<=3;omega) (AS _) U9));go_region_held3 (fun W=>Bk W w.heap.size 170 #[.string ⟨#[]⟩,.string ⟨#[]⟩,.int .i64 0,.int .i64 0,.int .i64 0]) (first|exact Kp.out.drew|exact(Ao.off nE.out).bk Kp.out.drew HNJ.out) (first
    | (refine HMJ.out.mono ?_;rintro e w3 ⟨rn,re,rfl,nE⟩))
   all_goals
    rcases nE.out with⟨n',rfl,rfl,n1,n2,vI,S3,df,eB,gU⟩|⟨hF,rfl,rfl,σ3,S3,df,eB,gU⟩
    ·have bB:ah S w w3:=m6.out.1.then ((ah.af dG.out.drew Sj).trans eB) (fun g hg=>(m6.out.2.1 g hg).imp id (fun h=>by omega))
     have bU:∀b∈S3,b∈S\/w.heap.size+1<=b:=fun b hb=>by
      have h2:=dG.out.size;have h3:=m6.out.2.2;rcases gU b hb with h1|h1
      ·exact m6.out.2.1 b h1
      ·simp at h1;exact .inr (by omega)
     have hw:=HW.out;have mM:=Hs.out;have Py:=HV.out;have iS:(val.extract a' hi).data.toList=(val.data.toList.drop a').take (hi-a'):=cU val a' hi;have EJ:val.data.toList.length=val.size:=rfl;have hlen:((val.data.toList.drop a').take (hi-a')).length=hi-a':=by rw[abx,abQ];omega
     have U4:b=⟨(Be.low n 4++(val.data.toList.drop a').take (hi-a')).toArray⟩:=by
      rw[HB9.out,<-iS];exact Nd.gD (by simp[ByteArray.toList_eq])
     have lR:Tr.Chain (Tr.cY σj n' (some ⟨3,b⟩)) n' (n'::ns) (val.data.toList.drop (484*i)):=by
      rw[U4,<-hw.2.1];have h9:=Tr.Chain.push (piece:=(val.data.toList.drop a').take (hi-a')) Hq.out vI n1 n2 (by omega) (by omega) (fun VN=>by
       have KC:=wZ.out;have pR:ns≠[]:=fun e=>VN (by have h8:=Hq.out;rw[e]at h8;exact h8.1);have:0<ns.length:=by cases ns with|nil=>exact absurd rfl pR|cons x t=>simp
       omega)
      rw[show 484*(i+1)=a'+484 by omega,Fg _ val.size a' hi EJ.symm hw.2.2 hw.1]at h9;exact h9
     have hq:tD p S σ k m val.data.toList w w3 i n':=by
      refine⟨by have:=wZ.out;omega,⟨n'::ns,_,S3,by rw[abv];have:=wZ.out;omega,lR,Ak.out.push vI ⟨3,b⟩,?_,bB,bU⟩,(eB.bk Kp.out.drew HNJ.out)⟩;rw[abv,Nat.sub_add_eq];exact df
     have HQ:=sh (show ∃(j' n9:Nat) (a9:Int),acs .i64 (n':Int)= .int .i64 n9/\acs .i64 ((a':Int)-484)= .int .i64 a9/\a9=484*(j':Int)-484/\Hid (tD p S σ k m val.data.toList w w3 j' n9) from ⟨i,n',_,rfl,rfl,by rw[HW.out.2.1];omega,sh hq⟩);clear nE vI df eB gU bB bU hw mM Py iS EJ hlen U4 lR hq;go_wp2_with fail
     go_roundw
     case rel=>first|exact HQ.out|((repeat apply Exists.intro);exact⟨HQ.out,rfl⟩)
     case measure=>simp[intOf];omega
    ·have Wm:=eB.bk Kp.out.drew HNJ.out
     have HZ3:=sh Wm;have aaN:ah S w w3:=m6.out.1.then ((ah.af dG.out.drew Sj).trans eB) (fun g hg=>(m6.out.2.1 g hg).imp id (fun h=>by omega));have Z3:∀b∈S3,b∈S\/w.heap.size+1<=b:=fun b hb=>by
      have h2:=dG.out.size;have h3:=m6.out.2.2;rcases gU b hb with h1|h1
      ·exact m6.out.2.1 b h1
      ·simp at h1;exact .inr (by omega)
     have ka:=sh (show p.F/\p.At w3 S3 σ3 0/\ah S w w3/\∀b∈S3,b∈S\/w.heap.size+1<=b from ⟨hF,df,aaN,Z3⟩);obtain⟨f0,f1,f2,f3,f4,g0,g1,g2,g3,g4,l3⟩:=Wm.gG;clear nE df eB gU aaN Z3 Wm;go_wp2_with fail
     obtain⟨s0,s1,s2,s3,s4⟩:=HZ3.out.Gj (.string ⟨#[]⟩) (.string ⟨#[]⟩) (.int .i64 0) (.int .i64 0) (.int .i64 0);refine abT (v:= .tuple #[.agg #[.string ⟨#[]⟩,.string ⟨#[]⟩,.int .i64 0,.int .i64 0,.int .i64 0],.int .i64 9]) (by simp[results,results103,go_sem,l3,s0,s1,s2,s3,s4]) rfl (.inr ⟨ka.out.1,rfl,σ3,?_⟩);refine⟨S3,hp.off ka.out.2.1 ah.oR (fun b hb hu=> ?_),ka.out.2.2.1.then ah.oR (fun g hg=> ?_),fun b hb=>(ka.out.2.2.2 b hb).imp id (fun h=>by omega)⟩
     ·rw[IN]at hu
      subst hu;rcases ka.out.2.2.2 _ hb with h1|h1
      ·exact C7.out h1
      ·omega
     ·rw[IN]at hg
      subst hg;exact .inr (AS _)
structure Ac where
 n:Int
 key:ByteArray
 val:ByteArray
 gone:Bool
 fin:Bool
def UC (a:Ac):List No:=[.int .i64 a.n,.string a.key,.string a.val,.bool a.gone,.bool a.fin]
def lL (l:List Ac):List No:=(l.map UC).flatten
theorem nY(x:Ac)(l:List Ac):lL (x::l)=UC x++lL l:=by simp[lL]
theorem qk:∀(l:List Ac) (i:Nat) (h:i<l.length) (j:Nat),j<5->(lL l)[i*5+j]? =(UC l[i])[j]?
 | x::l,0,h,j,hj=>by
  rw[nY,adA,abR,acd (by show j<5;exact hj)];rfl
 | x::l,i+1,h,j,hj=>by
  rw[nY,abU (by show 5<=_;omega),show (i+1)*5+j-(UC x).length=i*5+j by show (i+1)*5+j-5=_;omega];exact qk l i (by simpa using h) j hj
theorem Gb{w:AI}{A:Option Addr}{l:List Ac}(h:Sl w A (lL l))(i:Nat)(hi:i<l.length):∃b o,A=some ⟨b,o,none⟩/\b<w.heap.size/\w.cell? ⟨b,o+i*5,none⟩=some (.int .i64 l[i].n)/\w.cell? ⟨b,o+i*5+1,none⟩=some (.string l[i].key)/\w.cell? ⟨b,o+i*5+2,none⟩=some (.string l[i].val)/\w.cell? ⟨b,o+i*5+3,none⟩=some (.bool l[i].gone)/\w.cell? ⟨b,o+i*5+4,none⟩=some (.bool l[i].fin):=by
 have g:=fun j hj=>qk l i hi j hj;obtain⟨b,o,hA,hb,h0⟩:=h _ _ ((g 0 (by omega)).trans rfl);obtain⟨b1,o1,UQ,-,h1⟩:=h _ _ ((g 1 (by omega)).trans rfl);obtain⟨b2,o2,Gp,-,h2⟩:=h _ _ ((g 2 (by omega)).trans rfl);obtain⟨b3,o3,hA3,-,h3⟩:=h _ _ ((g 3 (by omega)).trans rfl);obtain⟨b4,o4,hA4,-,h4⟩:=h _ _ ((g 4 (by omega)).trans rfl);subst hA;cases UQ
 cases Gp
 cases hA3
 cases hA4
 exact⟨b,o,rfl,hb,h0,h1,h2,h3,h4⟩
def Ac.cost (a:Ac):Nat:=if a.gone=true then 0 else 2+min a.val.size 1200/480
def ef (l:List Ac):Nat:=(l.map Ac.cost).sum
theorem nR{l:List Ac}{j:Nat}(h:j<l.length):ef (l.take (j+1))=ef (l.take j)+l[j].cost:=by
 unfold ef;rw[List.take_succ_eq_append_getElem h];simp only[abI,adX,acm,List.map_nil,List.sum_cons,List.sum_nil,adh]
theorem DT(l:List Ac){i j:Nat}(h:i<=j):ef (l.take i)<=ef (l.take j):=by
 have e:l.take i=(l.take j).take i:=by rw[List.take_take,Nat.min_eq_left h]
 rw[e];obtain⟨m,hm⟩:∃m,m=l.take j:=⟨_,rfl⟩;rw[<-hm];have:ef m=ef (m.take i)+ef (m.drop i):=by
  have e2:ef m=ef (m.take i++m.drop i):=by rw[abm]
  rw[e2];unfold ef;simp only[abI,adX,abm];rw[<-adX,<-abI,abm]
 omega
theorem Cn{n:Nat}(h:n<=1200):1+Tr.pieces n<=2+min n 1200/480:=by
 unfold Tr.pieces;split<;>omega
theorem Qy{w:AI}{A:Option Addr}{c:Nat}{l:List Ac}(h:Sl w A (lL l))(hc:c<=abj)(hl:l.length<=c)(hv:∀a∈l,a.val.size<=abj):aaf prog 29 #[.slice A l.length c] w (fun e w'=>e= .returned (.bool (decide (ef (l.take 80)<=60)))/\w'=w):=by
 have HA:=sh h;have HV:=sh hv;have Ef:c<=9223372036854775807:=by unfold abj at hc;omega
 clear h hv hc;go_enter func29,ntmps29
 go_wp2_with fail
 go_loopw [3,4] (fun nv iv wr=>∃j n:Nat,iv= .int .i64 j/\nv= .int .i64 n/\j<=l.length/\j<=80/\n<=4*j/\Hid (n=ef (l.take j))/\wr=w) (fun _ iv _=>80-(intOf iv).toNat)
 case atStart=>exact⟨0,0,rfl,rfl,abi _,by omega,by omega,sh rfl,rfl⟩
 case round=>
  obtain⟨j,n,rfl,rfl,hj,Xq,hn,HN,rfl⟩:=hrel;by_cases aH:j<l.length
  ·have z1:decide ((j:Int)<(l.length:Int))=true:=decide_eq_true (by omega)
   by_cases qs:j<80
   ·have z2:decide ((j:Int)<80)=true:=decide_eq_true (by omega)
    obtain⟨b,o,rfl,hb,q0,q1,q2,q3,q4⟩:=Gb HA.out j aH;have QL:=nR aH;have Wk:=HV.out _ (abE aH);obtain⟨x,hx⟩:∃x,x=l[j]:=⟨_,rfl⟩;rw[<-hx]at q0 q1 q2 q3 q4 QL Wk;obtain⟨xn,xk,xv,xg,xf⟩:=x;simp only at q0 q1 q2 q3 q4 Wk;have Dx:=sh QL;clear QL hx;cases xg with
    | true=>
     have gP:=sh (show n=ef (l.take (j+1))by rw[Dx.out,<-HN.out];rfl);clear HN Dx;go_wp2_with fail
     go_roundw
     case rel=>exact⟨j+1,n,by go_num,rfl,by omega,by omega,by omega,gP,trivial⟩
     case measure=>simp[intOf];omega
    | false=>
     obtain⟨m,hm⟩:∃m,m=min xv.size 1200:=⟨_,rfl⟩;have jf:(if xv.size<1200 then xv.size else 1200)=m:=by rw[hm];split<;>omega
     have kU:(if (xv.size:Int)<1200 then (xv.size:Int)else 1200)=(m:Int):=by rw[hm];split<;>omega
     have kL:m<=1200:=by omega
     have gP:=sh (show n+2+m/480=ef (l.take (j+1))by rw[Dx.out,<-HN.out,hm];unfold Ac.cost;simp;omega);clear HN Dx hm;go_wp2_with fail
     go_roundw
     case rel=>exact⟨j+1,n+2+m/480,by go_num,by go_num,by omega,by omega,by omega,gP,trivial⟩
     case measure=>simp[intOf];omega
   ·have z2:decide ((j:Int)<80)=false:=decide_eq_false (by omega)
    obtain⟨q,hq⟩:∃q,q=decide (n<=60):=⟨_,rfl⟩;have Q7:decide ((n:Int)<=60)=q:=by
     rw[hq];by_cases h:n<=60
     ·rw[decide_eq_true h,decide_eq_true (by omega)]
     ·rw[decide_eq_false h,decide_eq_false (by omega)]
    have MU:=hq.symm;have HE:=sh (show q=decide (ef (l.take 80)<=60) from by
     rw[hq];obtain rfl:j=80:=by omega
     rw[<-HN.out])
    clear HN hq;go_wp2_with fail
    go_ret
    exact⟨by rw[HE.out];rfl,rfl⟩
  ·have z1:decide ((j:Int)<(l.length:Int))=false:=decide_eq_false (by omega)
   obtain⟨q,hq⟩:∃q,q=decide (n<=60):=⟨_,rfl⟩;have Q7:decide ((n:Int)<=60)=q:=by
    rw[hq];by_cases h:n<=60
    ·rw[decide_eq_true h,decide_eq_true (by omega)]
    ·rw[decide_eq_false h,decide_eq_false (by omega)]
   have MU:=hq.symm;have HE:=sh (show q=decide (ef (l.take 80)<=60) from by
    rw[hq];obtain rfl:j=l.length:=by omega
    rw[aca (by omega)];have h9:=HN.out;rw[List.take_length]at h9;rw[<-h9])
   clear HN hq;go_wp2_with fail
   go_ret
   exact⟨by rw[HE.out];rfl,rfl⟩
end Go.Proofs.YtjbcbnemdhbhbaaGreatDoor
namespace Go.Proofs.YtjbcbnemdhbhbaaGreatDoor
open Go.Proofs.Tryz
open Go.ChangeShapes Go.WideShapes Go.ChangeAt Go.RowKit
theorem add_plain(b o j:Nat):(⟨b,o,none⟩:Addr).add j=⟨b,o+j,none⟩:=by
 unfold Addr.add;by_cases h0:j=0<;>simp[h0]
theorem yL{α :Type}{n:Nat}{p:Nat-> α ->Prop}(h:∀i,i<n->∃a,p i a):∃l:List α,l.length=n/\∀i a,l[i]? =some a->p i a:=by
 induction n with
 | zero=>exact⟨[],rfl,fun i a h=>by simp at h⟩
 | succ n ih=>
  obtain⟨l,hl,hp⟩:=ih (fun i hi=>h i (by omega));obtain⟨a,ha⟩:=h n (by omega);refine⟨l++[a],by simp[hl],fun i b hb=> ?_⟩;by_cases hi:i<l.length
  ·rw[acd hi]at hb
   exact hp i b hb
  ·rw[abU (by omega)]at hb
   have aH:i-l.length<1:=(abB.1 hb).1;obtain rfl:i=n:=by omega
   rw[hl,agj]at hb;injection hb with hb;subst hb;exact ha
theorem Qe{H:Type}{enc:TypeId×No->H}{W:AI}{base:Nat}{spare:Nat->Bool}{held:Bool}{fuel:Nat}{c0 c1 c2 c3 c4:No}{x:DataW H×List MemPlace}
  (hf:DataW.trod enc prog W base spare held fuel 137 [c0,c1,c2,c3,c4]=some x):∃a:Ac,[c0,c1,c2,c3,c4]=UC a/\a.key.size<=abj/\a.val.size<=abj:=by
 obtain⟨xs,n,_,hx,_,hlen,hg⟩:=DataW.trod_struct underlying137 hf;have k1:prog.cellsOf 3=1:=by kernel_rfl
 have k2:prog.cellsOf 4=1:=by kernel_rfl
 have k3:prog.cellsOf 9=1:=by kernel_rfl
 match xs,hlen with
 | [y0,y1,y2,y3,y4],_=>
  obtain⟨a0,e0,_,_⟩:=DataW.trod_int underlying3 (hg 0 _ rfl);obtain⟨a1,e1,_,w1⟩:=DataW.trod_string underlying9 (hg 1 _ rfl);obtain⟨a2,e2,_,w2⟩:=DataW.trod_string underlying9 (hg 2 _ rfl);obtain⟨a3,e3,_⟩:=DataW.trod_bool underlying4 (hg 3 _ rfl);obtain⟨a4,e4,_⟩:=DataW.trod_bool underlying4 (hg 4 _ rfl);simp[k1,k2,k3]at e0 e1 e2 e3 e4;subst e0 e1 e2 e3 e4;exact⟨⟨a0,a1,a2,a3,a4⟩,rfl,w1,w2⟩
theorem yT(l:List Ac):(lL l).length=l.length*5:=by
 induction l with
 | nil=>rfl
 | cons x l ih=>rw[nY,List.length_append,ih,abv,show (UC x).length=5 from rfl];omega
theorem Fa{H:Type}{enc:TypeId×No->H}{W:AI}{base b0:Nat}{spare:Nat->Bool}{held:Bool}{r:Reach}{v:No}{d:DataW H}{p:List MemPlace}
  (hv:Value.okWide prog W r b0 64 v) (h:DataW.Trod enc prog W base spare held 64 v d p):
  ∃(A:Option Addr) (xs:List Ac) (cap:Nat),v= .slice A xs.length cap/\cap<=abj/\xs.length<=cap/\(∀a∈xs,a.key.size<=abj/\a.val.size<=abj)/\Sl W A (lL xs):=by
 obtain⟨a,len,cap,rfl⟩:=okWide_slice underlying64 hv;obtain⟨fuel,hf⟩:=h;rcases Go.Deep.open_slice underlying64 hf with⟨fy,_⟩|⟨x,l,c,m,n,D,Pl,fy,hb,hl,hm,kV,_,hx⟩
 ·simp[Value.cells]at fy
  obtain⟨rfl,rfl,rfl⟩:=fy;exact⟨none,[],0,rfl,abi _,abi _,by simp,Sl.nil _ _⟩
 ·simp[Value.cells]at fy
  obtain⟨rfl,rfl,rfl⟩:=fy;have xI:len<=m:=by rw[kV];split<;>omega
  have ce:prog.cellsOf 137=5:=by kernel_rfl
  have each:∀i,i<len->∃y:Ac,(∀j,j<5->W.cell? ((x.add (i*5)).add j)=(UC y)[j]?)/\y.key.size<=abj/\y.val.size<=abj:=by
   intro i hi;obtain⟨AF,h1,h2⟩:=hx i (by omega);rw[ce]at h1;obtain⟨_,hlen,gb⟩:=World.cells?_some h1
   match AF,hlen with
   | [c0,c1,c2,c3,c4],_=>
    obtain⟨y,hy,fA⟩:=Qe h2;refine⟨y,fun j hj=> ?_,fA⟩;rw[gb j hj,hy]
  obtain⟨xs,M7,TH⟩:=yL each;refine⟨some x,xs,cap,by rw[M7],by omega,by omega,fun a ha=> ?_,fun q u hu=> ?_⟩
  ·obtain⟨i,hi⟩:=List.getElem?_of_mem ha
   exact(TH i a hi).2
  ·have hql:q<xs.length*5:=by
    have:=(abB.1 hu).1
    rwa [yT]at this
   have vH:q/5<xs.length:=by omega
   have hq:q=q/5*5+q%5:=by omega
   have sg:=(TH (q/5) xs[q/5] (aaG vH)).1 (q%5) (Nat.mod_lt _ (by decide));rw[hq,qk xs (q/5) vH (q%5) (Nat.mod_lt _ (by decide))]at hu;rw[hu]at sg;obtain⟨b,o,spot⟩:=x;have aba:spot=none:=by
    have hz:=(TH 0 xs[0] (by rw[aaG (by omega)])).1 0 (by decide);have hz':W.cell? (((⟨b,o,spot⟩:Addr).add (0*5)).add 0)=some (.int .i64 xs[0].n):=hz;simpa[Addr.add]using World.cell?_spot hz'
   subst aba;rw[Go.WideShapes.add_plain,Go.WideShapes.add_plain,Nat.add_assoc,<-hq]at sg;refine⟨b,o,rfl,?_,sg⟩;rcases Nat.lt_or_ge b W.heap.size with aH|Eo
   ·exact aH
   ·simp[World.cell?,Array.getElem?_eq_none Eo]at sg
end Go.Proofs.YtjbcbnemdhbhbaaGreatDoor
