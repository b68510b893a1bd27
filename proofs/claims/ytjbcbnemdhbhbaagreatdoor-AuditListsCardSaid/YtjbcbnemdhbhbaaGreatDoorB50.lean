import Derived.Test.YtjbcbnemdhbhbaaGreatDoorB17
import Derived.LoopN
import Derived.Test.YtjbcbnemdhbhbaaGreatDoorB11
import Derived.Test.YtjbcbnemdhbhbaaGreatDoorB7
import Derived.Test.YtjbcbnemdhbhbaaGreatDoorB12
import Derived.Test.YtjbcbnemdhbhbaaGreatDoorB5
import Derived.Test.YtjbcbnemdhbhbaaGreatDoorB1
import Derived.ProofKit
import Derived.OpenShut
import Derived.ShutString
import Derived.ChangeOld
import Derived.SliceStrings
import Derived.Deep.SlicePairs
set_option maxRecDepth 100000
set_option linter.unusedVariables false
set_option linter.unusedSimpArgs false
set_option maxHeartbeats 40000000
open ByteArray renaming size_extract→agl
open Go renaming Calls→aag,Ending→aci,Value→IS,World→AI,bodyPost_ret→abT,maxLen→abi,rounds_succ→abK
open Go.IntKind renaming wrap_i64→acC
open Go.IntWalk renaming wrap64_in→aeB
open Go.Lib renaming hid→sh
open Go.RowKit renaming Below→No
open Go.RowKit.Below renaming refl→IN
open Go.Value renaming int→acK
open Go.World.ownsRow renaming frozenAt→adP,lt→abr,stored→aed
open List renaming append_assoc→OF,append_nil→adp,drop_eq_getElem_cons→abP,flatMap_cons→abL,flatMap_map→agG,getElem?_append_left→acr,getElem?_append_right→abX,getElem?_eq_getElem→aaG,getElem?_eq_some_iff→abA,getElem_cons_zero→acV,getElem_mem→abw,length→afR,length_cons→abB,length_drop→abS,length_map→aae,length_set→aem,length_take→abv,map_append→abH,map_cons→acp,mem_append→AT,mem_cons→IT,mem_flatMap→abp,mem_map→abO,mem_map_of_mem→abR,mem_singleton→By,nodup_append→aai,perm_append_comm→adB,set_eq_take_append_cons_drop→ahb,sum_append→adX,take_append_drop→abm,take_of_length_le→abI
open List.Pairwise renaming nil→aft
open List.Perm renaming append_left→acw
open List.cons renaming injEq→adz
open Nat renaming add_zero→adi,le_add_right→agE,le_refl→AS,le_trans→abE,lt_of_lt_of_le→aaf,sub_self→agd,zero_add→abU,zero_le→abc,zero_mul→adE
open Option renaming some→aeu
open Option.some renaming injEq→acI
namespace Go.Proofs.YtjbcbnemdhbhbaaGreatDoor
open Go.Proofs.Tryz
open Go.RowKit
theorem sZ{p:aA}(hp:dc p){fc:Nat}{cR:Array IS}{w0:AI}{S0:List Nat}{σ0:ag}{X:List Nat}{f:List En->List En}{iG:Bool}(key:ByteArray)(hf:Tr.eK key f)(yq:pL p fc cR w0 S0 σ0 X iG key f):∀d,xJ p fc cR w0 S0 σ0 X iG f key d
 | 0=>zV hp key hf yq
 | d+1=>vf hp key hf d (sZ hp key hf yq d)
def Ds (p:aA) (S:List Nat) (σ :ag) (k d0:Nat) (P:List Nat) (L:List En) (w:AI) (v:IS) (w':AI):Prop:=
 ∃(r:Rw) (d:Nat) (cs:List Ce) (P':List Nat) (σ':ag) (S':List Nat) (k':Nat),v= .slice r.A r.n r.c/\gy w' (Cl 0 S') r [⟨⟨#[]⟩,d==0,cs⟩]/\Tr.Part σ' d cs P' L/\Nd.sum (d==0) cs<=488/\Tr.aE (if d=0 then 0 else Tr.rp d0 2) σ P σ' P'/\p.At w' S' σ' k'/\(k<=k'+2/\(d=0->d0=0))/\ah S w w'/\aj w S S'
def aX (p:aA) (S:List Nat) (σ :ag) (k c n:Nat) (Q:List Nat) (L:List En) (w:AI) (e:aci) (w':AI):Prop:=
 (∃(root:Nat) (P':List Nat) (σ':ag) (S':List Nat) (k':Nat),e= .returned (.tuple #[.int .i64 root,.int .i64 0])/\Tr.dE σ' root P' L/\Tr.aE n σ Q σ' P'/\p.At w' S' σ' k'/\k<=k'+c/\ah S w w'/\aj w S S')\/Full p S w w' e (.returned (.tuple #[.int .i64 0,.int .i64 9]))
abbrev kc (p:aA) (S:List Nat) (σ :ag) (k c:Nat) (Q:List Nat) (L:List En) (w:AI) (e:aci) (w':AI):Prop:=aX p S σ k c 2 Q L w e w'
theorem GP{p:aA}(hp:dc p){w:AI}{S:List Nat}{σ :ag}{k:Nat}(h:p.At w S σ k){d:Nat}{ps:List Pt}{P:List Nat}{L:List En}{xs:List Tr.Pd}{r:Rw}(Eg:Tr.Parts σ d ⟨#[]⟩ ps P L xs)(hP:P.Nodup)(hr:gy w (Cl 0 S) r ps)(hk:p.F\/4<=k):
  aag prog 161 #[.iface p.T p.v,.slice r.A r.n r.c] w (aX p S σ k 4 (Tr.rp d 2) P L w):=by
 obtain⟨A,n,cap⟩:=r;have gr:=hr;obtain⟨h1,h2,h3,-⟩:=gr;simp only at h1 h2 h3 |-;have mG:ps.length=xs.length:=by rw[Eg.Ws,aae]
 rw[mG]at h1;subst h1;have dC:cap<=9223372036854775807:=by unfold abi at h3;omega
 have xP:=sh Eg;have HR:=sh hr;have HA:=sh h;have HK:=sh hk;have HP:=sh hP;have pM:=sh mG;clear Eg hr h hk h3 hP mG;go_enter func161,ntmps161
 go_upto_block 0 with fail
 go_cut [1] (fun v wx=>Ds p S σ k d P L w v wx)
 case first=>
  have Iv:(xs.length=1/\decide ((1:Int)<(xs.length:Int))=false)\/(xs.length=2/\decide ((1:Int)<(xs.length:Int))=true):=by
   rcases xP.out.count with h|h
   ·exact .inl ⟨h,decide_eq_false (by omega)⟩
   ·exact .inr ⟨h.1,decide_eq_true (by omega)⟩
  rcases Iv with⟨hc,z1⟩|⟨hc,z1⟩
  ·obtain⟨x,hx,Bj,hxP,hxL,XB,CZ,Em⟩:=xP.out.one hc
   have HW:=sh (show Ds p S σ k d P L w (.slice A xs.length cap) w from ⟨⟨A,xs.length,cap⟩,d,x.cs,x.P,σ,S,k,rfl,by rw[<-XB];exact HR.out,by rw[hxL];exact Em,CZ,by rw[<-hxP];exact(Tr.aE.refl (fun n hn=>by rw[hxP]at hn;exact(Em.mem n hn).2.2) HP.out).more (abc _),HA.out,⟨by omega,id⟩,ah.refl _ _,aj.refl _ _⟩);clear hc hx Bj hxP hxL XB CZ Em;go_wp2_with fail
   refine wp_loop_rounds 1 ?_;rw[abK];go_wp2_with fail
   go_meet
   exact HW.out
  ·have hg:∀x∈xs,Tr.Good (d==0) x.cs x.L/\Tr.GY d x.L:=by
    rcases xP.out.count with h|h
    ·omega
    ·exact h.2
   have tG:=HR.out;rw[xP.out.Ws]at tG;have hN:(xs.flatMap (·.P)).Nodup:=by rw[<-xP.out.aa];exact HP.out
   have WV:=sh (tU hp HA.out hN (fun x hx=>⟨(xP.out.each x hx).2.2,(xP.out.each x hx).2.1,(hg x hx).1⟩) tG (abc _) (HK.out.imp id (fun _=>by omega)) (by omega));have HC:=sh hc;have MP:0<xs.length:=by omega
   have HG:=sh hg;clear hc hg tG hN;go_wp2_with fail
   refine wp_loop_rounds 2 ?_;rw[abK];go_wp2_with fail
   refine WV.out.mono ?_;rintro e w6 (⟨A',c',kW,σ',rfl,dP,rZ,Bd,AL,S6,ki,gY,ju,Eb⟩|⟨hF,rfl,σ',S6,ki,gY,ju⟩)
   ·have D7:kW.length=2:=by
     have:=congrArg afR rZ;rw[aae,aae,HC.out]at this;exact this
    obtain⟨g6,rfl,Z7,Z8,-,Vo,D4⟩:=dP.full (by rw[aae];omega);have tJ:=dP.here (Eb g6 rfl);obtain⟨x0,t0,CY,Bj⟩:=xP.out.head;have Ga:Tr.Kids σ' d kW:=by
     refine⟨?_,by rw[rZ];exact xP.out.sep,fun k0 oe=>⟨⟨?_,?_⟩,Bd k0 oe⟩⟩
     ·cases kW with
      | nil=>simp at D7
      | cons k0 t=>
       refine⟨k0,t,rfl,?_⟩;rw[CY]at rZ;simp only[acp,adz]at rZ;have:=congrArg Prod.fst rZ.1;simp only[Kd.rg,Tr.Pd.rg]at this;rw[this,Bj]
     ·have:k0.rg∈xs.map Tr.Pd.rg:=by rw[<-rZ];exact abR oe
      obtain⟨y,hy,e⟩:=abO.1 this;have e1:=congrArg Prod.fst e;simp only[Kd.rg,Tr.Pd.rg]at e1;rw[<-e1];exact(xP.out.each y hy).1
     ·have:k0.rg∈xs.map Tr.Pd.rg:=by rw[<-rZ];exact abR oe
      obtain⟨y,hy,e⟩:=abO.1 this;have e1:=congrArg Prod.snd e;simp only[Kd.rg,Tr.Pd.rg]at e1;rw[<-e1];exact(HG.out y hy).2
    have Zg:kW.flatMap (·.L)=L:=by
     have e1:∀(l:List Kd),l.flatMap (·.L)=(l.map Kd.rg).flatMap (·.2):=fun l=>by rw[agG];rfl
     have e2:∀(l:List Tr.Pd),l.flatMap (·.L)=(l.map Tr.Pd.rg).flatMap (·.2):=fun l=>by rw[agG];rfl
     rw[xP.out.nE,e1,e2,rZ]
    have cM:Tr.Part σ' (d+1) (kW.map Kd.cell) (kW.flatMap (·.P)) L:=by have:=Ga.part;rwa [Zg]at this
    have dJ:Nd.sum false (kW.map Kd.cell)<=488:=by
     obtain⟨a,b,e⟩:∃a b,kW=[a,b]:=by
      match kW,D7 with
      | [a,b],_=>exact⟨a,b,rfl⟩
     have h1:=(Ga.each a (by rw[e];simp)).1.1;have h2:=(Ga.each b (by rw[e];simp)).1.1;rw[e];simp[Nd.sum,Tr.pw];omega
    have HPO:=sh (mL ⟨#[]⟩ false ⟨some ⟨g6,0,none⟩,kW.length,c'⟩ (kW.map Kd.cell) (Cl 0 S6) w6 tJ cM.right.2 dJ);have pN:=sh tJ;have HW:=sh (show ∀(g:Nat) (w8:AI),No w6.heap.size w6 w8->w6.heap.size<=g->Bk w8 g 319 #[.string ⟨#[]⟩,.bool false,.slice (some ⟨g6,0,none⟩) kW.length c']->Ds p S σ k d P L w (.slice (some ⟨g,0,none⟩) 1 1) w8 from fun g w8 vj hg8 Qy=>
     ⟨⟨some ⟨g,0,none⟩,1,1⟩,d+1,kW.map Kd.cell,_,σ',S6,_,rfl,gy.lit (x:=⟨⟨#[]⟩,d+1==0,kW.map Kd.cell⟩) (q:=⟨some ⟨g6,0,none⟩,kW.length,c'⟩) Qy ⟨abc _,fun hh=>by have:=hp.old ki g hh;omega⟩ (tJ.below vj),cM,dJ,by rw[xP.out.aa];exact AL.more (by rw[if_neg (Nat.succ_ne_zero d),HC.out];exact AS _),hp.below ki vj,⟨by rw[HC.out];omega,fun h=>absurd h (Nat.succ_ne_zero d)⟩,gY.trans (ah.ae vj S),ju⟩)
    have T4:=sh D7;clear tJ cM dJ Zg Ga CY Bj dP rZ Bd AL ki gY ju Eb D7 D4;go_wp2_with fail
    refine HPO.out.mono ?_;rintro e w8 ⟨vj,g8,hg8,rfl,Qy⟩;have HW8:=sh (HW.out g8 w8 vj hg8 Qy);clear vj hg8 Qy;go_wp2_with fail
    rw[abK];go_wp2_with fail
    go_meet
    exact HW8.out
   ·have bV:=sh (show aX p S σ k 4 (Tr.rp d 2) P L w (.returned (.tuple #[.int .i64 0,.int .i64 9])) w6 from .inr ⟨hF,rfl,σ',S6,ki,gY,ju⟩)
    clear ki gY ju;go_wp2_with fail
    go_ret2
    exact bV.out
 case rest=>
  obtain⟨r1,d1,cs,P1,σ1,S1,k1,rfl,tG,cM,dJ,jE,cL,dw,bS,bZ⟩:=hcut;obtain⟨dw,ZP⟩:=dw;have IE:(if d1=0 then 0 else Tr.rp d 2)+Tr.rp d1 1<=Tr.rp d 2:=by
   unfold Tr.rp;by_cases e:d1=0
   ·rw[if_pos e,if_pos e,if_pos (ZP e)];omega
   ·rw[if_neg e,if_neg e];exact AS _
  have Mm:=jE.more (abE (agE _ _) IE);have adr:=sh IE;clear IE ZP;obtain⟨rA,rn,rc⟩:=r1;obtain⟨bp,op,Y8,Zp,qp,p0,p1,p2,uY⟩:=tG.at 0 (by simp);simp only at Y8;subst Y8;simp only[acV,adE,adi]at p0 p1 p2 uY;have Gg:rn=1:=tG.1;subst Gg;have afM:rc<=9223372036854775807:=by have h:=tG.2.2.1;simp only at h;unfold abi at h;omega
  have alR:1<=rc:=tG.2.1;have ZG:=Zp.2;have O5:qp.n=cs.length:=uY.1;have hqm:qp.c<=9223372036854775807:=by have h:=uY.2.2.1;unfold abi at h;omega
  have qZ:=uY.2.1;have od:cs.length<=1000:=by have:=Nd.e8 (d1==0) cs;omega
  have fj:(cs=[]/\d1=0)\/(∃d2,d1=d2+1/\cs.length=1)\/Tr.Good (d1==0) cs L:=by
   cases d1 with
   | zero=>
    obtain⟨e1,-⟩:=cM;cases L with
    | nil=>exact .inl ⟨e1,rfl⟩
    | cons a t=>exact .inr (.inr ⟨List.cons_ne_nil _ _,fun h=>by cases h⟩)
   | succ d2=>
    obtain⟨ks,hB,e1,e2,e3⟩:=Tr.Kids.ph cM;obtain⟨k0,t,e4,-⟩:=hB.first;subst e4;cases t with
    | nil=>exact .inr (.inl ⟨d2,rfl,by rw[e1];rfl⟩)
    | cons a t=>
     refine .inr (.inr ⟨?_,fun _=>by rw[e1];simp⟩);rw[e3,abL];have:=(hB.each k0 (by simp)).2.ne;simp[this]
  obtain⟨qA,qn,qc⟩:=qp;simp only at O5 hqm qZ p2;subst O5;rcases fj with⟨rfl,rfl⟩|⟨d2,rfl,rW⟩|hg
  ·obtain⟨e1,e2,-⟩:=cM
   have hL:L=[]:=by simpa using e1.symm
   subst hL;have hP1:P1=[]:=by simpa using e2
   subst hP1;have HE:=sh (show aX p S σ k 4 (Tr.rp d 2) P [] w (.returned (.tuple #[.int .i64 0,.int .i64 0])) (wc.alloc (.cells #[.string ⟨#[]⟩,.bool true,.slice qA 0 qc] 319)) from
    .inl ⟨0,[],σ1,S1,k1,rfl,.inl ⟨rfl,rfl,rfl⟩,Mm,hp.below cL ((IN _ _).alloc (AS _) _),by omega,bS.alloc _,bZ⟩)
   clear tG uY e1 e2 jE Mm cL bS bZ;go_wp2_with fail
   go_ret2
   exact HE.out
  ·obtain⟨ks,hB,e1,e2,e3⟩:=Tr.Kids.ph cM
   obtain⟨k0,t,e4,-⟩:=hB.first;subst e4;have ht:t=[]:=by
    rw[e1]at rW;cases t with
    | nil=>rfl
    | cons a t=>simp at rW
   subst ht;have bm:=(hB.each k0 (by simp)).2;obtain⟨b3,o3,c3,O4,aQ,-,-⟩:=uY.some (by omega);injection O4 with O4 hq4 hq5;subst O4 hq5;have OX:=oU (ks:=[k0]) (by rw[<-e1];exact uY) 0 (by simp);simp only[adE,adi,acV]at OX;have u4:=OX.2;have e2':P1=k0.P:=by rw[e2];simp
   have e3':L=k0.L:=by rw[e3];simp
   have HE:=sh (show aX p S σ k 4 (Tr.rp d 2) P L w (.returned (.tuple #[.int .i64 k0.no,.int .i64 0])) (wc.alloc (.cells #[.string ⟨#[]⟩,.bool false,.slice (some ⟨b3,o3,none⟩) cs.length qc] 319)) from
    .inl ⟨k0.no,k0.P,σ1,S1,k1,rfl,.inr ⟨d2,by rw[e3'];exact bm⟩,by rw[<-e2'];exact Mm,hp.below cL ((IN _ _).alloc (AS _) _),by omega,bS.alloc _,bZ⟩)
   have z1:((cs.length:Int)==0)=false:=by rw[rW];rfl
   have z2:((cs.length:Int)==1)=true:=by rw[rW];rfl
   have z3:(cs.length==0)=false:=by rw[rW];rfl
   have z4:(cs.length==1)=true:=by rw[rW];rfl
   have ak9:0<cs.length:=by omega
   clear tG uY jE Mm cL bS bZ hB bm OX rW cM e1 e2 e3 e2' e3';go_wp2_with fail
   go_ret2
   exact HE.out
  ·have hN:([(⟨⟨#[]⟩,cs,P1,L⟩:Tr.Pd)].flatMap (·.P)).Nodup:=by simpa using jE.nodup
   have gX:No wc.heap.size wc (wc.alloc (.cells #[.string ⟨#[]⟩,.bool (d1==0),.slice qA cs.length qc] 319)):=(IN _ _).alloc (AS _) _;have WV:=sh (tU hp (hp.below cL gX) (d:=d1) (xs:=[⟨⟨#[]⟩,cs,P1,L⟩]) (r:=⟨some ⟨bp,op,none⟩,1,rc⟩) hN (fun x hx=>by
    obtain rfl:=By.1 hx;exact⟨cM,dJ,hg⟩) (tG.below gX) (abc _) (HK.out.imp id (fun _=>by show 1<=k1;omega)) (by simp))
   have Av:0<cs.length:=by
    cases d1 with
    | zero=>
     obtain⟨e1,-⟩:=cM;cases hL:L with
     | nil=>exact absurd hL hg.1
     | cons a t=>rw[e1,hL];simp
    | succ d=>have:=hg.2 rfl;omega
   have z1:((cs.length:Int)==0)=false:=by rw[beq_eq_false_iff_ne];omega
   have z3:(cs.length==0)=false:=by rw[beq_eq_false_iff_ne];omega
   obtain⟨leaf,jO⟩:∃leaf,leaf=(d1==0):=⟨_,rfl⟩;have mV:leaf=true\/(leaf=false/\((cs.length:Int)==1)=false/\(cs.length==1)=false):=by
    cases hl:leaf with
    | true=>exact .inl rfl
    | false=>
     have:=hg.2 (by rw[<-jO,hl]);exact .inr ⟨rfl,by rw[beq_eq_false_iff_ne];omega,by rw[beq_eq_false_iff_ne];omega⟩
   rw[<-jO]at p1 WV;have j5:=sh (show Tr.aE (if d1=0 then 0 else Tr.rp d 2) σ P σ1 P1/\k<=k1+2/\ah S w wc/\aj w S S1 from ⟨jE,dw,bS,bZ⟩);have WY:=sh (show ∀b,ah S w (wc.alloc (.cells #[.string ⟨#[]⟩,.bool b,.slice qA cs.length qc] 319)) from fun b=>bS.alloc _);clear tG uY jE Mm cL bS bZ cM dJ hg hN gX jO;rcases mV with rfl|⟨rfl,z5,z6⟩;all_goals
    go_wp2_with fail
    refine WV.out.mono ?_;rintro e w6 (⟨A',c',kW,σ',rfl,dP,rZ,Bd,AL,S6,ki,gY,ju,Eb⟩|⟨hF,rfl,σ',S6,ki,gY,ju⟩)
    ·obtain⟨k0,rfl⟩:∃k0,kW=[k0]:=by
      have:=congrArg afR rZ;simp at this
      match kW,this with
      | [a],_=>exact⟨a,rfl⟩
     obtain⟨g6,rfl,Z7,Z8,-,Vo,D4⟩:=dP.full (by simp);have OX:=oU (ks:=[k0]) dP.as 0 (by simp);simp only[adE,adi,abU,acV]at OX;have u4:=OX.2;have hL0:k0.L=L:=by
      simp only[acp,List.map_nil,adz,and_true]at rZ;have:=congrArg Prod.snd rZ;exact this
     have V5:=Bd k0 (by simp);rw[hL0]at V5;have aay:Tr.aE (Tr.rp d 2) σ P σ' k0.P:=(j5.out.1.trans (show Tr.aE (Tr.rp d1 1) σ1 P1 σ' k0.P by simpa using AL)).more adr.out;have aeX:c'<=9223372036854775807:=by unfold abi at D4;omega
     have ak7:1<=c':=Vo;have HE:=sh (show aX p S σ k 4 (Tr.rp d 2) P L w (.returned (.tuple #[.int .i64 k0.no,.int .i64 0])) w6 from
      .inl ⟨k0.no,k0.P,σ',S6,_,rfl,.inr ⟨d1,V5⟩,aay,ki,by have:=j5.out.2.1;simp;omega,(WY.out _).then gY j5.out.2.2.2,j5.out.2.2.2.trans ju (WY.out _).size⟩)
     clear dP rZ Bd AL ki gY ju Eb OX V5 aay hL0 D4;go_wp2_with fail
     go_ret2
     exact HE.out
    ·have HE:=sh (show aX p S σ k 4 (Tr.rp d 2) P L w (.returned (.tuple #[.int .i64 0,.int .i64 9])) w6 from
      .inr ⟨hF,rfl,σ',S6,ki,(WY.out _).then gY j5.out.2.2.2,j5.out.2.2.2.trans ju (WY.out _).size⟩)
     clear ki gY ju;go_wp2_with fail
     go_ret2
     exact HE.out
theorem aX.from{p:aA}{S S1:List Nat}{σ σ1:ag}{k k1 c c1 a b:Nat}{Q P1:List Nat}{L:List En}{w w1:AI}{e:aci}{w':AI}(hm:Tr.aE a σ Q σ1 P1)(hk:k<=k1+c1)(ho:ah S w w1)(hf:aj w S S1)(h:aX p S1 σ1 k1 c b P1 L w1 e w'):aX p S σ k (c1+c) (a+b) Q L w e w':=by
 rcases h with⟨root,P',σ',S',k',rfl,h1,h2,h3,h4,h5,h6⟩|⟨hF,rfl,σ',S',h1,h2,h3⟩
 ·exact .inl ⟨root,P',σ',S',k',rfl,h1,hm.trans h2,h3,by omega,ho.then h5 hf,hf.trans h6 ho.size⟩
 ·exact .inr ⟨hF,rfl,σ',S',h1,ho.then h2 hf,hf.trans h3 ho.size⟩
theorem aX.letters{p:aA}{S:List Nat}{σ :ag}{k c n:Nat}{Q:List Nat}{L:List En}{w:AI}{e:aci}{w':AI}(h:aX p S σ k c n Q L w e w'):∃a b:Int,e= .returned (.tuple #[.int .i64 a,.int .i64 b])/\Hid (aX p S σ k c n Q L w (.returned (.tuple #[.int .i64 a,.int .i64 b])) w'):=by
 rcases h with⟨root,P',σ',S',k',rfl,h1⟩|⟨hF,rfl,h1⟩
 ·exact⟨root,0,rfl,sh (.inl ⟨root,P',σ',S',k',rfl,h1⟩)⟩
 ·exact⟨0,9,rfl,sh (.inr ⟨hF,rfl,h1⟩)⟩
theorem aX.more{p:aA}{S:List Nat}{σ :ag}{k c c' n n':Nat}{Q:List Nat}{L:List En}{w:AI}{e:aci}{w':AI}(h:aX p S σ k c n Q L w e w')(hc:c<=c')(hn:n<=n'):aX p S σ k c' n' Q L w e w':=by
 rcases h with⟨root,P',σ',S',k',h0,h1,h2,h3,h4,h5⟩|h
 ·exact .inl ⟨root,P',σ',S',k',h0,h1,h2.more hn,h3,by omega,h5⟩
 ·exact .inr h
def Tr.fa (σ :ag) (c:Nat) (root:Nat) (P:List Nat) (L:List En):Prop:=(root=0/\P=[]/\L=[]/\4<=c)\/∃d,Tr.aJ σ d root P L/\2*d+4<=c
theorem Tr.fa.root{σ :ag}{c root:Nat}{P:List Nat}{L:List En}(h:Tr.fa σ c root P L):Tr.dE σ root P L:=by
 rcases h with⟨h1,h2,h3,-⟩|⟨d,h,-⟩
 ·exact .inl ⟨h1,h2,h3⟩
 ·exact .inr ⟨d,h⟩
theorem Tr.dE.ed{σ :ag}{root:Nat}{P:List Nat}{L:List En}(h:Tr.dE σ root P L)(hn:P.Nodup):Tr.fa σ 20 root P L:=by
 rcases h with⟨h1,h2,h3⟩|⟨d,h⟩
 ·exact .inl ⟨h1,h2,h3,by omega⟩
 ·exact .inr ⟨d,h,by have:=h.low hn;omega⟩
theorem v8{p:aA}(hp:dc p){fc:Nat}{cR:Array IS}{w0:AI}{S0:List Nat}{σ0:ag}{X:List Nat}{f:List En->List En}{iG:Bool}(key:ByteArray)(hf:Tr.eK key f)(yq:pL p fc cR w0 S0 σ0 X iG key f)
  {w:AI} {S:List Nat} {σ :ag} {k:Nat} (h:p.At w S σ k) (h0:ah S0 w0 w) (h1:aj w0 S0 S) (root:Nat) {P:List Nat} {L:List En} {c:Nat} (uZ:Tr.fa σ c root P L) (cg:(P++X).Nodup) (hX:∀n∈X,σ n= σ0 n/\ σ n≠none) (oM:Tr.Has iG key L) (hk:p.F\/c<=k):
  aag prog 104 #[.iface p.T p.v,.int .i64 root,.string key,.func (.func fc) #[] cR] w (kc p S σ k c (P++X) (f L) w):=by
 have he:=yq.enter;rcases uZ with⟨rfl,rfl,rfl,Kf⟩|⟨d,bm,hcd⟩
 ·have hDO:=yq.yf w S σ k [] none 0 w.heap.size h0 h1 h aft oM (by simp) (by simpa using cg) (fun n hn=>(hX n hn).1) (World.ownsRow_nil _ _ _ _) h0.size (by intro g hg;cases hg) (AS _) (by simp)
  simp only[List.length_nil]at hDO;have HDO:=sh hDO;have IQ:=hf.rise [] aft;have SM:=hf.grow [];have HRI:=sh IQ;have dJ:Nd.sum true ((f []).map (·.cell))<=488:=by simp[Nd.sum]at SM |-;omega
  have pP:=sh dJ;have HK:=sh hk;have fZ:=sh (hp.old h);clear hDO IQ SM dJ h h0 h1 cg hX hk yq oM;go_enter func104,ntmps104
  go_wp2_with fail
  refine HDO.out.mono ?_;rintro e w3 ⟨A',c',σ',S',U,rfl,AX,qi,Iw,df,eA,Zq,gQ⟩;have bS:ah S w w3:=eA.mono Zq;have cM:Tr.Part σ' 0 ((f []).map (·.cell)) ((f []).flatMap (·.aa)) (f []):=⟨rfl,rfl,HRI.out,Iw⟩;obtain⟨xs,CZ⟩:=cM.parts ⟨#[]⟩ (fun e _=>Tr.le_nil _) (by show (0:Nat)<=120;omega) (abE pP.out (by omega));have zz:=sh (il ⟨#[]⟩ true ⟨A',(f []).length,c'⟩ ((f []).map (·.cell)) 0 S' w3 AX (hp.old df) (abc _) cM.right.2 (abE pP.out (by omega)));have hP:=qi.nodup;have YT:=sh CZ;have HP:=sh hP;have zo:=sh df;have zx:=sh (show Tr.aE 0 σ ([]++X) σ' ((f []).flatMap (·.aa))/\ah S w w3/\aj w S S' from ⟨Tr.Moved.lY (by simpa using qi) (fun n hn=>by
   obtain⟨y,hy,hn⟩:=abp.1 hn;exact(Iw y hy).kind n hn),bS,gQ⟩)
  clear AX qi Iw df eA Zq gQ bS cM CZ hP;go_wp2_with fail
  refine zz.out.mono ?_;rintro e w4 ⟨b7,r,rfl,MA⟩;have Ut:=sh ((GP hp (hp.below zo.out b7) YT.out HP.out MA (HK.out.imp id (fun _=>by omega))).mono fun e w' h=>aX.letters h);have fx:=sh b7;clear b7 MA;go_wp2_with fail
  refine Ut.out.mono ?_;rintro e w5 ⟨a,b,rfl,oS⟩;have HE:=sh ((aX.from zx.out.1 (agE k 0) (zx.out.2.1.trans (ah.ae fx.out S)) zx.out.2.2 oS.out).more (c':=c) (n':=2) (by omega) (by decide));clear oS;go_wp2_with fail
  go_ret2
  exact HE.out
 ·have hd:d<=8:=bm.low (aai.1 cg).1
  have iP:=bm;obtain⟨cs,P',rfl,g1,g2,-⟩:=iP;have hED:=sZ hp key hf yq d w S σ k root ⟨#[]⟩ 1 _ L h h0 h1 bm cg hX (fun e _=>Tr.le_nil _) (Tr.le_nil _) oM (by show (0:Nat)<=120;omega) (by omega) (hk.imp id (fun _=>by omega));have HED:=sh (show aag prog 163 #[.iface p.T p.v,.int .i64 root,.string ⟨#[]⟩,.string key,.func (.func fc) #[] cR,.int .i64 1] w (vU p S σ k d ⟨#[]⟩ (root::P'++X) (f L) w) from hED);have z1:((root:Int)==0)=false:=by rw[beq_eq_false_iff_ne];omega
  have z2:(root==0)=false:=by rw[beq_eq_false_iff_ne];omega
  have HK:=sh hk;clear hED h h0 h1 bm cg hX hk yq oM;go_enter func104,ntmps104
  go_wp2_with fail
  refine HED.out.mono ?_;rintro e w3 ⟨⟨rA,rn,rc⟩,b,rfl,mZ⟩;rcases mZ.out with⟨rfl,ps,xs,P1,σ1,S3,k3,Mz,IL,qi,df,dx,eA,gQ⟩|⟨hF,rfl,rfl,rfl,rfl,σ3,Bc⟩
  ·have Ut:=sh ((GP hp df IL qi.nodup Mz (HK.out.imp id (fun _=>by omega))).mono fun e w' h=>aX.letters h)
   have HM:=sh (show Tr.aE (Tr.lc d) σ (root::P'++X) σ1 P1/\k<=k3+2*d/\ah S w w3/\aj w S S3 from ⟨qi,dx,eA,gQ⟩);clear mZ Mz IL qi df dx eA gQ;go_wp2_with fail
   refine Ut.out.mono ?_;rintro e w5 ⟨a,b,rfl,oS⟩;have HE:=sh ((aX.from HM.out.1 HM.out.2.1 HM.out.2.2.1 HM.out.2.2.2 oS.out).more (c':=c) (n':=2) (by omega) (by by_cases hd:d=0<;>simp[Tr.lc,Tr.rp,hd]));clear oS;go_wp2_with fail
   go_ret2
   exact HE.out
  ·have HE:=sh (show kc p S σ k c (root::P'++X) (f L) w (.returned (.tuple #[.int .i64 0,.int .i64 9])) w3 from .inr ⟨hF,rfl,σ3,Bc⟩)
   clear Bc mZ;go_wp2_with fail
   go_ret2
   exact HE.out
namespace Tr
theorem Rx{l:List En}{key:ByteArray}(e:En)(h:lI l key=false):(dL key e l).map (·.cell)=kq (l.map (·.cell)) (dR l key) e.cell/\((l.flatMap (·.aa))++e.aa).Perm ((dL key e l).flatMap (·.aa)):=by
 unfold dL kq;rw[h];refine⟨by simp,?_⟩;have e1:l.flatMap (·.aa)=(l.take (dR l key)).flatMap (·.aa)++(l.drop (dR l key)).flatMap (·.aa):=by rw[<-aC,abm]
 rw[e1,aC,aC];simp only[abL,List.flatMap_nil,adp,Bool.false_eq_true,if_false,OF];exact acw _ adB
theorem Ry{l:List En}{key:ByteArray}(e:En)(h:lI l key=true):∃hi:dR l key<l.length,dL key e l=l.set (dR l key) e:=by
 have hi:dR l key<l.length:=by
  by_cases hl:dR l key<l.length
  ·exact hl
  ·unfold lI Nd.has at h
   rw[List.getElem?_eq_none (by rw[aae];exact Nat.le_of_not_lt hl)]at h;cases h
 refine⟨hi,?_⟩;unfold dL;rw[h,ahb,if_pos hi];rfl
end Tr
def Rel (p:aA) (S:List Nat) (σ :ag) (k:Nat) (P:List Nat) (w w':AI):Prop:=∃ σ',Step p S w w' σ' k/\Tr.Moved σ P σ' []
theorem Rel.off{p:aA}{S:List Nat}{σ :ag}{k:Nat}{P:List Nat}{w w':AI}(h:Rel p S σ k P w w'):ah S w w':=by obtain⟨_,⟨_,_,h,_⟩,_⟩:=h;exact h
theorem aZ.set{w:AI}{B g n c:Nat}{l:List Ce}(h:aZ w B (.slice (aeu ⟨g,0,none⟩) n c) l)(hn:n=l.length)(i:Nat)(hi:i<l.length)(x:Ce):
  aZ (((((w.setCell ⟨g,i*5,none⟩ (.string x.key)).setCell ⟨g,i*5+1,none⟩ (.string x.val)).setCell ⟨g,i*5+2,none⟩ (.int .i64 x.over)).setCell ⟨g,i*5+3,none⟩ (.int .i64 x.size)).setCell ⟨g,i*5+4,none⟩ (.int .i64 x.child)) B (.slice (aeu ⟨g,0,none⟩) n c) (l.set i x):=by
 subst hn;have h1:=(aed h (i*5) (.string x.key)).1;have h2:=(aed h1 (i*5+1) (.string x.val)).1;have h3:=(aed h2 (i*5+2) (.int .i64 x.over)).1;have h4:=(aed h3 (i*5+3) (.int .i64 x.size)).1;have h5:=(aed h4 (i*5+4) (.int .i64 x.child)).1;unfold aZ;rw[aem];have e:(((((ay l).set (i*5) (.string x.key)).set (i*5+1) (.string x.val)).set (i*5+2) (.int .i64 x.over)).set (i*5+3) (.int .i64 x.size)).set (i*5+4) (.int .i64 x.child)=ay (l.set i x):=by
  have e1:l=l.take i++([l[i]]++l.drop (i+1)):=by rw[List.singleton_append,<-abP hi,abm]
  have e2:l.set i x=l.take i++([x]++l.drop (i+1)):=by rw[ahb,if_pos hi];rfl
  have hl:(ay (l.take i)).length=i*5:=by rw[bD,abv];omega
  rw[e2]
  conv=>lhs;rw[e1]
  simp only[bR,fg];have hs:∀(a b:List IS) (j:Nat) (v:IS),a.length=i*5->(a++b).set (i*5+j) v=a++b.set j v:=fun a b j v ha=>by
   rw[List.set_append_right _ _ (by omega),show i*5+j-a.length=j by omega]
  have h0:(ay (l.take i)++(([.string l[i].key,.string l[i].val,.int .i64 l[i].over,.int .i64 l[i].size,.int .i64 l[i].child]:List IS)++ay (l.drop (i+1)))).set (i*5) (.string x.key)=ay (l.take i)++(([.string l[i].key,.string l[i].val,.int .i64 l[i].over,.int .i64 l[i].size,.int .i64 l[i].child]:List IS)++ay (l.drop (i+1))).set 0 (.string x.key):=hs _ _ 0 _ hl;rw[h0,hs _ _ 1 _ hl,hs _ _ 2 _ hl,hs _ _ 3 _ hl,hs _ _ 4 _ hl];rfl
 rw[<-e];exact h5
theorem yN{σ σ':ag}{l:List En}{i:Nat}{old e:En}(hi:i<l.length)(ho:old=l[i])(he:Tr.ft σ e)(hl:∀x∈l,Tr.ft σ x)(cg:(l.flatMap (·.aa)++e.aa).Nodup)(hm:Tr.Moved σ old.aa σ' []):
  Tr.Moved σ (l.flatMap (·.aa)++e.aa) σ' ((l.set i e).flatMap (·.aa))/\∀x∈l.set i e,Tr.ft σ' x:=by
 obtain⟨a,b,rfl,ha⟩:∃a b,l=a++(old::b)/\a.length=i:=⟨l.take i,l.drop (i+1),by rw[ho,<-abP hi,abm],by rw[abv];omega⟩;have kp:(a++old::b).set i e=a++e::b:=by
  rw[<-ha,List.set_append_right _ _ (AS _),agd];rfl
 rw[kp];have AU:((a++old::b).flatMap (·.aa)++e.aa).Perm (old.aa++(a.flatMap (·.aa)++b.flatMap (·.aa)++e.aa)):=by
  rw[Tr.aC,abL];have:(a.flatMap (·.aa)++(old.aa++b.flatMap (·.aa))++e.aa).Perm ((old.aa++(a.flatMap (·.aa)++b.flatMap (·.aa)))++e.aa):=by
   refine List.Perm.append_right _ ?_;rw[<-OF,<-OF];exact List.perm_append_comm.append_right _
  rw[OF old.aa]at this;exact this
 have jv:=AU.nodup_iff.1 cg;obtain⟨n1,n2,n3⟩:=aai.1 jv;have hR:∀n∈a.flatMap (·.aa)++b.flatMap (·.aa)++e.aa,σ n≠none:=fun n hn=>by
  rcases AT.1 hn with hn|hn
  ·rcases AT.1 hn with hn|hn
   ·obtain⟨x,hx,hn⟩:=abp.1 hn
    exact((hl x (by simp[hx])).mem n hn).2.2
   ·obtain⟨x,hx,hn⟩:=abp.1 hn
    exact((hl x (by simp[hx])).mem n hn).2.2
  ·exact(he.mem n hn).2.2
 have hd:∀n∈a.flatMap (·.aa)++b.flatMap (·.aa)++e.aa,n∉old.aa:=fun n hn ho=>n3 n ho n hn rfl;have bZ:=hm.frame hR n2 hd;have iy:=hm.same hR hd;refine⟨bZ.perm AU.symm ?_,fun x hx=> ?_⟩
 ·rw[List.nil_append,Tr.aC,abL,OF]
  exact acw _ adB
 ·rcases AT.1 hx with hx|hx
  ·exact(hl x (by simp[hx])).congr fun n hn=>iy n (by simp only[AT];exact .inl (.inl (abp.2 ⟨x,hx,hn⟩)))
  ·rcases IT.1 hx with rfl|hx
   ·exact he.congr fun n hn=>iy n (by simp only[AT];exact .inr hn)
   ·exact(hl x (by simp[hx])).congr fun n hn=>iy n (by simp only[AT];exact .inl (.inr (abp.2 ⟨x,hx,hn⟩)))
theorem Jq{p:aA}(hp:dc p){w0:AI}{S0:List Nat}{σ0:ag}{kb cb pb:Nat}(key:ByteArray)(e:En)(hk:Bk w0 kb 9 #[.string key])(hc:Bk w0 cb 170 #[.string e.cell.key,.string e.cell.val,.int .i64 e.cell.over,.int .i64 e.cell.size,.int .i64 e.cell.child])(Ef:Bk w0 pb 168 #[.iface p.T p.v])
  (hkS:kb∉S0) (hcS:cb∉S0) (Mw:pb∉S0) (he:Tr.ft σ0 e):pL p 105 #[.pointer (some ⟨kb,0,none⟩),.pointer (some ⟨cb,0,none⟩),.pointer (some ⟨pb,0,none⟩)] w0 S0 σ0 e.aa false key (Tr.dL key e):=by
 refine⟨fun args W=>call105 args W,?_⟩;intro w S σ k l A c B h0 h1 cL IQ _ fi cg hX au Y9 oj hB CW;have ko:=h0.bk hk hkS;have hc':=h0.bk hc hcS;have lR:=h0.bk Ef Mw;have gT:=ko.cell 0;have Qz:w.cell? ⟨kb,0,none⟩=some (.string key):=ko.cell 0;have bc:=au.as;have pM:=sh (show aag prog 106 #[.slice A l.length c,.string key] w (fun e w'=>e= .returned (.tuple #[.int .i64 (Tr.dR l key:Nat),.bool (Tr.lI l key)])/\No w.heap.size w w') from xc ⟨A,l.length,c⟩ (l.map (fun x:En=>x.cell)) key _ w bc (by rw[aae];omega));have qo:=Tr.uw l key;have dC:c<=9223372036854775807:=by have:=bc.2.2.1;simp only at this;unfold abi at this;omega
 have heX:Tr.ft σ e:=he.congr hX;have XR:=sh heX;have FA:=sh cL;have eJ:=sh au;have Pw:=sh fi;have si:=sh cg;have CI:=sh oj;have HK:=sh ko;have HC:=sh hc';have HP:=sh lR;have lk:=ko.lt;cases hh:Tr.lI l key with
 | false=>
  obtain⟨og,mF⟩:=Tr.Rx e hh;rw[hh]at pM;have WU:=sh og;have Dg:=sh mF;obtain⟨i,hi⟩:∃i,i=Tr.dR l key:=⟨_,rfl⟩;rw[<-hi]at pM WU qo;clear ko hc' lR gT bc heX cL au fi cg oj hh og mF hi hX he hk hc Ef;go_enter func105,ntmps105
  go_wp2_with fail
  refine pM.out.mono ?_;rintro x w1 ⟨rfl,ar⟩;have CS:=af HC.out ar;obtain⟨u0,u1,u2,u3,u4,-,-,-,-,-,ul⟩:=CS.gz;have gX:No w.heap.size w (w1.alloc (.cells #[.string e.cell.key,.string e.cell.val,.int .i64 e.cell.over,.int .i64 e.cell.size,.int .i64 e.cell.child] 170)):=ar.alloc ar.size _;have jP:aZ (w1.alloc (.cells #[.string e.cell.key,.string e.cell.val,.int .i64 e.cell.over,.int .i64 e.cell.size,.int .i64 e.cell.child] 170)) B (.slice A (l.map (·.cell)).length c) (l.map (·.cell)):=by
   rw[aae];exact eJ.out.below gX
  have VP:=jP;have dv:=Er A B w1.heap.size i c (l.map (·.cell)) e.cell _ jP (by have:=gX.size;omega) (by rw[aae];omega) (by rw[aae];omega) (Bk.new w1 _ _) (fun hb=>by
   rw[aae]at hb;have:=(abr eJ.out _ hb).2;have:=ar.size;omega)
  rw[aae]at dv;have J7:=sh dv;have TK:=sh gX;clear dv jP VP gX CS ar;go_wp2_with fail
  refine J7.out.mono ?_;rintro x w2 ⟨U,A2,c2,hU,dg,rfl,bf,aaH⟩;have bG:ah U w w2:=((ah.ae TK.out U).trans dg);have ra:∀S',(∀b∈S',b∈S)->aV w2 (Cl 0 S') ⟨A2,(Tr.dL key e l).length,c2⟩ ((Tr.dL key e l).map (·.cell)):=fun S' hS'=>by
   rw[WU.out,show (Tr.dL key e l).length=(kq (l.map (·.cell)) i e.cell).length by rw[<-WU.out,aae]];have aaq:0<(kq (l.map (·.cell)) i e.cell).length:=by rw[iA _ _ _ (by rw[aae];omega)];omega
   obtain⟨g2,rfl,-⟩:=bf.full aaq;refine bf.here (fun hg=> ?_);rcases aaH g2 rfl with h9|h9
   ·exact CI.out g2 h9 (hS' g2 hg)
   ·have h8:=hp.old FA.out g2 (hS' g2 hg)
    have h7:=TK.out.size;omega
  have hlen:(kq (l.map (·.cell)) i e.cell).length=(Tr.dL key e l).length:=by rw[<-WU.out,aae]
  have bV:=sh (show xH p S σ k B e.aa l (Tr.dL key e l) w (.returned (.tuple #[.slice A2 (kq (l.map (·.cell)) i e.cell).length c2,.int .i64 0])) w2 from
   ⟨A2,c2,σ,S,U,by rw[hlen],ra S (fun _ h=>h),(Tr.Moved.refl (fun n hn=>by
    rcases AT.1 hn with hn|hn
    ·obtain⟨x,hx,hn⟩:=abp.1 hn
     exact((Pw.out x hx).mem n hn).2.2
    ·exact(XR.out.mem n hn).2.2) si.out).perm (List.Perm.refl _) Dg.out,(fun x hx=>by
    unfold Tr.dL at hx;rcases AT.1 hx with hx|hx
    ·exact Pw.out x (List.mem_of_mem_take hx)
    ·rcases AT.1 hx with hx|hx
     ·rw[By.1 hx];exact XR.out
     ·exact Pw.out x (List.mem_of_mem_drop hx)),hp.off FA.out bG (fun b hb hu=>CI.out b (hU b hu) hb),bG,fun g hg=> .inr (abr eJ.out g (hU g hg)).1,aj.refl _ _⟩)
  clear bG ra hlen hU dg bf aaH;go_wp2_with fail
  go_ret2
  exact bV.out
 | true=>
  obtain⟨hi,kp⟩:=Tr.Ry e hh;rw[hh]at pM;obtain⟨i,Vr⟩:∃i,i=Tr.dR l key:=⟨_,rfl⟩;rw[<-Vr]at pM kp qo;have uU:i<l.length:=by rw[Vr];exact hi
  obtain⟨g,rfl,-⟩:=au.full (by rw[aae];omega);have sw:g∉S:=oj g rfl;have pH:g<w.heap.size:=(abr au g rfl).2;obtain⟨b9,o9,uQ,-,q0,q1,q2,q3,q4⟩:=bc.at i (by rw[aae];exact uU);simp only[acI,Addr.mk.injEq,and_true]at uQ;obtain⟨rfl,rfl⟩:=uQ;obtain⟨old,hold⟩:∃x,x=l[i]:=⟨_,rfl⟩;simp only[List.getElem_map,abU]at q0 q1 q2 q3 q4;rw[<-hold]at q0 q1 q2 q3 q4;have VS:pb∉S:=fun hs=>by
   rcases h1 pb hs with h9|h9
   ·exact Mw h9
   ·have:=Ef.lt;omega
  have aeU:cb∉S:=fun hs=>by
   rcases h1 cb hs with h9|h9
   ·exact hcS h9
   ·have:=hc.lt;omega
  have Mo:old.aa.Nodup:=by
   have h9:=(aai.1 cg).1;have e9:l=l.take i++(old::l.drop (i+1)):=by rw[hold,<-abP uU,abm]
   rw[e9,Tr.aC,abL]at h9;exact(aai.1 (aai.1 h9).2.1).1
  have HRL:=sh fun(W:AI) (hb:No w.heap.size w W)=>(show aag prog 108 #[.iface p.T p.v,.agg #[.string old.cell.key,.string old.cell.val,.int .i64 old.cell.over,.int .i64 old.cell.size,.int .i64 old.cell.child]] W (fun x w'=>x= .returned (.int .i64 0)/\Hid (Rel p S σ k old.aa W w')) from (ug hp (hp.below cL hb) old (fi old (by rw[hold];exact abw uU)) Mo).mono fun x w' h=>⟨h.1,sh h.2⟩);have pO:=sh kp;have fZ:=sh hold;have bH:=sh (show ∀W:AI,ah S w W->W.cell? ⟨pb,0,none⟩=some (.iface p.T p.v)/\W.cell? ⟨g,i*5,none⟩=some (.string old.cell.key)/\W.cell? ⟨g,i*5+1,none⟩=some (.string old.cell.val)/\W.cell? ⟨g,i*5+2,none⟩=some (.int .i64 old.cell.over)/\W.cell? ⟨g,i*5+3,none⟩=some (.int .i64 old.cell.size)/\W.cell? ⟨g,i*5+4,none⟩=some (.int .i64 old.cell.child) from fun W hb=>
   ⟨(hb.cell (p:=⟨pb,0,none⟩) lR.lt VS).trans (lR.cell 0),(hb.cell (p:=⟨g,_,none⟩) pH sw).trans q0,(hb.cell (p:=⟨g,_,none⟩) pH sw).trans q1,(hb.cell (p:=⟨g,_,none⟩) pH sw).trans q2,(hb.cell (p:=⟨g,_,none⟩) pH sw).trans q3,(hb.cell (p:=⟨g,_,none⟩) pH sw).trans q4⟩)
  have lp:=lR.lt;clear ko hc' lR gT bc heX cL au fi cg oj hh Vr hX he hk hc Ef hi kp q0 q1 q2 q3 q4 Mo hold;go_enter func105,ntmps105
  go_wp2_with fail
  refine pM.out.mono ?_;rintro x w1 ⟨rfl,ar⟩;have bh:=sh ar;have iN:=sh ((ah.ae ar S).drew);have KK:=sh (HRL.out w1.drew ar.drew);have Kg:g<w1.heap.size:=aaf pH ar.size;have AU:pb<w1.heap.size:=aaf lp ar.size;clear ar;go_wp2_with fail
  go_region_held3 (fun W=>W.cell? ⟨pb,0,none⟩=some (.iface p.T p.v)/\W.cell? ⟨g,i*5,none⟩=some (.string old.cell.key)/\W.cell? ⟨g,i*5+1,none⟩=some (.string old.cell.val)/\W.cell? ⟨g,i*5+2,none⟩=some (.int .i64 old.cell.over)/\W.cell? ⟨g,i*5+3,none⟩=some (.int .i64 old.cell.size)/\W.cell? ⟨g,i*5+4,none⟩=some (.int .i64 old.cell.child)) (first|(with_reducible exact bH.out _ iN.out)|(with_reducible exact bH.out _ (iN.out.trans (Rel.off om.out)))) (first
   | (go_at_call 108;(with_reducible refine KK.out.mono ?_);rintro x w2 ⟨rfl,om⟩))
  all_goals
   obtain⟨σ',⟨S2,gB,dg,fD⟩,tC⟩:=om.out;have bG:ah S w w2:=iN.out.trans dg;have bf:aZ w2 B (.slice (some ⟨g,0,none⟩) l.length c) (l.map (·.cell)):=ah.own bG eJ.out CI.out;have ZK:=bG.bk HC.out aeU;obtain⟨u0,u1,u2,u3,u4,-,-,-,-,-,ul⟩:=ZK.gz;obtain⟨-,v0,v1,v2,v3,v4⟩:=bH.out w2 bG;have aw:w2.ownsRow B 170 5 (.slice (some ⟨g,0,none⟩) l.length c) l.length (ay (l.map (·.cell))):=by
    have h9:=bf;unfold aZ at h9
    rwa [aae]at h9
   have f0:=adP aw (i*5);have f1:=adP aw (i*5+1);have f2:=adP aw (i*5+2);have f3:=adP aw (i*5+3);have f4:=adP aw (i*5+4);have tA:g<w2.heap.size:=aaf pH bG.size;have HW2:=sh bf;have sG:=sh gB;have mS:=sh bG;have lj:=sh (show aj w S S2 from fD.mono bh.out.size);have G6:=sh tC;clear gB dg fD tC bG bf aw ZK om;have IB:g∉S2:=fun hs=>by
    rcases lj.out g hs with h9|h9
    ·exact sw h9
    ·omega
   have pN:=sh ((aZ.set HW2.out (by rw[aae]) i (by rw[aae];exact uU) e.cell).here IB);have Ti:ah [g] w2 (((((w2.setCell ⟨g,i*5,none⟩ (.string e.cell.key)).setCell ⟨g,i*5+1,none⟩ (.string e.cell.val)).setCell ⟨g,i*5+2,none⟩ (.int .i64 e.cell.over)).setCell ⟨g,i*5+3,none⟩ (.int .i64 e.cell.size)).setCell ⟨g,i*5+4,none⟩ (.int .i64 e.cell.child)):=
    (((((ah.refl [g] w2).setCell (p:=⟨g,i*5,none⟩) (.inl (by simp)) _).setCell (p:=⟨g,i*5+1,none⟩) (.inl (by simp)) _).setCell (p:=⟨g,i*5+2,none⟩) (.inl (by simp)) _).setCell (p:=⟨g,i*5+3,none⟩) (.inl (by simp)) _).setCell (p:=⟨g,i*5+4,none⟩) (.inl (by simp)) _
   have HOG:=sh Ti;have hgB:B<=g:=(abr eJ.out g rfl).1;have Eh:=yN uU fZ.out XR.out Pw.out si.out G6.out;rw[<-pO.out]at Eh;have AH:(Tr.dL key e l).length=l.length:=by rw[pO.out,aem]
   have AK:(Tr.dL key e l).map (·.cell)=(l.map (·.cell)).set i e.cell:=by rw[pO.out,List.map_set]
   have KM:=sh Eh;have T9:=sh AH;have HMP:=sh AK;have bV:=sh (show xH p S σ k B e.aa l (Tr.dL key e l) w (.returned (.tuple #[.slice (some ⟨g,0,none⟩) l.length c,.int .i64 0])) (((((w2.setCell ⟨g,i*5,none⟩ (.string e.cell.key)).setCell ⟨g,i*5+1,none⟩ (.string e.cell.val)).setCell ⟨g,i*5+2,none⟩ (.int .i64 e.cell.over)).setCell ⟨g,i*5+3,none⟩ (.int .i64 e.cell.size)).setCell ⟨g,i*5+4,none⟩ (.int .i64 e.cell.child)) from by
    refine⟨some ⟨g,0,none⟩,c,σ',S2,g::S,by rw[T9.out],?_,KM.out.1,KM.out.2,hp.off sG.out HOG.out (fun b hb hg=> ?_),?_,fun x hx=> ?_,lj.out⟩
    ·rw[T9.out,HMP.out];exact pN.out
    ·rw[By]at hg
     subst hg;exact IB hb
    ·exact(mS.out.mono (fun x hx=> .inl (by simp[hx]))).then HOG.out (fun x hx=> .inl (by rw[By]at hx;simp[hx]))
    ·rcases IT.1 hx with rfl|hx
     ·exact .inr hgB
     ·exact .inl hx)
   clear Ti Eh AH AK IB;go_wp2_with fail
   go_ret2
   exact bV.out
theorem Ec(p:aA)(key val:ByteArray)(w:AI)(hv:val.size<=96):
  aag prog 103 #[.iface p.T p.v,.string key,.string val] w (fun e w'=>e= .returned (.tuple #[.agg #[.string key,.string val,.int .i64 0,.int .i64 0,.int .i64 0],.int .i64 0])/\No w.heap.size w w'):=by
 have z1:decide ((val.size:Int)<=96)=true:=decide_eq_true (by omega);have z2:decide (val.size<=96)=true:=decide_eq_true hv;go_enter func103,ntmps103
 go_wp2_with fail
 refine abT (v:= .tuple #[.agg #[.string key,.string val,.int .i64 0,.int .i64 0,.int .i64 0],.int .i64 0]) (by simp[results,results103,go_sem]) rfl ⟨rfl,?_⟩;exact(IN _ w).alloc (AS _) _
namespace Tr
theorem Chain.te{σ :ag}{next:Nat}{ns:List Nat}{v:List UInt8}(h:Chain σ next ns v):next<512:=by
 cases ns with
 | nil=>have:=h.1;omega
 | cons n ns=>have:=h.1;have:=h.2.2.1;omega
theorem Chain.push{σ :ag}{n next:Nat}{ns:List Nat}{v piece:List UInt8}(h:Chain σ next ns v)(hn: σ n=none)(h1:1<=n)(h2:n<512)(AU:0<piece.length)(qY:piece.length<=484)(Tk:next≠0->piece.length=484):
  Chain (cY σ n (some ⟨3,⟨(Be.low next 4++piece).toArray⟩⟩)) n (n::ns) (piece++v):=
 ⟨rfl,h1,h2,next,piece,v,fM _ _ _,h.te,rfl,AU,qY,Tk,h.congr fun m hm=>dM _ _ (by rintro rfl;exact(h.mem m hm).2.2 hn)⟩
theorem Moved.push{σ σj:ag}{ns:List Nat}{n:Nat}(h:Moved σ [] σj ns)(hn: σj n=none)(x:rO):Moved σ [] (cY σj n (some x)) (n::ns):=by
 have f2:=(Moved.make hn x).frame (R:=ns) h.there h.nodup (fun m hm=>by simp);exact h.trans (f2.perm (by simp) (by simp))
end Tr
def Tr.pieces (n:Nat):Nat:=if n<=96 then 0 else (n-1)/484+1
def Uw (p:aA) (S:List Nat) (w:AI) (e:aci) (w':AI):Prop:=Full p S w w' e (.returned (.tuple #[.agg #[.string ⟨#[]⟩,.string ⟨#[]⟩,.int .i64 0,.int .i64 0,.int .i64 0],.int .i64 9]))
theorem ah.oH{w:AI}{q:Nat}{a0 a1 a2 a3 a4:IS}:ah [q] w (((((w.setCell ⟨q,0,none⟩ a0).setCell ⟨q,1,none⟩ a1).setCell ⟨q,2,none⟩ a2).setCell ⟨q,3,none⟩ a3).setCell ⟨q,4,none⟩ a4):=
 (((((ah.refl _ _).setCell (.inl (by simp)) _).setCell (.inl (by simp)) _).setCell (.inl (by simp)) _).setCell (.inl (by simp)) _).setCell (.inl (by simp)) _
theorem Bk.FX{w:AI}{q:Nat}{t:TypeId}{v0 v1 v2 v3 v4:IS}(h:Bk w q t #[v0,v1,v2,v3,v4])(a0 a1 a2 a3 a4:IS):
  (w.setCell ⟨q,0,none⟩ a0).cell? ⟨q,0,none⟩=some a0/\((w.setCell ⟨q,0,none⟩ a0).setCell ⟨q,1,none⟩ a1).cell? ⟨q,1,none⟩=some a1/\(((w.setCell ⟨q,0,none⟩ a0).setCell ⟨q,1,none⟩ a1).setCell ⟨q,2,none⟩ a2).cell? ⟨q,2,none⟩=some a2/\
  ((((w.setCell ⟨q,0,none⟩ a0).setCell ⟨q,1,none⟩ a1).setCell ⟨q,2,none⟩ a2).setCell ⟨q,3,none⟩ a3).cell? ⟨q,3,none⟩=some a3/\(((((w.setCell ⟨q,0,none⟩ a0).setCell ⟨q,1,none⟩ a1).setCell ⟨q,2,none⟩ a2).setCell ⟨q,3,none⟩ a3).setCell ⟨q,4,none⟩ a4).cell? ⟨q,4,none⟩=some a4:=by
 have h0:=h.put 0 a0;have h1:=h0.put 1 a1;have h2:=h1.put 2 a2;have h3:=h2.put 3 a3;have h4:=h3.put 4 a4;exact⟨h0.cell 0,h1.cell 1,h2.cell 2,h3.cell 3,h4.cell 4⟩
theorem ER(l:List UInt8)(n a hi:Nat)(hn:n=l.length)(ha:a<n)(hh:(a+484<n/\hi=a+484)\/(n<=a+484/\hi=n)):(l.drop a).take (hi-a)++l.drop (a+484)=l.drop a:=by
 subst hn;rcases hh with⟨h1,rfl⟩|⟨h1,rfl⟩
 ·rw[show a+484-a=484 by omega,<-List.drop_drop,abm]
 ·rw[abI (by rw[abS];omega),show l.drop (a+484)=[] from List.drop_eq_nil_of_le (by omega),adp]
structure sN (p:aA) (S:List Nat) (σ :ag) (k m:Nat) (v:List UInt8) (w wr:AI) (j n:Nat):Prop where
 le:j<=m+1
 st:∃(ns:List Nat) (σj:ag) (Sj:List Nat),ns.length+j=m+1/\Tr.Chain σj n ns (v.drop (484*j))/\Tr.Moved σ [] σj ns/\p.At wr Sj σj (k-ns.length)/\ah S w wr/\∀b∈Sj,b∈S\/w.heap.size+1<=b
 cell:Bk wr w.heap.size 170 #[.string ⟨#[]⟩,.string ⟨#[]⟩,.int .i64 0,.int .i64 0,.int .i64 0]
theorem sN.lt{p:aA}{S:List Nat}{σ :ag}{k m:Nat}{v:List UInt8}{w wr:AI}{j n:Nat}(h:sN p S σ k m v w wr j n):n<512:=by
 obtain⟨ns,σj,Sj,-,h1,-⟩:=h.st;exact h1.te
theorem IK{p:aA}(hp:dc p){w:AI}{S:List Nat}{σ :ag}{k:Nat}(h:p.At w S σ k)(key val:ByteArray)(hv:96<val.size)(Bh:val.size<=4000)(hk:p.F\/(val.size-1)/484+1<=k):
  aag prog 103 #[.iface p.T p.v,.string key,.string val] w (fun e w'=>(∃n:Nat,e= .returned (.tuple #[.agg #[.string key,.string ⟨#[]⟩,.int .i64 n,.int .i64 val.size,.int .i64 0],.int .i64 0])/\
   ∃(ns:List Nat) (σ':ag),n≠0/\ns.length=(val.size-1)/484+1/\Tr.Chain σ' n ns val.data.toList/\Tr.Moved σ [] σ' ns/\Step p S w w' σ' (k-((val.size-1)/484+1)))\/Uw p S w e w'):=by
 have z1:decide ((val.size:Int)<=96)=false:=decide_eq_false (by omega);have z2:decide (val.size<=96)=false:=decide_eq_false (by omega);obtain⟨f,rv,hn,hm,he,IH⟩:=hp.make;have Px:=sh fun(n:Nat) (hn:n<512) (W:AI)=>(show aag prog 160 #[.string ⟨#[]⟩,.int .u64 n,.int .i64 4] W (cU (⟨(Be.low n 4).toArray⟩) 0 W) from gR ⟨#[]⟩ n 4 W (by show 0<=1000000;omega) (by omega) (by omega) (by omega));obtain⟨m,kL⟩:∃m,m=(val.size-1)/484:=⟨_,rfl⟩;rw[<-kL]at hk |-;have q1:(val.size:Int)-1=((val.size-1:Nat):Int):=by omega
 have q2:((val.size-1:Nat):Int)/484=(m:Int):=by omega
 have q3:IntKind.i64.wrap ((m:Int)*484)=484*(((m+1:Nat):Int))-484:=by rw[acC];omega
 have G0:=sh kL;have HV:=sh (show 96<val.size/\val.size<=4000 from ⟨hv,Bh⟩);have HMK:=sh IH;have HA:=sh h;have HK:=sh hk;have fZ:=sh (hp.old h);have CI:=sh (show w.heap.size∉S from fun hs=>by have:=hp.old h _ hs;omega);clear IH h hk kL hv Bh;go_enter func103,ntmps103
 go_wp2_with fail
 go_loopw [8,9] (fun nx at_ wr=>∃(j n:Nat) (a:Int),nx= .int .i64 n/\at_= .int .i64 a/\a=484*(j:Int)-484/\Hid (sN p S σ k m val.data.toList w wr j n)) (fun _ a _=>((intOf a)+484).toNat)
 case atStart=>
  have hq:wrap64 (wrap64 ((wrap64 ((val.size-1:Nat):Int)).tdiv 484)*484)=484*(((m+1:Nat)):Int)-484:=by
   have h1:=G0.out;have h2:=HV.out;rw[aeB ((val.size-1:Nat):Int) ⟨by omega,by omega⟩,Int.tdiv_eq_ediv_of_nonneg (by omega),q2,aeB (m:Int) ⟨by omega,by omega⟩]<;>(try rw[aeB ((m:Int)*484) ⟨by omega,by omega⟩])
   omega
  refine⟨m+1,0,_,rfl,rfl,hq,sh ⟨AS _,⟨[],σ,S,by simp,⟨rfl,?_⟩,Tr.Moved.refl (by simp) (by simp),?_,(ah.refl S w).alloc _,fun b hb=> .inl hb⟩,Bk.new w _ _⟩⟩
  ·refine List.drop_eq_nil_of_le ?_
   have h1:=G0.out;have h2:=HV.out;show val.size<=484*(m+1);omega
  ·exact hp.off (hp.less HA.out (by simp)) ((ah.refl [] w).alloc _) (by simp)
 case round=>
  obtain⟨j,n,a,rfl,rfl,ha,hI⟩:=hrel;cases j with
  | zero=>
   obtain rfl:a= -484:=by omega
   clear ha;have HI:=sh hI.out;obtain⟨f0,f1,f2,f3,f4,g0,g1,g2,g3,g4,l3⟩:=hI.out.cell.gz;go_wp2_with fail
   obtain⟨s0,s1,s2,s3,s4⟩:=HI.out.cell.FX (.string key) (.string ⟨#[]⟩) (.int .i64 n) (.int .i64 val.size) (.int .i64 0);refine abT (v:= .tuple #[.agg #[.string key,.string ⟨#[]⟩,.int .i64 n,.int .i64 val.size,.int .i64 0],.int .i64 0]) (by simp[results,results103,go_sem,l3,s0,s1,s2,s3,s4]) rfl (.inl ⟨n,rfl,?_⟩);obtain⟨ns,σj,Sj,e1,e2,e3,e4,e5,e6⟩:=HI.out.st;have e1:ns.length=m+1:=by omega
   rw[Nat.mul_zero,List.drop_zero]at e2;refine⟨ns,σj,?_,e1,e2,e3,?_⟩
   ·cases ns with
    | nil=>cases e1
    | cons x t=>have h1:=e2.1;have h2:=e2.2.1;omega
   ·rw[<-e1]
    refine⟨Sj,hp.off e4 ah.oH (fun b hb hu=> ?_),e5.then ah.oH (fun g hg=> ?_),fun b hb=>(e6 b hb).imp id (fun h=>by omega)⟩
    ·rw[By]at hu
     subst hu;rcases e6 _ hb with h1|h1
     ·exact CI.out h1
     ·omega
    ·rw[By]at hg
     subst hg;exact .inr (AS _)
  | succ i=>
   obtain⟨a',ha'⟩:∃a':Nat,a'=484*i:=⟨_,rfl⟩;obtain rfl:a=(a':Int):=by omega
   have tD:=hI.out.lt;have hle:=hI.out.le;have hm:=G0.out;have hv:=HV.out;have halt:a'<val.size:=by omega
   have y1:IntKind.u64.wrap (n:Int)=(n:Int):=by rw[IntKind.wrap_u64];omega
   obtain⟨b',F2⟩:∃b':Nat,b'=a'+484:=⟨_,rfl⟩;have y2:IntKind.i64.wrap ((a':Int)+484)=(b':Int):=by rw[acC];omega
   obtain⟨hi,hhi⟩:∃hi:Nat,hi=if b'<val.size then b' else val.size:=⟨_,rfl⟩;have y3:(if b'<val.size then (b':Int)else (val.size:Int))=(hi:Int):=by rw[hhi];split<;>rfl
   have y4:(if (b':Int)<(val.size:Int)then (b':Int)else (val.size:Int))=(hi:Int):=by
    rw[<-y3];by_cases h9:b'<val.size
    ·rw[if_pos h9,if_pos (by omega)]
    ·rw[if_neg h9,if_neg (by omega)]
   have fj:(a'+484<val.size/\hi=a'+484)\/(val.size<=a'+484/\hi=val.size):=by
    rw[hhi,F2];by_cases h9:a'+484<val.size
    ·rw[if_pos h9];exact .inl ⟨h9,rfl⟩
    ·rw[if_neg h9];exact .inr ⟨by omega,rfl⟩
   have y5:a'<=hi:=by omega
   have y6:hi<=val.size:=by omega
   have y7:(a':Int)<=(hi:Int):=by omega
   have y8:(hi:Int)<=(val.size:Int):=by omega
   have y9:IntKind.i64.wrap ((a':Int)-484)=(a':Int)-484:=by rw[acC];omega
   have HW:=sh (show ((a'+484<val.size/\hi=a'+484)\/(val.size<=a'+484/\hi=val.size))/\a'=484*i/\a'<val.size from ⟨fj,ha',halt⟩);obtain⟨b,jt⟩:∃b:ByteArray,b=⟨(Be.low n 4).toArray⟩++val.extract a' hi:=⟨_,rfl⟩;have ZH:b.size<=488:=by rw[jt,ByteArray.size_append];show 4+(val.extract a' hi).size<=488;rw[agl];omega
   have Zs:∀W:AI,(Op.stringOp .add ⟨(Be.low n 4).toArray⟩ (val.extract a' hi)).run prog W= .ok (.string b) W:=fun W=>by
    rw[jt];exact run_string_add_sum W _ _ (by show 4+(val.extract a' hi).size<=_;rw[agl];omega)
   have HB9:=sh jt;clear ha ha' hle hm hv F2 hhi fj halt jt;obtain⟨ns,σj,Sj,e1,e2,e3,e4,e5,e6⟩:=hI.out.st;have FA:=sh e4;have KB:=sh e2;have zx:=sh e3;have vX:=sh e1;have nk:=sh (show ah S w wr/\(∀b∈Sj,b∈S\/w.heap.size+1<=b)/\w.heap.size+1<=wr.heap.size from ⟨e5,e6,hI.out.cell.lt⟩);have TO:=sh hI.out.cell;have aaF:w.heap.size∉Sj:=fun hs=>by
    rcases e6 _ hs with h1|h1
    ·exact CI.out h1
    ·omega
   have HNJ:=sh aaF;clear e1 e2 e3 e4 e5 e6 hI aaF;go_wp2_with (first
    | (go_at_call 160;go_must (refine(Px.out n tD _).mono ?_);rintro e w1 ⟨rfl,ar⟩;have dD:=sh ar;have Kb:=sh (af TO.out ar);clear ar)
    | fail)
   have l1:=Kb.out.lt;have HMJ:=sh (rH (HMK.out w1.drew Sj σj (k-ns.length) ⟨3,b⟩ (hp.below FA.out dD.out.drew) (HK.out.imp id (fun _=>by have:=vX.out;omega)) (by show 1<=3;omega) (AS _) ZH));go_region_held3 (fun W=>Bk W w.heap.size 170 #[.string ⟨#[]⟩,.string ⟨#[]⟩,.int .i64 0,.int .i64 0,.int .i64 0]) (first|exact Kb.out.drew|exact(zA.off mZ.out).bk Kb.out.drew HNJ.out) (first
    | (refine HMJ.out.mono ?_;rintro e w3 ⟨rn,re,rfl,mZ⟩))
   all_goals
    rcases mZ.out with⟨n',rfl,rfl,n1,n2,uX,S3,df,eA,gQ⟩|⟨hF,rfl,rfl,σ3,S3,df,eA,gQ⟩
    ·have bS:ah S w w3:=nk.out.1.then ((ah.ae dD.out.drew Sj).trans eA) (fun g hg=>(nk.out.2.1 g hg).imp id (fun h=>by omega))
     have bZ:∀b∈S3,b∈S\/w.heap.size+1<=b:=fun b hb=>by
      have h2:=dD.out.size;have h3:=nk.out.2.2;rcases gQ b hb with h1|h1
      ·exact nk.out.2.1 b h1
      ·simp at h1;exact .inr (by omega)
     have hw:=HW.out;have og:=G0.out;have Wb:=HV.out;have mG:(val.extract a' hi).data.toList=(val.data.toList.drop a').take (hi-a'):=cV val a' hi;have IW:val.data.toList.length=val.size:=rfl;have hlen:((val.data.toList.drop a').take (hi-a')).length=hi-a':=by rw[abv,abS];omega
     have U8:b=⟨(Be.low n 4++(val.data.toList.drop a').take (hi-a')).toArray⟩:=by
      rw[HB9.out,<-mG];exact Nd.gx (by simp[ByteArray.toList_eq])
     have mX:Tr.Chain (Tr.cY σj n' (some ⟨3,b⟩)) n' (n'::ns) (val.data.toList.drop (484*i)):=by
      rw[U8,<-hw.2.1];have h9:=Tr.Chain.push (piece:=(val.data.toList.drop a').take (hi-a')) KB.out uX n1 n2 (by omega) (by omega) (fun VK=>by
       have QA:=vX.out;have oj:ns≠[]:=fun e=>VK (by have h8:=KB.out;rw[e]at h8;exact h8.1);have:0<ns.length:=by cases ns with|nil=>exact absurd rfl oj|cons x t=>simp
       omega)
      rw[show 484*(i+1)=a'+484 by omega,ER _ val.size a' hi IW.symm hw.2.2 hw.1]at h9;exact h9
     have hq:sN p S σ k m val.data.toList w w3 i n':=by
      refine⟨by have:=vX.out;omega,⟨n'::ns,_,S3,by rw[abB];have:=vX.out;omega,mX,zx.out.push uX ⟨3,b⟩,?_,bS,bZ⟩,(eA.bk Kb.out.drew HNJ.out)⟩;rw[abB,Nat.sub_add_eq];exact df
     have HQ:=sh (show ∃(j' n9:Nat) (a9:Int),acK .i64 (n':Int)= .int .i64 n9/\acK .i64 ((a':Int)-484)= .int .i64 a9/\a9=484*(j':Int)-484/\Hid (sN p S σ k m val.data.toList w w3 j' n9) from ⟨i,n',_,rfl,rfl,by rw[HW.out.2.1];omega,sh hq⟩);clear mZ uX df eA gQ bS bZ hw og Wb mG IW hlen U8 mX hq;go_wp2_with fail
     go_roundw
     case rel=>first|exact HQ.out|((repeat apply Exists.intro);exact⟨HQ.out,rfl⟩)
     case measure=>simp[intOf];omega
    ·have MS:=eA.bk Kb.out.drew HNJ.out
     have HZ3:=sh MS;have aaN:ah S w w3:=nk.out.1.then ((ah.ae dD.out.drew Sj).trans eA) (fun g hg=>(nk.out.2.1 g hg).imp id (fun h=>by omega));have Z3:∀b∈S3,b∈S\/w.heap.size+1<=b:=fun b hb=>by
      have h2:=dD.out.size;have h3:=nk.out.2.2;rcases gQ b hb with h1|h1
      ·exact nk.out.2.1 b h1
      ·simp at h1;exact .inr (by omega)
     have j5:=sh (show p.F/\p.At w3 S3 σ3 0/\ah S w w3/\∀b∈S3,b∈S\/w.heap.size+1<=b from ⟨hF,df,aaN,Z3⟩);obtain⟨f0,f1,f2,f3,f4,g0,g1,g2,g3,g4,l3⟩:=MS.gz;clear mZ df eA gQ aaN Z3 MS;go_wp2_with fail
     obtain⟨s0,s1,s2,s3,s4⟩:=HZ3.out.FX (.string ⟨#[]⟩) (.string ⟨#[]⟩) (.int .i64 0) (.int .i64 0) (.int .i64 0);refine abT (v:= .tuple #[.agg #[.string ⟨#[]⟩,.string ⟨#[]⟩,.int .i64 0,.int .i64 0,.int .i64 0],.int .i64 9]) (by simp[results,results103,go_sem,l3,s0,s1,s2,s3,s4]) rfl (.inr ⟨j5.out.1,rfl,σ3,?_⟩);refine⟨S3,hp.off j5.out.2.1 ah.oH (fun b hb hu=> ?_),j5.out.2.2.1.then ah.oH (fun g hg=> ?_),fun b hb=>(j5.out.2.2.2 b hb).imp id (fun h=>by omega)⟩
     ·rw[By]at hu
      subst hu;rcases j5.out.2.2.2 _ hb with h1|h1
      ·exact CI.out h1
      ·omega
     ·rw[By]at hg
      subst hg;exact .inr (AS _)
structure Ac where
 n:Int
 key:ByteArray
 val:ByteArray
 gone:Bool
 fin:Bool
def UG (a:Ac):List IS:=[.int .i64 a.n,.string a.key,.string a.val,.bool a.gone,.bool a.fin]
def lG (l:List Ac):List IS:=(l.map UG).flatten
theorem nI(x:Ac)(l:List Ac):lG (x::l)=UG x++lG l:=by simp[lG]
theorem qa:∀(l:List Ac) (i:Nat) (h:i<l.length) (j:Nat),j<5->(lG l)[i*5+j]? =(UG l[i])[j]?
 | x::l,0,h,j,hj=>by
  rw[nI,adE,abU,acr (by show j<5;exact hj)];rfl
 | x::l,i+1,h,j,hj=>by
  rw[nI,abX (by show 5<=_;omega),show (i+1)*5+j-(UG x).length=i*5+j by show (i+1)*5+j-5=_;omega];exact qa l i (by simpa using h) j hj
theorem FN{w:AI}{A:Option Addr}{l:List Ac}(h:Sl w A (lG l))(i:Nat)(hi:i<l.length):∃b o,A=some ⟨b,o,none⟩/\b<w.heap.size/\w.cell? ⟨b,o+i*5,none⟩=some (.int .i64 l[i].n)/\w.cell? ⟨b,o+i*5+1,none⟩=some (.string l[i].key)/\w.cell? ⟨b,o+i*5+2,none⟩=some (.string l[i].val)/\w.cell? ⟨b,o+i*5+3,none⟩=some (.bool l[i].gone)/\w.cell? ⟨b,o+i*5+4,none⟩=some (.bool l[i].fin):=by
 have g:=fun j hj=>qa l i hi j hj;obtain⟨b,o,hA,hb,h0⟩:=h _ _ ((g 0 (by omega)).trans rfl);obtain⟨b1,o1,UT,-,h1⟩:=h _ _ ((g 1 (by omega)).trans rfl);obtain⟨b2,o2,F1,-,h2⟩:=h _ _ ((g 2 (by omega)).trans rfl);obtain⟨b3,o3,hA3,-,h3⟩:=h _ _ ((g 3 (by omega)).trans rfl);obtain⟨b4,o4,hA4,-,h4⟩:=h _ _ ((g 4 (by omega)).trans rfl);subst hA;cases UT
 cases F1
 cases hA3
 cases hA4
 exact⟨b,o,rfl,hb,h0,h1,h2,h3,h4⟩
def Ac.cost (a:Ac):Nat:=if a.gone=true then 0 else 2+min a.val.size 1200/480
def ed (l:List Ac):Nat:=(l.map Ac.cost).sum
theorem nA{l:List Ac}{j:Nat}(h:j<l.length):ed (l.take (j+1))=ed (l.take j)+l[j].cost:=by
 unfold ed;rw[List.take_succ_eq_append_getElem h];simp only[abH,adX,acp,List.map_nil,List.sum_cons,List.sum_nil,adi]
theorem DE(l:List Ac){i j:Nat}(h:i<=j):ed (l.take i)<=ed (l.take j):=by
 have e:l.take i=(l.take j).take i:=by rw[List.take_take,Nat.min_eq_left h]
 rw[e];obtain⟨m,hm⟩:∃m,m=l.take j:=⟨_,rfl⟩;rw[<-hm];have:ed m=ed (m.take i)+ed (m.drop i):=by
  have e2:ed m=ed (m.take i++m.drop i):=by rw[abm]
  rw[e2];unfold ed;simp only[abH,adX,abm];rw[<-adX,<-abH,abm]
 omega
theorem BO{n:Nat}(h:n<=1200):1+Tr.pieces n<=2+min n 1200/480:=by
 unfold Tr.pieces;split<;>omega
theorem Qe{w:AI}{A:Option Addr}{c:Nat}{l:List Ac}(h:Sl w A (lG l))(hc:c<=abi)(hl:l.length<=c)(hv:∀a∈l,a.val.size<=abi):aag prog 29 #[.slice A l.length c] w (fun e w'=>e= .returned (.bool (decide (ed (l.take 80)<=60)))/\w'=w):=by
 have HA:=sh h;have HV:=sh hv;have CR:c<=9223372036854775807:=by unfold abi at hc;omega
 clear h hv hc;go_enter func29,ntmps29
 go_wp2_with fail
 go_loopw [3,4] (fun nv iv wr=>∃j n:Nat,iv= .int .i64 j/\nv= .int .i64 n/\j<=l.length/\j<=80/\n<=4*j/\Hid (n=ed (l.take j))/\wr=w) (fun _ iv _=>80-(intOf iv).toNat)
 case atStart=>exact⟨0,0,rfl,rfl,abc _,by omega,by omega,sh rfl,rfl⟩
 case round=>
  obtain⟨j,n,rfl,rfl,hj,hj2,hn,HN,rfl⟩:=hrel;by_cases aI:j<l.length
  ·have z1:decide ((j:Int)<(l.length:Int))=true:=decide_eq_true (by omega)
   by_cases lN:j<80
   ·have z2:decide ((j:Int)<80)=true:=decide_eq_true (by omega)
    obtain⟨b,o,rfl,hb,q0,q1,q2,q3,q4⟩:=FN HA.out j aI;have Qq:=nA aI;have Wc:=HV.out _ (abw aI);obtain⟨x,hx⟩:∃x,x=l[j]:=⟨_,rfl⟩;rw[<-hx]at q0 q1 q2 q3 q4 Qq Wc;obtain⟨xn,xk,xv,xg,xf⟩:=x;simp only at q0 q1 q2 q3 q4 Wc;have KC:=sh Qq;clear Qq hx;cases xg with
    | true=>
     have fY:=sh (show n=ed (l.take (j+1))by rw[KC.out,<-HN.out];rfl);clear HN KC;go_wp2_with fail
     go_roundw
     case rel=>exact⟨j+1,n,by go_num,rfl,by omega,by omega,by omega,fY,trivial⟩
     case measure=>simp[intOf];omega
    | false=>
     obtain⟨m,hm⟩:∃m,m=min xv.size 1200:=⟨_,rfl⟩;have mF:(if xv.size<1200 then xv.size else 1200)=m:=by rw[hm];split<;>omega
     have iw:(if (xv.size:Int)<1200 then (xv.size:Int)else 1200)=(m:Int):=by rw[hm];split<;>omega
     have kK:m<=1200:=by omega
     have fY:=sh (show n+2+m/480=ed (l.take (j+1))by rw[KC.out,<-HN.out,hm];unfold Ac.cost;simp;omega);clear HN KC hm;go_wp2_with fail
     go_roundw
     case rel=>exact⟨j+1,n+2+m/480,by go_num,by go_num,by omega,by omega,by omega,fY,trivial⟩
     case measure=>simp[intOf];omega
   ·have z2:decide ((j:Int)<80)=false:=decide_eq_false (by omega)
    obtain⟨q,hq⟩:∃q,q=decide (n<=60):=⟨_,rfl⟩;have IP:decide ((n:Int)<=60)=q:=by
     rw[hq];by_cases h:n<=60
     ·rw[decide_eq_true h,decide_eq_true (by omega)]
     ·rw[decide_eq_false h,decide_eq_false (by omega)]
    have MD:=hq.symm;have HE:=sh (show q=decide (ed (l.take 80)<=60) from by
     rw[hq];obtain rfl:j=80:=by omega
     rw[<-HN.out])
    clear HN hq;go_wp2_with fail
    go_ret
    exact⟨by rw[HE.out];rfl,rfl⟩
  ·have z1:decide ((j:Int)<(l.length:Int))=false:=decide_eq_false (by omega)
   obtain⟨q,hq⟩:∃q,q=decide (n<=60):=⟨_,rfl⟩;have IP:decide ((n:Int)<=60)=q:=by
    rw[hq];by_cases h:n<=60
    ·rw[decide_eq_true h,decide_eq_true (by omega)]
    ·rw[decide_eq_false h,decide_eq_false (by omega)]
   have MD:=hq.symm;have HE:=sh (show q=decide (ed (l.take 80)<=60) from by
    rw[hq];obtain rfl:j=l.length:=by omega
    rw[abI (by omega)];have h9:=HN.out;rw[List.take_length]at h9;rw[<-h9])
   clear HN hq;go_wp2_with fail
   go_ret
   exact⟨by rw[HE.out];rfl,rfl⟩
end Go.Proofs.YtjbcbnemdhbhbaaGreatDoor
namespace Go.Proofs.YtjbcbnemdhbhbaaGreatDoor
open Go.Proofs.Tryz
open Go.ChangeShapes Go.WideShapes Go.ChangeAt Go.RowKit
theorem x9{α :Type}{n:Nat}{p:Nat-> α ->Prop}(h:∀i,i<n->∃a,p i a):∃l:List α,l.length=n/\∀i a,l[i]? =some a->p i a:=by
 induction n with
 | zero=>exact⟨[],rfl,fun i a h=>by simp at h⟩
 | succ n ih=>
  obtain⟨l,hl,hp⟩:=ih (fun i hi=>h i (by omega));obtain⟨a,ha⟩:=h n (by omega);refine⟨l++[a],by simp[hl],fun i b hb=> ?_⟩;by_cases hi:i<l.length
  ·rw[acr hi]at hb
   exact hp i b hb
  ·rw[abX (by omega)]at hb
   have aI:i-l.length<1:=(abA.1 hb).1;obtain rfl:i=n:=by omega
   rw[hl,agd]at hb;injection hb with hb;subst hb;exact ha
theorem PL{H:Type}{enc:TypeId×IS->H}{W:AI}{base:Nat}{spare:Nat->Bool}{held:Bool}{fuel:Nat}{c0 c1 c2 c3 c4:IS}{x:DataW H×List MemPlace}
  (hf:DataW.trod enc prog W base spare held fuel 137 [c0,c1,c2,c3,c4]=some x):∃a:Ac,[c0,c1,c2,c3,c4]=UG a/\a.key.size<=abi/\a.val.size<=abi:=by
 obtain⟨xs,n,_,hx,_,hlen,hg⟩:=DataW.trod_struct underlying137 hf;have k1:prog.cellsOf 3=1:=by kernel_rfl
 have k2:prog.cellsOf 4=1:=by kernel_rfl
 have k3:prog.cellsOf 9=1:=by kernel_rfl
 match xs,hlen with
 | [y0,y1,y2,y3,y4],_=>
  obtain⟨a0,e0,_,_⟩:=DataW.trod_int underlying3 (hg 0 _ rfl);obtain⟨a1,e1,_,w1⟩:=DataW.trod_string underlying9 (hg 1 _ rfl);obtain⟨a2,e2,_,w2⟩:=DataW.trod_string underlying9 (hg 2 _ rfl);obtain⟨a3,e3,_⟩:=DataW.trod_bool underlying4 (hg 3 _ rfl);obtain⟨a4,e4,_⟩:=DataW.trod_bool underlying4 (hg 4 _ rfl);simp[k1,k2,k3]at e0 e1 e2 e3 e4;subst e0 e1 e2 e3 e4;exact⟨⟨a0,a1,a2,a3,a4⟩,rfl,w1,w2⟩
theorem yh(l:List Ac):(lG l).length=l.length*5:=by
 induction l with
 | nil=>rfl
 | cons x l ih=>rw[nI,List.length_append,ih,abB,show (UG x).length=5 from rfl];omega
theorem EK{H:Type}{enc:TypeId×IS->H}{W:AI}{base b0:Nat}{spare:Nat->Bool}{held:Bool}{r:Reach}{v:IS}{d:DataW H}{p:List MemPlace}
  (hv:Value.okWide prog W r b0 64 v) (h:DataW.Trod enc prog W base spare held 64 v d p):
  ∃(A:Option Addr) (xs:List Ac) (cap:Nat),v= .slice A xs.length cap/\cap<=abi/\xs.length<=cap/\(∀a∈xs,a.key.size<=abi/\a.val.size<=abi)/\Sl W A (lG xs):=by
 obtain⟨a,len,cap,rfl⟩:=okWide_slice underlying64 hv;obtain⟨fuel,hf⟩:=h;rcases Go.Deep.open_slice underlying64 hf with⟨fu,_⟩|⟨x,l,c,m,n,D,Pl,fu,hb,hl,hm,kL,_,hx⟩
 ·simp[Value.cells]at fu
  obtain⟨rfl,rfl,rfl⟩:=fu;exact⟨none,[],0,rfl,abc _,abc _,by simp,Sl.nil _ _⟩
 ·simp[Value.cells]at fu
  obtain⟨rfl,rfl,rfl⟩:=fu;have uW:len<=m:=by rw[kL];split<;>omega
  have ce:prog.cellsOf 137=5:=by kernel_rfl
  have each:∀i,i<len->∃y:Ac,(∀j,j<5->W.cell? ((x.add (i*5)).add j)=(UG y)[j]?)/\y.key.size<=abi/\y.val.size<=abi:=by
   intro i hi;obtain⟨zQ,h1,h2⟩:=hx i (by omega);rw[ce]at h1;obtain⟨_,hlen,fU⟩:=World.cells?_some h1
   match zQ,hlen with
   | [c0,c1,c2,c3,c4],_=>
    obtain⟨y,hy,fi⟩:=PL h2;refine⟨y,fun j hj=> ?_,fi⟩;rw[fU j hj,hy]
  obtain⟨xs,MP,XB⟩:=x9 each;refine⟨some x,xs,cap,by rw[MP],by omega,by omega,fun a ha=> ?_,fun q u hu=> ?_⟩
  ·obtain⟨i,hi⟩:=List.getElem?_of_mem ha
   exact(XB i a hi).2
  ·have hql:q<xs.length*5:=by
    have:=(abA.1 hu).1
    rwa [yh]at this
   have uU:q/5<xs.length:=by omega
   have hq:q=q/5*5+q%5:=by omega
   have uS:=(XB (q/5) xs[q/5] (aaG uU)).1 (q%5) (Nat.mod_lt _ (by decide));rw[hq,qa xs (q/5) uU (q%5) (Nat.mod_lt _ (by decide))]at hu;rw[hu]at uS;obtain⟨b,o,spot⟩:=x;have abb:spot=none:=by
    have hz:=(XB 0 xs[0] (by rw[aaG (by omega)])).1 0 (by decide);have hz':W.cell? (((⟨b,o,spot⟩:Addr).add (0*5)).add 0)=some (.int .i64 xs[0].n):=hz;simpa[Addr.add]using World.cell?_spot hz'
   subst abb;rw[Go.WideShapes.add_plain,Go.WideShapes.add_plain,Nat.add_assoc,<-hq]at uS;refine⟨b,o,rfl,?_,uS⟩;rcases Nat.lt_or_ge b W.heap.size with aI|yt
   ·exact aI
   ·simp[World.cell?,Array.getElem?_eq_none yt]at uS
end Go.Proofs.YtjbcbnemdhbhbaaGreatDoor
