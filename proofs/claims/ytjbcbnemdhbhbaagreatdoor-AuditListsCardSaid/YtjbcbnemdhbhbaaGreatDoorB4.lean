import Derived.Test.YtjbcbnemdhbhbaaGreatDoorB3
set_option maxRecDepth 100000
set_option linter.unusedVariables false
set_option linter.unusedSimpArgs false
set_option maxHeartbeats 40000000
open Go.Lib renaming hid→sh
open Go.Value renaming int→acK
open List renaming getElem_mem→abw,map_append→abH,sum_append→adX
open Nat renaming le_refl→AS
namespace Go.Proofs.YtjbcbnemdhbhbaaGreatDoor
open Go.Proofs.Tryz
open Go.RowKit
namespace Nd
def left (leaf:Bool) (l:List Ce) (j:Nat):Nat:=2+((l.take j).map (size leaf)).sum
def most (leaf:Bool) (l:List Ce) (j:Nat):Nat:=max (left leaf l j) (sum leaf l+2-left leaf l j)
def cutTo (leaf:Bool) (l:List Ce):Nat->Nat×Nat
 | 0=>(0,0)
 | j+1=>if (cutTo leaf l j).1=0\/most leaf l (j+1)<(cutTo leaf l j).2 then (j+1,most leaf l (j+1))else cutTo leaf l j
def cut (leaf:Bool) (l:List Ce):Nat:=(cutTo leaf l (l.length-1)).1
theorem kg(leaf:Bool)(l:List Ce):∀j,1<=j->(1<=(cutTo leaf l j).1/\(cutTo leaf l j).1<=j)/\(cutTo leaf l j).2=most leaf l (cutTo leaf l j).1/\∀i,1<=i->i<=j->(cutTo leaf l j).2<=most leaf l i
 | j+1,_=>by
  rw[cutTo];by_cases h0:j=0
  ·subst h0
   rw[if_pos (.inl rfl)];exact⟨⟨AS _,AS _⟩,rfl,fun i h1 h2=>by
    have e:i=1:=by omega
    rw[e];exact AS _⟩
  ·obtain⟨⟨h1,h2⟩,h3,h4⟩:=kg leaf l j (by omega)
   split
   ·next h=>
    refine⟨⟨by omega,AS _⟩,rfl,fun i Md Xm=> ?_⟩;have hm:most leaf l (j+1)<(cutTo leaf l j).2:=by rcases h with h|h;omega;exact h
    by_cases e:i=j+1
    ·subst e;exact AS _
    ·have:=h4 i Md (by omega)
     show most leaf l (j+1)<=most leaf l i;omega
   ·next h=>
    refine⟨⟨h1,by omega⟩,h3,fun i Md Xm=> ?_⟩;by_cases e:i=j+1
    ·subst e;omega
    ·exact h4 i Md (by omega)
theorem iD(leaf:Bool)(l:List Ce)(j:Nat):left leaf l j+((l.drop j).map (size leaf)).sum=sum leaf l:=by
 unfold left sum;have:(l.map (size leaf)).sum=((l.take j).map (size leaf)).sum+((l.drop j).map (size leaf)).sum:=by
  rw[<-adX,<-abH,List.take_append_drop]
 omega
theorem gh(leaf:Bool)(l:List Ce)(j:Nat)(h:j<l.length):left leaf l (j+1)=left leaf l j+size leaf l[j]:=by
 unfold left;rw[List.take_succ_eq_append_getElem h,abH,adX];simp;omega
theorem zY(leaf:Bool)(l:List Ce)(m:Nat)(hs:∀c∈l,size leaf c<=m)(hm:2*m+4<sum leaf l):∃i,1<=i/\i+1<=l.length/\2*most leaf l i<=sum leaf l+2+m:=by
 have lL:sum leaf l+2<=2*left leaf l l.length:=by
  have:=iD leaf l l.length;rw[List.drop_length]at this;simp at this;omega
 have hex:∃j,j<=l.length/\sum leaf l+2<=2*left leaf l j/\∀k,k<j->2*left leaf l k<sum leaf l+2:=by
  have:∀n,n<=l.length->sum leaf l+2<=2*left leaf l n->∃j,j<=l.length/\sum leaf l+2<=2*left leaf l j/\∀k,k<j->2*left leaf l k<sum leaf l+2:=by
   intro n;induction n using Nat.strongRecOn with
   | ind n ih=>
    intro hn h;by_cases hk:∃k,k<n/\sum leaf l+2<=2*left leaf l k
    ·obtain⟨k,dw,bO⟩:=hk
     exact ih k dw (by omega) bO
    ·exact⟨n,hn,h,fun k dw=>by
      by_cases h2:sum leaf l+2<=2*left leaf l k
      ·exact absurd ⟨k,dw,h2⟩ hk
      ·omega⟩
  exact this l.length (AS _) lL
 obtain⟨j,hj,hj1,hj2⟩:=hex;have O0:left leaf l 0=2:=by simp[left]
 have ID:j≠0:=by intro e;subst e;omega
 obtain⟨i,rfl⟩:∃i,j=i+1:=⟨j-1,by omega⟩;have hn:=gh leaf l i (by omega);have hsi:=hs _ (abw (show i<l.length by omega));have hi:=hj2 i (by omega);have Md:i≠0:=by intro e;subst e;omega
 by_cases hc:2*left leaf l (i+1)<=sum leaf l+2+m
 ·by_cases SV:i+1=l.length
  ·
   have h3:=iD leaf l (i+1);rw[SV,List.drop_length]at h3;simp at h3;rw[<-SV]at h3;omega
  ·refine⟨i+1,by omega,by omega,?_⟩
   unfold most;omega
 ·refine⟨i,by omega,by omega,?_⟩
  unfold most;omega
theorem zR(leaf:Bool)(l:List Ce)(m:Nat)(hs:∀c∈l,size leaf c<=m)(hm:m<=223)(h1:488<sum leaf l)(h2:sum leaf l<=750):
  1<=cut leaf l/\cut leaf l+1<=l.length/\sum leaf (l.take (cut leaf l))<=488/\sum leaf (l.drop (cut leaf l))<=488:=by
 obtain⟨i,Md,Xm,Xn⟩:=zY leaf l m hs (by omega);obtain⟨⟨a1,a2⟩,a3,a4⟩:=kg leaf l (l.length-1) (by omega);have h5:=a4 i Md (by omega);rw[a3]at h5;have h6:=iD leaf l (cut leaf l);have h7:most leaf l (cut leaf l)<=488:=by unfold cut;omega
 unfold most at h7;refine⟨a1,by unfold cut;omega,?_,?_⟩
 ·show left leaf l (cut leaf l)<=488
  omega
 ·unfold sum
  unfold sum at h6 h7;omega
theorem PV(leaf:Bool)(l:List Ce)(m:Nat)(hs:∀c∈l,size leaf c<=m)(hm:m<=223)(h1:488<sum leaf l)(h2:sum leaf l<=750):
  122<=sum leaf (l.take (cut leaf l))/\122<=sum leaf (l.drop (cut leaf l)):=by
 obtain⟨i,Md,Xm,Xn⟩:=zY leaf l m hs (by omega);obtain⟨⟨a1,a2⟩,a3,a4⟩:=kg leaf l (l.length-1) (by omega);have h5:=a4 i Md (by omega);rw[a3]at h5;have h6:=iD leaf l (cut leaf l);have h7:2*most leaf l (cut leaf l)<=2*most leaf l i:=by unfold cut;omega
 have h8:most leaf l (cut leaf l)<=488:=by unfold cut;omega
 unfold most at h7 h8;unfold most at Xn;constructor
 ·show 122<=left leaf l (cut leaf l)
  unfold sum at h6 h7 Xn h1;omega
 ·unfold sum
  unfold sum at h6 h7 Xn h1;omega
theorem Gr(leaf:Bool)(l:List Ce)(j:Nat):left leaf l j<=sum leaf l:=by have:=iD leaf l j;omega
end Nd
theorem LY(leaf:Bool)(r:Rw)(l:List Ce)(S:Nat->Prop)(w:World)(h:aV w S r l)(h2:2<=l.length)(hl:Small l):Calls prog 220 #[.bool leaf,.slice r.A r.n r.c] w (dF (Nd.cut leaf l) w):=by
 obtain⟨A,n,cap⟩:=r;have hr:=h;obtain⟨h1,h3,h4,-⟩:=hr;simp only at h1 h3 h4 |-;subst h1;obtain⟨N,hN⟩:∃N:Int,N=(Nd.cut leaf l:Nat):=⟨_,rfl⟩;rw[<-hN];have HN:=sh (show N=((Nd.cutTo leaf l (l.length-1)).1:Nat) from hN);have HR:=sh h;have HL:=sh hl;have CW:=hl.1;have dC:cap<=9223372036854775807:=by unfold maxLen at h4;omega
 have HC:=sh fun(W:World) (hb:Below w.heap.size w W)=>tY leaf ⟨A,l.length,cap⟩ l S W (h.below hb) hl;obtain⟨T,hT⟩:∃T,T=Nd.sum leaf l:=⟨_,rfl⟩;have hTb:T<=30000000:=by
  have:=JI leaf hl.2;rw[hT];unfold Nd.sum;omega
 rw[<-hT]at HC;have HT:=sh hT;have z0:decide ((l.length:Int)<2)=false:=decide_eq_false (by omega);obtain⟨k,hk⟩:∃k,l.length=k+1:=⟨l.length-1,by omega⟩;have Gn:IntKind.i64.wrap ((l.length:Int)-1)=(k:Int):=by rw[show ((l.length:Int)-1)=(k:Int)by omega];exact wrap_i64 k (by omega)
 have he1:(l.length:Int)-1=(k:Int):=by omega
 have dw:l.length-1=k:=by omega
 rw[dw]at HN;have HK:=sh hk;have gT:k<l.length:=by omega
 have Qz:k<=9999:=by omega
 clear h hN h4 hl hT hk dw;go_enter func220,ntmps220
 go_wp2_with (first
  | (go_at_call 254;go_must (refine(HC.out _ (Below.refl _ _)).mono ?_);rintro e w1 ⟨rfl,ar⟩;have dD:=sh ar;clear ar)
  | fail)
 go_loopw [6,7,8,25] (fun u v x i wr=>∃(j:Nat),i= .int .i64 j/\u= .int .i64 ((Nd.cutTo leaf l j).1:Nat)/\v= .int .i64 ((Nd.cutTo leaf l j).2:Nat)/\x= .int .i64 (Nd.left leaf l j:Nat)/\j<=k/\Below w.heap.size w wr) (fun _ _ _ i _=>k-(intOf i).toNat)
 case atStart=>exact⟨0,rfl,rfl,rfl,by simp[Nd.left],Nat.zero_le _,dD.out⟩
 case round=>
  obtain⟨j,rfl,rfl,rfl,rfl,hj,eO⟩:=hrel;have fO:=sh eO;by_cases aI:j<k
  ·have z1:decide ((j:Int)<(k:Int))=true:=decide_eq_true (by omega)
   obtain⟨b,o,hA,hS,q0,q1,q2,q3,q4⟩:=(HR.out.below eO).at j (by omega);simp only at hA;subst hA;have gH:=hS.2;have hm:=HL.out.2 _ (abw (show j<l.length by omega));have HCZ:=sh fun(W:World)=>Ck leaf l[j] W (by omega) (by omega);have vX:=sh (Nd.gh leaf l j (by omega));have IE:=Nd.Gr leaf l (j+1);have aao:=Nd.Gr leaf l j;rw[<-HT.out]at IE aao;obtain⟨y,hy⟩:∃y,y=Nd.left leaf l (j+1):=⟨_,rfl⟩;obtain⟨x,hx⟩:∃x,x=Nd.left leaf l j:=⟨_,rfl⟩;obtain⟨z,hz⟩:∃z,z=Nd.size leaf l[j]:=⟨_,rfl⟩;obtain⟨be,U8⟩:∃z,z=(Nd.cutTo leaf l j).1:=⟨_,rfl⟩;obtain⟨le,hle⟩:∃z,z=(Nd.cutTo leaf l j).2:=⟨_,rfl⟩;obtain⟨d,hd⟩:∃z,z=l[j]:=⟨_,rfl⟩;have j5:Hid (Nd.cutTo leaf l (j+1)=if be=0\/max y (T+2-y)<le then (j+1,max y (T+2-y))else (be,le)):=by
    show _=_;rw[Nd.cutTo,<-U8,<-hle];unfold Nd.most;rw[<-hy,<-HT.out]
    congr 1
    rw[U8,hle]
   rw[<-hy,<-hx,<-hz]at vX;rw[<-hz,<-hd]at HCZ;rw[<-hy]at IE;rw[<-hx]at aao;rw[<-hd]at q0 q1 q2 q3 q4;rw[<-U8,<-hle,<-hx];have Kp:y=x+z:=vX.out;have HY:=sh (show Nd.left leaf l (j+1)=y from hy.symm);clear hS hm eO hy hx hz U8 hle hd vX;subst Kp;have hj2:0<=(T:Int)+2-((x:Int)+z):=by omega
   obtain⟨mx,rX⟩:∃mx:Nat,mx=max (x+z) (T+2-(x+z)):=⟨_,rfl⟩;have hmx:(if (x:Int)+z<(T:Int)+2-((x:Int)+z)then (T:Int)+2-((x:Int)+z)else (x:Int)+z)=(mx:Int):=by
    split<;>omega
   rw[<-rX]at j5;have mV:(be=0/\Hid (Nd.cutTo leaf l (j+1)=(j+1,mx)))\/((be==0)=false/\((be:Int)==0)=false/\decide ((mx:Int)<(le:Int))=true/\decide (mx<le)=true/\Hid (Nd.cutTo leaf l (j+1)=(j+1,mx)))\/
     ((be==0)=false/\((be:Int)==0)=false/\decide ((mx:Int)<(le:Int))=false/\decide (mx<le)=false/\Hid (Nd.cutTo leaf l (j+1)=(be,le))):=by
    have bm:=j5.out;by_cases h0:be=0
    ·exact .inl ⟨h0,sh (by rw[bm,if_pos (.inl h0)])⟩
    ·have e1:(be==0)=false:=by rw[beq_eq_false_iff_ne];exact h0
     have e2:((be:Int)==0)=false:=by rw[beq_eq_false_iff_ne];omega
     by_cases h3:mx<le
     ·exact .inr (.inl ⟨e1,e2,decide_eq_true (by omega),decide_eq_true h3,sh (by rw[bm,if_pos (.inr h3)])⟩)
     ·exact .inr (.inr ⟨e1,e2,decide_eq_false (by omega),decide_eq_false h3,sh (by rw[bm,if_neg (by rintro(h|h);exact h0 h;exact h3 h)])⟩)
   clear rX j5;rcases mV with⟨rfl,HV⟩|⟨e1,e2,e3,e4,HV⟩|⟨e1,e2,e3,e4,HV⟩;all_goals
    go_wp2_with fail
    (go_at_call 255)
    refine(HCZ.out _).mono ?_;rintro e w2 ⟨rfl,az⟩;have fY:=sh (fO.out.trans ((bN az).2.2.2.2.2.2.1.mono fO.out.size));clear az;go_wp2_with fail
    go_roundw
    case rel=>
     have g1:=congrArg (fun p=>(p.1:Nat)) HV.out;have g2:=congrArg (fun p=>(p.2:Nat)) HV.out;have g3:=HY.out;simp only at g1 g2;have g4:acK .i64 ((x:Int)+z)= .int .i64 ((x+z:Nat):Int):=by go_num
     have g5:acK .i64 ((j:Int)+1)= .int .i64 ((j+1:Nat):Int):=by go_num
     refine⟨j+1,g5,?_,?_,?_,by omega,fY.out⟩
     ·first|(rw[g1];done)|(rw[g1];exact g5)
     ·rw[g2]
     ·rw[g3];exact g4
    case measure=>simp[intOf];omega
  ·have z1:decide ((j:Int)<(k:Int))=false:=decide_eq_false (by omega)
   obtain rfl:j=k:=by omega
   have HV:=sh HN.out;clear eO;go_wp2_with fail
   go_ret
   exact fs HV.out fO.out
end Go.Proofs.YtjbcbnemdhbhbaaGreatDoor
