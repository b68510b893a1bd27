import Derived.Test.YtjbcbnemdhbhbaaGreatDoorB10
import Derived.Test.YtjbcbnemdhbhbaaGreatDoorB6
import Derived.Deep.RegionWith
import Derived.Deep.RegionHeld3
import Derived.Lib.AppendStr
set_option maxRecDepth 100000
set_option linter.unusedVariables false
set_option linter.unusedSimpArgs false
set_option maxHeartbeats 40000000
open Go renaming Calls→aag,Value→IS,World→AI,info_parts→aco,maxLen→abi,wpList_append_lies→adY
open Go.Lib renaming hid→sh,strCells→agI
open Go.RowKit renaming Below→No
open Go.RowKit.Below renaming refl→IN
open Go.Value renaming int→acK,ownBlock→aaU,slice→acf
open Go.World renaming news_of_block→abV,ownsRow_nil→acv
open Go.World.ownsRow renaming lt→abr
open List renaming append_nil→adp,getElem_mem→abw,length_append→BY,length_map→aae,mem_singleton→By,nodup_append→aai,take_length→acB
open Nat renaming le_refl→AS,le_trans→abE,zero_le→abc
open Option renaming mem_toList→abz
open Option.some renaming injEq→acI
namespace Go.Proofs.YtjbcbnemdhbhbaaGreatDoor
open Go.Proofs.Tryz
open Go.RowKit
theorem Wi(leaf:Bool)(w:AI):aag prog 252 #[.bool leaf] w (fun e w'=>e= .returned (.int .i64 ((if leaf then 1 else 2:Nat):Int))/\w=w'):=by
 refine(MW leaf w).mono ?_;rintro e w' ⟨rfl,rfl⟩;cases leaf<;>exact⟨rfl,rfl⟩
theorem rF{w w2:AI}{t:TypeId}{v0 v1 v2:IS}(hb:No (w.alloc (.cells #[v0,v1,v2] t)).heap.size (w.alloc (.cells #[v0,v1,v2] t)) w2):
  w2.cell? ⟨w.heap.size,0,none⟩=some v0/\w2.cell? ⟨w.heap.size,1,none⟩=some v1/\w2.cell? ⟨w.heap.size,2,none⟩=some v2/\w.heap.size<w2.heap.size/\No w.heap.size w w2/\Bk w2 w.heap.size t #[v0,v1,v2]:=by
 have hk:=af (Bk.new w t #[v0,v1,v2]) hb;exact⟨hk.cell 0,hk.cell 1,hk.cell 2,hk.lt,((IN _ w).alloc (AS _) _).trans (hb.mono (by simp)),hk⟩
def KY (p:aA) (S:List Nat) (σ :ag) (k d:Nat) (xs:List Tr.Pd) (w:AI) (e:Ending) (w':AI):Prop:=
 ∃(A:Option Addr) (c:Nat) (ks:List Kd) (σ':ag),e= .returned (.tuple #[.slice A ks.length c,.int .i64 0])/\aZ w' w.heap.size (.slice A ks.length c) (ks.map Kd.cell)/\ks.map Kd.rg=xs.map Tr.Pd.rg/\(∀k∈ks,Tr.aJ σ' d k.no k.P k.L)/\
  Tr.aE (Tr.rp d xs.length) σ (xs.flatMap (·.P)) σ' (ks.flatMap (·.P))/\∃S':List Nat,p.At w' S' σ' (k-xs.length)/\ah S w w'/\aj w S S'/\∀g,aaU (.slice A ks.length c)=some g->g∉S'
def zA (p:aA) (S:List Nat) (σ :ag) (k:Nat) (x:rO) (w w':AI) (a b:Int):Prop:=
 (∃n:Nat,a=n/\b=0/\1<=n/\n<512/\ σ n=none/\Step p S w w' (Tr.cY σ n (some x)) (k-1))\/(p.F/\a=0/\b=9/\∃ σ',Step p S w w' σ' 0)
theorem zA.off{p:aA}{S:List Nat}{σ :ag}{k:Nat}{x:rO}{w w':AI}{a b:Int}(h:zA p S σ k x w w' a b):ah S w w':=by
 rcases h with⟨n,-,-,-,-,-,S',-,h,-⟩|⟨-,-,-,σ',S',-,h,-⟩
 ·exact h
 ·exact h
theorem Step.from{p:aA}(hp:dc p){S Sj:List Nat}{w wr w2 w3:AI}{σ :ag}{k:Nat}(h1:ah S w wr)(f1:aj w S Sj)(hb:No wr.heap.size wr w2)(h:Step p Sj w2 w3 σ k):Step p S w w3 σ k:=by
 obtain⟨S',h2,h3,h4⟩:=h;exact⟨S',h2,h1.then ((ah.ae hb Sj).trans h3) f1,f1.trans (h4.mono hb.size) h1.size⟩
theorem rH{p:aA}{S:List Nat}{σ :ag}{k:Nat}{x:rO}{w:AI}{f:Nat}{args:Array IS}(h:aag prog f args w (fun e w'=>
   (∃n:Nat,e= .returned (.tuple #[.int .i64 n,.int .i64 0])/\1<=n/\n<512/\ σ n=none/\Step p S w w' (Tr.cY σ n (some x)) (k-1))\/Full p S w w' e (.returned (.tuple #[.int .i64 0,.int .i64 9])))):
  aag prog f args w (fun e w'=>∃a b:Int,e= .returned (.tuple #[.int .i64 a,.int .i64 b])/\Hid (zA p S σ k x w w' a b)):=by
 refine h.mono ?_;rintro e w' (⟨n,rfl,h1⟩|⟨h1,rfl,h2⟩)
 ·exact⟨n,0,rfl,sh (.inl ⟨n,rfl,rfl,h1⟩)⟩
 ·exact⟨0,9,rfl,sh (.inr ⟨h1,rfl,rfl,h2⟩)⟩
theorem tU{p:aA}(hp:dc p){w:AI}{S:List Nat}{σ :ag}{k:Nat}(h:p.At w S σ k){d B:Nat}{xs:List Tr.Pd}{r:Rw}(hN:(xs.flatMap (·.P)).Nodup)(hx:∀x∈xs,Tr.Part σ d x.cs x.P x.L/\Nd.sum (d==0) x.cs<=488/\Tr.Good (d==0) x.cs x.L)
  (hr:gy w (Cl B S) r (xs.map (Tr.Pd.pt (d==0)))) (hB:B<=w.heap.size) (hk:p.F\/xs.length<=k) (hl:xs.length<=10):
  aag prog 218 #[.iface p.T p.v,.slice r.A r.n r.c] w (fun e w'=>KY p S σ k d xs w e w'\/Full p S w w' e (.returned (.tuple #[.slice none 0 0,.int .i64 9]))):=by
 obtain⟨i0,hi,ef,dK,dY⟩:=aco dX;obtain⟨f,rv,hn,hm,he,IH⟩:=hp.make;obtain⟨A,n,cap⟩:=r;have gr:=hr;obtain⟨h1,h2,h3,-⟩:=gr;simp only at h1 h2 h3 |-;rw[aae]at h1;subst h1;have dC:cap<=9223372036854775807:=by unfold abi at h3;omega
 have HR:=sh hr;have HX:=sh hx;have HN:=sh hN;have HMK:=sh IH;have HA:=sh h;have HF:=sh hk;have HS:=sh (hp.old h);clear hr hx hN IH h hk h3;go_enter func218,ntmps218
 go_wp2_with fail
 go_loopw [6,14] (fun u i wr=>∃(j:Nat) (A:Option Addr) (c:Nat) (ks:List Kd) (σj:ag) (Sj:List Nat),i= .int .i64 j/\u= .slice A j c/\j<=xs.length/\ks.length=j/\aZ wr w.heap.size (.slice A j c) (ks.map Kd.cell)/\ks.map Kd.rg=(xs.take j).map Tr.Pd.rg/\
   (∀k∈ks,Tr.aJ σj d k.no k.P k.L)/\Tr.aE (Tr.rp d j) σ ((xs.take j).flatMap (·.P)) σj (ks.flatMap (·.P))/\p.At wr Sj σj (k-j)/\ah S w wr/\aj w S Sj/\(∀g,aaU (.slice A j c)=some g->g∉Sj)) (fun _ i _=>xs.length-(intOf i).toNat)
 case atStart=>exact⟨0,none,0,[],σ,S,rfl,rfl,abc _,rfl,acv _ _ _ _,rfl,by simp,(Tr.aE.refl (by simp) (by simp)).more (abc _),HA.out,ah.refl _ _,aj.refl _ _,by intro g hg;cases hg⟩
 case round=>
  obtain⟨j,A2,c,ks,σj,Sj,rfl,rfl,hj,gT,how,OZ,bm,jE,cL,bG,bZ,oj⟩:=hrel;have sL:=sh how;have T5:=sh OZ;have j5:=sh bm;have zx:=sh jE;have FA:=sh cL;have nk:=sh bG;have zb:=sh bZ;have CI:=sh oj;have T4:=sh gT;by_cases aI:j<xs.length
  ·have z1:decide ((j:Int)<(xs.length:Int))=true:=decide_eq_true (by omega)
   obtain⟨b,o,hA,hS,q,q0,q1,q2,hq⟩:=(HR.out.carry bG bZ).at j (by rw[aae];exact aI);simp only at hA;subst hA;have gH:=hS.2;obtain⟨p1,p2,p3⟩:=HX.out _ (abw aI);rw[List.getElem_map]at q0 q1 hq;simp only[Tr.Pd.pt]at q0 q1 hq;have Dc:=sh fun(W:AI) (hb:No wr.heap.size wr W)=>(show aag prog 251 #[.bool (d==0),.slice q.A q.n q.c] W (cU (Nd.str (d==0) xs[j].cs) 0 W) from s6 (d==0) q xs[j].cs _ W (hq.below hb) p1.right.1 p2);obtain⟨leaf,jO⟩:∃leaf,leaf=(d==0):=⟨_,rfl⟩;rw[<-jO]at q1 Dc;obtain⟨s,nS⟩:∃s,s=Nd.str leaf xs[j].cs:=⟨_,rfl⟩;rw[<-nS]at Dc;have QT:s.size<=488:=by rw[nS,Nd.dS,jO];exact p2
   obtain⟨ky,Mh⟩:∃ky,ky=xs[j].key:=⟨_,rfl⟩;rw[<-Mh]at q0;have R8:=sh Mh;have HS9:=sh nS;have T8:=sh jO;have HKD:=sh fun(W:AI)=>Wi leaf W;obtain⟨kn,OY⟩:∃kn:Nat,kn=(if leaf then 1 else 2):=⟨_,rfl⟩;rw[<-OY]at HKD;have HKN:=sh OY;have dw:1<=kn/\kn<=3:=by rw[OY];cases leaf<;>simp
   obtain⟨qA,qn,qc⟩:=q;simp only at q2 Dc;clear hS hq p1 p2 p3 how OZ bm jE cL bG bZ oj gT nS jO Mh OY;go_wp2_with fail
   refine(Dc.out _ ((IN _ _).alloc (AS _) _)).mono ?_;rintro e w2 ⟨rfl,az⟩;obtain⟨r0,r1,r2,l2,jv,bO⟩:=rF az;have fY:=sh jv;have sf:=sh bO;clear az jv bO;go_wp2_with fail
   have HMJ:=sh (rH (HMK.out w2.drew Sj σj (k-j) ⟨kn,s⟩ (hp.below FA.out fY.out.drew) (HF.out.imp id (fun _=>by omega)) dw.1 dw.2 QT));clear dw QT;have bH:=sh (show ∀W:AI,ah Sj w2 W->W.cell? ⟨wr.heap.size,1,none⟩=some (.bool leaf) from fun W hb=>(hb.cell (p:=⟨wr.heap.size,1,none⟩) l2 (fun hh=>by have:=hp.old FA.out _ hh;simp at this)).trans r1);go_region_held3 (fun W=>W.cell? ⟨wr.heap.size,1,none⟩=some (.bool leaf)) (first|exact bH.out _ (ah.refl _ _).drew|exact bH.out _ ((ah.refl Sj w2).drew.trans (zA.off mZ.out))) (first
    | (go_at_call 252;refine(HKD.out _).mono ?_;rintro e w3 ⟨rfl,rfl⟩)
    | (refine HMJ.out.mono ?_;rintro e w3 ⟨rn,re,rfl,mZ⟩))
   all_goals
    rcases mZ.out with⟨n,rfl,rfl,n1,n2,uX,S3,df,eA,gQ⟩|⟨hF,rfl,rfl,σ3,Bc⟩
    ·have oo:=eA.size
     have jw:w2.heap.size<=w3.heap.size:=oo;have El:w.heap.size<=wr.heap.size:=nk.out.size;have alG:=fY.out.size;have az:No wr.heap.size wr w2.drew:=fY.out.drew;have YL:=sh (Step.from hp nk.out zb.out az ⟨S3,df,eA,gQ⟩);have bS:=nk.out.then ((ah.ae az Sj).trans eA) zb.out;have bZ:=zb.out.trans (gQ.mono az.size) El;have adH:=sh bS;have adm:=sh bZ;have aw:aZ w3 w.heap.size (.slice A2 j c) (ks.map Kd.cell):=ah.own eA (sL.out.below az) CI.out;have aaE:∀g,aaU (.slice A2 j c)=some g->g∉S3:=fun g hg hs=>by
      have aI:=(abr sL.out g hg).2;rcases gQ g hs with h1|h1
      ·exact CI.out g hg h1
      ·have:w2.heap.size<=g:=h1
       omega
     have Td:=hp.old df;have Yn:=sh aaE;have Yk:=sh Td;have zo:=sh df;have KR:=sh (Tr.I9 HN.out HX.out aI T5.out j5.out zx.out n1 n2 uX);unfold aZ at aw;rw[aae,T4.out]at aw;have jZ:=sh aw;have l3:w3.cell? ⟨wr.heap.size,0,none⟩=some (.string ky):=(eA.cell (p:=⟨wr.heap.size,0,none⟩) l2 (fun hh=>by have:=hp.old FA.out _ hh;simp at this)).trans r0;have l4:wr.heap.size<w3.heap.size:=by omega
     clear bS bZ eA gQ df aw aaE Td mZ oo az uX r0 r1 r2;go_wp2_with (at_builtin;refine adY _ rfl (.tmp 44) (.tmp 49) 174 rfl w.heap.size 170 i0 _ 5 56 underlying174 hi ef dK dY rfl (by omega) (.slice A2 j c) j (ay (ks.map Kd.cell)) rfl (jZ.out.alloc _) ⟨w3.heap.size,0,none⟩ 1 1 [.string ky,.string ⟨#[]⟩,.int .i64 0,.int .i64 0,.int .i64 n] rfl rfl (abV (cs:= #[.string ky,.string ⟨#[]⟩,.int .i64 0,.int .i64 0,.int .i64 n]) (heap_alloc_new w3 _)) (by simp[Value.oneCell']) (by omega) (by unfold abi;omega) (by omega) (by simp;omega) (w3.heap.size+1) (by simp) ?_;intro gg gA w4 bM cd An Mk)
     have hUl:∀g,aaU (.slice A2 j c)=some g->w.heap.size<=g:=fun g hg=>(abr jZ.out g hg).1;have Y7:p.At w4 S3 (Tr.cY σj n (some ⟨if (d==0)then 1 else 2,Nd.str (d==0) xs[j].cs⟩)) (k-(j+1)):=by
      rw[<-T8.out,<-HS9.out,<-HKN.out];refine hp.off (U:=(acf A2 j c).ownBlock.toList) (hp.less zo.out (by omega)) (((ah.refl _ w3).alloc _).grown cd (fun g hg=> .inl (by rw[abz];exact hg))) (fun b hb hu=> ?_);rw[abz]at hu;exact Yn.out b hu hb
     have Zj:ah S w w4:=(adH.out.alloc _).grown cd (fun g hg=> .inr (hUl g hg));have Zi:∀g,aaU (.slice (some ⟨gg,0,none⟩) (j+1) gA)=some g->g∉S3:=fun g hg hs=>by
      have e:gg=g:=by simpa[aaU]using hg
      subst e;rcases An with h1|h1
      ·exact Yn.out gg h1 hs
      ·have:=Yk.out gg hs;omega
     have Zk:aZ w4 w.heap.size (.slice (some ⟨gg,0,none⟩) (j+1) gA) ((ks++[xs[j].O9 n]).map Kd.cell):=by
      unfold aZ;rw[List.map_append,BY,aae,T4.out,bR];show World.ownsRow _ _ _ _ _ _ (_++ay [(xs[j].O9 n).cell]);rw[fg];show World.ownsRow _ _ _ _ _ _ (_++[.string xs[j].key,_,_,_,_]);rw[<-R8.out];exact bM
     have Zf:(ks++[xs[j].O9 n]).length=j+1:=by rw[BY,T4.out];rfl
     have nj:=sh (show ∃(j':Nat) (A':Option Addr) (c':Nat) (kW:List Kd) (σ':ag) (S':List Nat),acK .i64 ((j:Int)+1)= .int .i64 j'/\acf (some ⟨gg,0,none⟩) (j+1) gA= .slice A' j' c'/\j'<=xs.length/\kW.length=j'/\aZ w4 w.heap.size (.slice A' j' c') (kW.map Kd.cell)/\kW.map Kd.rg=(xs.take j').map Tr.Pd.rg/\
       (∀k∈kW,Tr.aJ σ' d k.no k.P k.L)/\Tr.aE (Tr.rp d j') σ ((xs.take j').flatMap (·.P)) σ' (kW.flatMap (·.P))/\p.At w4 S' σ' (k-j')/\ah S w w4/\aj w S S'/\(∀g,aaU (.slice A' j' c')=some g->g∉S') from
      ⟨j+1,_,_,_,_,S3,by go_num,rfl,by omega,Zf,Zk,KR.out.1,KR.out.2.1,KR.out.2.2,Y7,Zj,adm.out,Zi⟩)
     clear bM cd An Y7 Zj Zi Zk hUl Zf;go_roundw
     case rel=>exact nj.out
     case measure=>simp[intOf];omega
    ·have El:w.heap.size<=wr.heap.size:=nk.out.size
     have az:No wr.heap.size wr w2.drew:=fY.out.drew;have YL:=sh (Step.from hp nk.out zb.out az Bc);clear Bc mZ az;go_wp2_with fail
     go_ret2
     exact .inr ⟨hF,rfl,σ3,YL.out⟩
  ·have z1:decide ((j:Int)<(xs.length:Int))=false:=decide_eq_false (by omega)
   obtain rfl:j=xs.length:=by omega
   have rL:=sh (show KY p S σ k d xs w (.returned (.tuple #[.slice A2 xs.length c,.int .i64 0])) wr from
    ⟨A2,c,ks,σj,by rw[T4.out],by rw[T4.out];exact how,by rw[T5.out,acB],bm,by rw[acB]at jE;exact jE,Sj,cL,bG,bZ,by rw[T4.out];exact oj⟩)
   clear how OZ bm jE cL bG bZ oj gT;go_wp2_with fail
   go_ret2
   exact .inl rL.out
def ints (l:List Nat):List IS:=l.map fun(n:Nat)=>acK .i64 (n:Int)
theorem oT(l:List Nat):(ints l).length=l.length:=by simp[ints]
theorem lW(a b:List Nat):ints (a++b)=ints a++ints b:=by simp[ints]
theorem iz:(prog.info? 3).map (fun i=>(i.zero,i.size,i.bytes))=some (some (.int .i64 0),1,8):=by kernel_rfl
theorem gD(l:List Nat):∀u∈ints l,u.oneCell'=true:=by
 intro u hu;obtain⟨x,_,rfl⟩:=List.mem_map.1 hu;rfl
theorem Tr.Chain.len{σ :ag}:∀ {ns:List Nat} {no:Nat} {v:List UInt8},Tr.Chain σ no ns v->ns.length<=v.length
 | [],_,_,_=>by simp
 | n::ns,_,_,⟨_,_,_,next,piece,rest,_,_,h6,h7,_,_,gd⟩=>by
  have:=gd.len;rw[h6,BY,List.length_cons];omega
theorem ua{w:AI}{b1 b2 e1 e2 s1 s2 n1 n2:Nat}{v1 v2:IS}{x1 x2:List IS}(h1:w.ownsRow b1 e1 s1 v1 n1 x1)(h2:w.ownsRow b2 e2 s2 v2 n2 x2)(bL:e1≠e2):v1.ownBlock=none\/v1.ownBlock≠v2.ownBlock:=by
 rcases h1.2 with⟨rfl,-⟩|⟨g,cap,cur,rfl,-,hg,-⟩
 ·exact .inl rfl
 ·rcases h2.2 with⟨rfl,-⟩|⟨g2,lB,akv,rfl,-,tA,-⟩
  ·exact .inr (by simp[aaU])
  ·refine .inr fun h=> ?_
   simp only[aaU,acI]at h;subst h;rw[hg]at tA;injection tA with tA;injection tA with _ q;exact bL q
theorem Rf{w w2 w3:AI}{o:Obj}{B e1 e2 s1 s2 n1 n2 g g' t t':Nat}{v1 v2:IS}{x1 x2:List IS}{cs zQ:Array IS}(bX:(w2.alloc o).grownBy w3 v1.ownBlock)(h1:w2.ownsRow B e1 s1 v1 n1 x1)(h2:w2.ownsRow B e2 s2 v2 n2 x2)(bL:e2≠e1)
  (hk:Bk w2 g t cs) (ht:e1≠t) (ko:Bk w2 g' t' zQ) (ht':e1≠t') (hb:No B w w2) (hB:B<=w.heap.size) (OP:B<=w2.heap.size):w3.ownsRow B e2 s2 v2 n2 x2/\Bk w3 g t cs/\Bk w3 g' t' zQ/\No B w w3/\w2.heap.size<w3.heap.size:=by
 have hs:=bX.size;simp at hs;refine⟨(h2.alloc o).kept bX (ua h2 h1 bL),(bX.block _ (by have:=hk.lt;simp;omega) (fun e=>bP h1 hk ht e.symm)).trans (hk.alloc _),(bX.block _ (by have:=ko.lt;simp;omega) (fun e=>bP h1 ko ht' e.symm)).trans (ko.alloc _),?_,by omega⟩;have h3:=hb.alloc (o:=o) OP;exact⟨bX.os.trans h3.os,bX.tape.trans h3.tape,bX.output.trans h3.output,abE h3.size bX.size,fun i hi=>(bX.block i (by have:=hb.size;simp;omega) (fun e=>by have:=(h1.lt i e.symm).1;omega)).trans (h3.block i hi)⟩
theorem P7{w w2 w3:AI}{B e1 e2 s1 s2 n1 n2 g g' t t':Nat}{v1 v2:IS}{x1 x2:List IS}{cs zQ:Array IS}(bX:w2.grownBy w3 v1.ownBlock)(h1:w2.ownsRow B e1 s1 v1 n1 x1)(h2:w2.ownsRow B e2 s2 v2 n2 x2)(bL:e2≠e1)
  (hk:Bk w2 g t cs) (ht:e1≠t) (ko:Bk w2 g' t' zQ) (ht':e1≠t') (h3:No B w w2):w3.ownsRow B e2 s2 v2 n2 x2/\Bk w3 g t cs/\Bk w3 g' t' zQ/\(B<=w.heap.size->No B w w3):=by
 refine⟨h2.kept bX (ua h2 h1 bL),(bX.block _ hk.lt (fun e=>bP h1 hk ht e.symm)).trans hk,(bX.block _ ko.lt (fun e=>bP h1 ko ht' e.symm)).trans ko,fun hB=> ?_⟩;exact⟨bX.os.trans h3.os,bX.tape.trans h3.tape,bX.output.trans h3.output,abE h3.size bX.size,fun i hi=>(bX.block i (by have:=h3.size;omega) (fun e=>by have:=(h1.lt i e.symm).1;omega)).trans (h3.block i hi)⟩
theorem zJ{w:AI}{B:Nat}{v:IS}{a b:List UInt8}{t:ByteArray}(h:w.ownsRow B 5 1 v (a.length+t.size) (kX a++agI t))(he:t.data.toList=b):
  ∃(A:Option Addr) (c:Nat),v= .slice A (a++b).length c/\w.ownsRow B 5 1 (.slice A (a++b).length c) (a++b).length (kX (a++b)):=by
 have hl:a.length+t.size=(a++b).length:=by rw[BY,<-he];rfl
 have hx:kX a++agI t=kX (a++b):=by rw[GR,<-he];rfl
 rw[hl,hx]at h;obtain⟨A,c,rfl,-⟩:=cT h;exact⟨A,c,rfl,h⟩
theorem Et{w:AI}{B g c n:Nat}{l:List Nat}(h:w.ownsRow B 3 1 (.slice (some ⟨g,0,none⟩) (l.length+1) c) (l.length+1) (ints l++[.int .i64 n])):
  w.ownsRow B 3 1 (.slice (some ⟨g,0,none⟩) (l++[n]).length c) (l++[n]).length (ints (l++[n])):=by
 rw[BY,lW];exact h
def PI (ps:List Nat) (v:List UInt8) (w:AI) (e:Ending) (w':AI):Prop:=
 No w.heap.size w w'/\∃(A:Option Addr) (c:Nat),e= .returned (.tuple #[.slice A ps.length c,.string ⟨v.toArray⟩,.int .i64 0])/\w'.ownsRow w.heap.size 3 1 (.slice A ps.length c) ps.length (ints ps)
theorem Dz(next:Nat)(piece:List UInt8)(hn:next<512):(⟨(Be.low next 4++piece).toArray⟩:ByteArray).size=4+piece.length/\ai ⟨(Be.low next 4++piece).toArray⟩ 0 4=next/\((⟨(Be.low next 4++piece).toArray⟩:ByteArray).extract 4 (4+piece.length)).data.toList=piece:=by
 have hl:(⟨(Be.low next 4++piece).toArray⟩:ByteArray).size=4+piece.length:=by
  show (Be.low next 4++piece).toArray.size=_;rw[List.size_toArray,BY,Be.aq]
 refine⟨hl,?_,?_⟩
 ·exact(ga.EI (s:=⟨(Be.low next 4++piece).toArray⟩) (a:=[]) (b:=Be.low next 4) (c:=piece) (by simp)).num (by omega)
 ·rw[cV]
  show ((Be.low next 4++piece).drop 4).take _=_;rw[List.drop_left' (Be.aq _ _),List.take_of_length_le (by omega)]
theorem chain_ok{p:aA}(hp:Reads p){w:AI}{S:List Nat}{σ :ag}{k:Nat}(h:p.At w S σ k)(c:Ce)(ps:List Nat)(v:List UInt8)(hc:Tr.Chain σ c.over ps v)(hv:v.length=c.size)(hs:c.size<=4000)(h0:c.over≠0):
  aag prog 166 #[.iface p.T p.v,.agg #[.string c.key,.string c.val,.int .i64 c.over,.int .i64 c.size,.int .i64 c.child]] w (PI ps v w):=by
 obtain⟨i0,hi,ef,dK,dY⟩:=aco iz;obtain⟨i1,Md,jz0,jz1,jz2⟩:=aco yB;obtain⟨f,rv,-,hm,he,hl⟩:=hp.load;obtain⟨key,val,over,size,child⟩:=c;simp only at hc hv hs h0;have HL:=sh hl;have HA:=sh h;have HC:=sh hc;have HV:=sh hv;have Wc:v.length<=4000:=by omega
 have Eg:ps.length<=4000:=by have:=HC.out.len;omega
 clear hl h hc hv;go_enter func166,ntmps166
 go_wp2_with fail
 go_loopw [7,8,9] (fun u a i wr=>∃(dn rest:List Nat) (vd vr:List UInt8) (no:Nat) (A1:Option Addr) (c1:Nat) (A2:Option Addr) (c2:Nat),i= .int .i64 no/\u= .slice A1 dn.length c1/\a= .slice A2 vd.length c2/\Hid (ps=dn++rest)/\Hid (v=vd++vr)/\Hid (Tr.Chain σ no rest vr)/\
   wr.ownsRow w.heap.size 3 1 (.slice A1 dn.length c1) dn.length (ints dn)/\wr.ownsRow w.heap.size 5 1 (.slice A2 vd.length c2) vd.length (kX vd)/\Bk wr w.heap.size 170 #[.string key,.string val,.int .i64 over,.int .i64 size,.int .i64 child]/\No w.heap.size w wr) (fun u _ _ _=>ps.length-(match u with| .slice _ n _=>n|_=>0))
 case atStart=>exact⟨[],ps,[],v,over,none,0,none,0,rfl,rfl,rfl,sh rfl,sh rfl,sh HC.out,acv _ _ _ _,acv _ _ _ _,Bk.new w _ _,(IN _ w).alloc (AS _) _⟩
 case round=>
  obtain⟨dn,rest,vd,vr,no,A1,c1,A2,c2,rfl,rfl,rfl,xP,HVS,KB,aaQ,AP,aU,eO⟩:=hrel;have iN:=sh aaQ;have gW:=sh AP;have qL:=sh aU;have fO:=sh eO;clear aaQ AP aU eO;cases rest with
  | nil=>
   obtain⟨rfl,rfl⟩:=KB.out;have e1:dn=ps:=by rw[xP.out,adp]
   have e2:vd=v:=by rw[HVS.out,adp]
   subst e1 e2;have z2:((vd.length:Int) != (size:Int))=false:=by rw[HV.out];simp
   have z2':(vd.length != size)=false:=by rw[HV.out];simp
   have q3:wr.cell? ⟨w.heap.size,3,none⟩=some (.int .i64 size):=qL.out.cell 3;have lk:=qL.out.lt;have afT:vd.length=size:=HV.out;have hvp:0<vd.length:=by
    have hh:=HC.out;cases dn with
    | nil=>exact absurd hh.1 h0
    | cons n ns=>
     obtain⟨-,-,-,next,piece,rest,-,-,h6,h7,-⟩:=hh;rw[h6,BY];omega
   have HCV:=sh fun(n:Nat)=>LA (wr.drewN n) w.heap.size A2 c2 vd gW.out hvp;have L6:(convert 36 9 (.slice A2 vd.length c2)).run prog wr.drew= .ok (.string ⟨vd.toArray⟩) wr.drew:=HCV.out 1;clear afT hvp Eg Wc;go_wp2_with fail
   go_region_with (fail)
   all_goals
    go_wp2_with fail
    go_ret3
    exact⟨fO.out.drew,A1,c1,rfl,iN.out⟩
  | cons n ns=>
   obtain⟨rfl,n1,n2,next,piece,po,hσ,pI,rfl,AU,qY,Tk,mX⟩:=KB.out;obtain⟨b1,b2,b3⟩:=Dz next piece pI;obtain⟨s,nS⟩:∃s:ByteArray,s=⟨(Be.low next 4++piece).toArray⟩:=⟨_,rfl⟩;rw[<-nS]at b1 b2 b3 hσ;have De:=sh (HL.out wr S σ k no ⟨3,s⟩ (hp.below HA.out fO.out) hσ);have IW:vd.length+(piece.length+po.length)=v.length:=by rw[HVS.out];simp
   have mG:dn.length+(ns.length+1)=ps.length:=by rw[xP.out];simp
   have hsv:v.length=size:=HV.out;have z0:(((no:Nat):Int) != 0)=true:=by rw[bne_iff_ne];omega
   have z0':(no != 0)=true:=by rw[bne_iff_ne];omega
   have z1:decide ((s.size:Int)<4)=false:=decide_eq_false (by omega);have z1':decide (s.size<4)=false:=decide_eq_false (by omega);have z2:decide ((size:Int)<=(vd.length:Int))=false:=decide_eq_false (by omega);have z2':decide (size<=vd.length)=false:=decide_eq_false (by omega);have z3:decide ((512:Int)<=(next:Int))=false:=decide_eq_false (by omega);have hw:=wrap_i64 next (by omega);have CK:=sh fun(W:AI)=>(show aag prog 120 #[.string s,.int .i64 0,.int .i64 4] W (fB next W)by
    have:=fK s 0 4 W (by omega) (by omega) (by omega) (by omega);rw[b2]at this;exact this)
   have bO:(0<next/\decide ((0:Int)<(next:Int))=true/\((s.size:Int) != 488)=false/\(s.size != 488)=false)\/next=0:=by
    by_cases e:next=0
    ·exact .inr e
    ·have h9:s.size=488:=by rw[b1,Tk e]
     exact .inl ⟨by omega,decide_eq_true (by omega),by rw[h9];rfl,by rw[h9];rfl⟩
   have uN:=sh (show vd++(piece++po)=(vd++piece)++po by simp);have bh:=sh b1;have dt:=sh b3;have ac3:=sh mX;have QT:s.size<=488:=by omega
   have IU:4<s.size:=by omega
   have alN:dn.length<4000:=by omega
   have hvd:vd.length+s.size<=5000:=by omega
   clear b1 b2 b3 hσ nS AU qY Tk mX IW mG hsv KB Wc Eg;go_wp2_with fail
   refine De.out.mono ?_;rintro e w1 ⟨ar,pa,pb,rfl⟩;have As:=af qL.out ar;have q3:w1.cell? ⟨w.heap.size,3,none⟩=some (.int .i64 size):=As.cell 3;have lk:=As.lt;have acX:=sh As;have dD:=sh (fO.out.trans (ar.mono fO.out.size));have CJ:=sh ((ah.ae ar []).own iN.out (by simp));have pE:=sh ((ah.ae ar []).own gW.out (by simp));clear ar As;go_wp2_with fail
   refine(CK.out _).mono ?_;rintro e w2 ⟨rfl,az⟩;have ZB:=af (acX.out.alloc (.cells #[.int .i64 3,.int .i64 pa,.int .i64 pb,.string s] 126)) az;have aaW:=af (Bk.new w1 126 #[.int .i64 3,.int .i64 pa,.int .i64 pb,.string s]) az;have jv:No w.heap.size w w2:=(dD.out.alloc dD.out.size _).trans (az.mono (by have:=dD.out.size;simp;omega));have vz:=jv.size;have acY:=sh ZB;have adM:=sh aaW;have fY:=sh jv;have Yv:=sh ((ah.ae az []).own (CJ.out.alloc _) (by simp));have adJ:=sh ((ah.ae az []).own (pE.out.alloc _) (by simp));clear q3 lk az ZB aaW jv;have hes:(s.extract 4 s.size).size=s.size-4:=by
    show (s.extract 4 s.size).data.toList.length=_;rw[show s.size=4+piece.length from bh.out,dt.out];omega
   have RS:=sh hes;have fF:vd.length+(s.extract 4 s.size).size<=5000:=by omega
   obtain⟨t,ht⟩:∃t,t=s.extract 4 s.size:=⟨_,rfl⟩;have HT:=sh ht;have alU:vd.length+t.size<=5000:=by rw[ht];exact fF
   clear hes fF ht;rcases bO with⟨k1,k2,k3,k4⟩|rfl;all_goals
    go_wp2_with (first
     | (at_builtin;refine adY _ rfl (.tmp 51) (.tmp 53) 51 rfl w.heap.size 3 i0 (.int .i64 0) 1 8 underlying51 hi ef dK dY rfl (by omega) (.slice A1 dn.length c1) dn.length (ints dn) rfl (Yv.out.alloc _) ⟨w2.heap.size,0,none⟩ 1 1 [.int .i64 no] rfl rfl (abV (cs:= #[.int .i64 no]) (heap_alloc_new w2 _)) (gD [no]) (by omega) (by unfold abi;omega) (by omega) (by simp;omega) (w2.heap.size+1) (by simp) ?_;intro gg gA w3 aw aF df tB;obtain⟨aaS,lK,QM,Tb,V7⟩:=Rf aF Yv.out adJ.out (by decide) acY.out (by decide) adM.out (by decide) fY.out (AS _) vz;have q5:w3.cell? ⟨w1.heap.size,3,none⟩=some (.string s):=QM.cell 3;have lk3:=QM.lt;have sH:=sh lK;have adN:=sh QM;have HI3:=sh aw;have Yw:=sh aaS;have dN:=sh Tb;clear lK QM aw aaS aF df tB Tb;have QV:w.heap.size<=w3.heap.size:=by omega)
     | (at_builtin;go_must (refine Lib.wpList_append_own_string _ rfl (.tmp 55) (.tmp 58) 36 9 rfl w.heap.size 5 i1 underlying36 underlying9 Md jz0 jz1 jz2 (.slice A2 vd.length c2) vd.length (kX vd) rfl Yw.out (s.extract 4 s.size) rfl (by rw[<-HT.out];unfold abi;omega) (by rw[<-HT.out];omega) QV ?_);intro v' w4 bM cd F8;obtain⟨hi4,iO,VT,j6⟩:=P7 cd Yw.out HI3.out (by decide) sH.out (by decide) adN.out (by decide) dN.out;have q6:w4.cell? ⟨w1.heap.size,3,none⟩=some (.string s):=VT.cell 3;have lk4:=VT.lt;have TM:=sh iO;have HI4:=sh hi4;have G7:=sh j6;have xO:=sh bM;clear hi4 iO VT j6 bM cd F8 q5 lk3)
     | fail)
    obtain⟨A4,c4,hv4,vt⟩:=zJ xO.out (show (s.extract 4 s.size).data.toList=piece by rw[show s.size=4+piece.length from bh.out];exact dt.out);have nj:=sh (show _/\_ from ⟨Et HI4.out,vt⟩);have fx:=sh (G7.out (AS _));have HPE:=sh (show ps=(dn++[no])++ns by rw[xP.out];simp);have HVE:=sh (show v=(vd++piece)++po by rw[HVS.out,uN.out]);have pM:=sh (show dn.length+(ns.length+1)=ps.length by rw[xP.out];simp);subst hv4;clear vt;go_roundw
    case rel=>exact⟨dn++[no],ns,vd++piece,po,_,_,_,A4,c4,rfl,by rw[BY];rfl,rfl,HPE,HVE,ac3,nj.out.1,nj.out.2,TM.out,fx.out⟩
    case measure=>have:=pM.out;show ps.length-(dn.length+1)<ps.length-dn.length;omega
theorem Cz{p:aA}(hp:Reads p){w:AI}{S:List Nat}{σ :ag}{k:Nat}(h:p.At w S σ k)(e:En)(he:Tr.ft σ e):
  aag prog 122 #[.iface p.T p.v,.agg #[.string e.cell.key,.string e.cell.val,.int .i64 e.cell.over,.int .i64 e.cell.size,.int .i64 e.cell.child]] w (fun x w'=>x= .returned (.tuple #[.string ⟨e.val.toArray⟩,.int .i64 0])/\No w.heap.size w w'):=by
 obtain⟨hr,hc⟩:=he;have rh:=Nd.jS (leaf:=true) hr;obtain⟨⟨key,val,over,size,child⟩,ps,v⟩:=e;simp only at hc rh |-;rcases hc with⟨rfl,-,rfl⟩|⟨h0,mX,hv⟩
 ·have ev:(⟨val.data.toList.toArray⟩:ByteArray)=val:=rfl
  rw[ev];clear hr rh ev;go_enter func122,ntmps122
  go_wp2_with fail
  go_ret2
  exact⟨rfl,(IN _ w).alloc (AS _) _⟩
 ·have z0:((over:Int)==0)=false:=by rw[beq_eq_false_iff_ne];omega
  have z0':(over==0)=false:=by rw[beq_eq_false_iff_ne];omega
  have HC:=sh fun(W:AI) (hb:No w.heap.size w W)=>chain_ok hp (hp.below h hb) ⟨key,val,over,size,child⟩ ps v mX hv (by simp only;omega) h0;clear hr rh mX hv h0 h;go_enter func122,ntmps122
  go_wp2_with fail
  refine(HC.out _ ((IN _ w).alloc (AS _) _)).mono ?_;rintro x w1 ⟨ar,A,c,rfl,-⟩;have dD:=sh (((IN _ w).alloc (AS _) _).trans (ar.mono (by simp)));clear ar;go_wp2_with fail
  go_ret2
  exact⟨rfl,dD.out⟩
theorem IZ{w:AI}{B n c:Nat}{A:Option Addr}{l:List Nat}(h:w.ownsRow B 3 1 (.slice A n c) l.length (ints l))(j:Nat)(hj:j<l.length):∃g,A=some ⟨g,0,none⟩/\B<=g/\g<w.heap.size/\w.cell? ⟨g,j,none⟩=some (.int .i64 (l[j]:Nat)):=by
 rcases h.2 with⟨-,h2⟩|⟨g,cap,cur,h1,h2,h3,-⟩
 ·omega
 ·injection h1 with e1 e2 e3
  subst e1 e2 e3;refine⟨g,rfl,h2,lt_of_block h3,?_⟩;have:=h.cells (g:=g) rfl j (.int .i64 (l[j]:Nat)) (by unfold ints;rw[List.getElem?_map,List.getElem?_eq_getElem hj];rfl)
  rwa [gn]at this
theorem Tr.Moved.more{σ σj:ag}{ps:List Nat}{j:Nat}(h:Tr.Moved σ (ps.take j) σj [])(hj:j<ps.length)(hn:ps.Nodup)(hs:∀n∈ps,σ n≠none): σj ps[j]≠none/\Tr.Moved σ (ps.take (j+1)) (Tr.cY σj ps[j] none) []:=by
 have e:ps=ps.take (j+1)++ps.drop (j+1):=(List.take_append_drop (j+1) ps).symm;have e2:ps.take (j+1)=ps.take j++[ps[j]]:=List.take_succ_eq_append_getElem hj;have h1:(ps.take j++[ps[j]]).Nodup:=by
  rw[e]at hn;have:=(aai.1 hn).1
  rwa [e2]at this
 have h2:ps[j]∉ps.take j:=fun hm=>(aai.1 h1).2.2 _ hm _ (by simp) rfl;have h3:=hs _ (abw hj);refine⟨by rw[h.keep _ h2 h3];exact h3,?_⟩;rw[e2];have f1:=h.frame (R:=[ps[j]]) (fun n hn=>by rw[By]at hn;subst hn;exact h3) (by simp) (fun n hn=>by rw[By]at hn;subst hn;exact h2);exact f1.trans (Tr.Moved.drop σj ps[j])
theorem ug{p:aA}(hp:dc p){w:AI}{S:List Nat}{σ :ag}{k:Nat}(h:p.At w S σ k)(e:En)(he:Tr.ft σ e)(cg:e.aa.Nodup):
  aag prog 108 #[.iface p.T p.v,.agg #[.string e.cell.key,.string e.cell.val,.int .i64 e.cell.over,.int .i64 e.cell.size,.int .i64 e.cell.child]] w (fun x w'=>x= .returned (.int .i64 0)/\∃ σ',Step p S w w' σ' k/\Tr.Moved σ e.aa σ' []):=by
 obtain⟨hr,hc⟩:=id he;have rh:=Nd.jS (leaf:=true) hr;have kT:=fun n hn=>(he.mem n hn).2.2;obtain⟨⟨key,val,over,size,child⟩,ps,v⟩:=e;simp only at hc rh cg kT |-;rcases hc with⟨rfl,rfl,rfl⟩|⟨h0,mX,hv⟩
 ·have HA:=sh h
  clear hr rh h he;go_enter func108,ntmps108
  go_wp2_with fail
  go_ret
  have hb:No w.heap.size w (w.alloc (.cells #[.string key,.string val,.int .i64 0,.int .i64 size,.int .i64 child] 170)):=(IN _ w).alloc (AS _) _;exact⟨rfl,σ,⟨S,hp.below HA.out hb,ah.ae hb S,aj.refl _ _⟩,Tr.Moved.refl (by simp) (by simp)⟩
 ·have z0:((over:Int)==0)=false:=by rw[beq_eq_false_iff_ne];omega
  have z0':(over==0)=false:=by rw[beq_eq_false_iff_ne];omega
  have HC:=sh fun(W:AI) (hb:No w.heap.size w W)=>chain_ok hp (hp.below h hb) ⟨key,val,over,size,child⟩ ps v mX hv (by simp only;omega) h0;have Eg:ps.length<=4000:=by have:=mX.len;omega
  obtain⟨f,rv,-,hm,wO,hd⟩:=hp.drop;have HD:=sh hd;have HA:=sh h;have si:=sh cg;have Ps:=sh kT;clear hr rh mX hv h0 h hd he cg kT;go_enter func108,ntmps108
  go_wp2_with fail
  refine(HC.out _ ((IN _ w).alloc (AS _) _)).mono ?_;rintro x w1 ⟨ar,A,c,rfl,au⟩;have gJ:=((IN _ w).alloc (AS _) (.cells #[.string key,.string val,.int .i64 over,.int .i64 size,.int .i64 child] 170)).trans (ar.mono (by simp));have dD:=sh gJ;have eJ:=sh (show w1.ownsRow w.heap.size 3 1 (.slice A ps.length c) ps.length (ints ps) from l7 au (by simp));have dC:c<=9223372036854775807:=by
   obtain⟨A',c',hv',-,IG,-⟩:=cT au;injection hv' with _ _ e3;unfold abi at IG;omega
  clear ar gJ au;go_wp2_with fail
  go_loopw [26] (fun i wr=>∃(j:Nat) (σj:ag) (Sj:List Nat),i= .int .i64 j/\j<=ps.length/\Tr.Moved σ (ps.take j) σj []/\p.At wr Sj σj k/\ah S w1 wr/\aj w1 S Sj) (fun i _=>ps.length-(intOf i).toNat)
  case atStart=>exact⟨0,σ,S,rfl,abc _,Tr.Moved.refl (by simp) (by simp),hp.below HA.out dD.out,ah.refl _ _,aj.refl _ _⟩
  case round=>
   obtain⟨j,σj,Sj,rfl,hj,jE,cL,bG,bZ⟩:=hrel;have zx:=sh jE;have FA:=sh cL;have nk:=sh bG;have zb:=sh bZ;by_cases aI:j<ps.length
   ·have z1:decide ((j:Int)<(ps.length:Int))=true:=decide_eq_true (by omega)
    have au:wr.ownsRow w.heap.size 3 1 (.slice A ps.length c) ps.length (ints ps):=ah.own bG eJ.out (fun g hg hs=>by
     have h1:=(eJ.out.lt g hg).1;have h2:=hp.old HA.out g hs;omega)
    obtain⟨g,rfl,Kg,tA,hq⟩:=IZ au j aI;obtain⟨bL,tC⟩:=jE.more aI si.out Ps.out;have J5:=sh (HD.out wr Sj σj k ps[j] cL bL);have G6:=sh tC;obtain⟨n,hn⟩:∃n,n=ps[j]:=⟨_,rfl⟩;rw[<-hn]at J5 G6 hq;clear jE cL bG bZ bL tC au hn;go_wp2_with fail
    refine J5.out.mono ?_;rintro x w2 ⟨rfl,S2,gB,dg,fD⟩;have YB:=sh (show Tr.Moved σ (ps.take (j+1)) (Tr.cY σj n none) []/\p.At w2 S2 (Tr.cY σj n none) k/\ah S w1 w2/\aj w1 S S2 from ⟨G6.out,gB,nk.out.then dg zb.out,zb.out.trans fD nk.out.size⟩);clear gB dg fD;go_wp2_with fail
    go_roundw
    case rel=>first|exact⟨j+1,_,S2,by go_num,by omega,YB.out⟩|((repeat apply Exists.intro);exact⟨⟨j+1,_,S2,by go_num,by omega,YB.out⟩,rfl⟩)
    case measure=>simp[intOf];omega
   ·have z1:decide ((j:Int)<(ps.length:Int))=false:=decide_eq_false (by omega)
    obtain rfl:j=ps.length:=by omega
    rw[acB]at zx;have bV:=sh (show Step p S w wr σj k from ⟨Sj,cL,(ah.ae dD.out S).trans bG,bZ.mono dD.out.size⟩);clear jE cL bG bZ;go_wp2_with fail
    go_ret
    exact⟨rfl,σj,bV.out,zx.out⟩
end Go.Proofs.YtjbcbnemdhbhbaaGreatDoor
