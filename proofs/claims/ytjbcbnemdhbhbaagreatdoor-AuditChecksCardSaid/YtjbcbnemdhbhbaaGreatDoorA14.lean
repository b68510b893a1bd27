import Derived.Test.YtjbcbnemdhbhbaaGreatDoorA1
import Derived.Test.YtjbcbnemdhbhbaaGreatDoorA7
import Derived.Test.YtjbcbnemdhbhbaaGreatDoorA13
import Derived.LoopN
import Derived.BigRegion
set_option maxRecDepth 100000
set_option linter.unusedVariables false
set_option linter.unusedSimpArgs false
set_option maxHeartbeats 40000000
open Go renaming Calls→aaf,Value→No,World→AI,rounds_succ→abF,wp_loop_rounds→abP
open Go.Ending renaming returned→adw
open Go.Lib renaming hid→sh
open Go.RowKit renaming Below→IT
open Go.RowKit.Below renaming refl→BY
open Go.Value renaming ownBlock→aaT,slice→abZ
open Go.World renaming setCell→aeY
open Go.World.ownsRow renaming cells→afI
open List renaming append_assoc→aaa,eq_nil_of_length_eq_zero→abX,ext_getElem→agN,getElem?_append_right→abU,getElem_cons_zero→acQ,getElem_map→acn,getElem_range→ahe,length_append→AT,length_cons→abv,length_take→abx,mem_append→By,mem_cons→OF,mem_cons_of_mem→abW,mem_iff_getElem→adp,mem_map→abK,mem_range→agB,mem_singleton→IN,nodup_append→aag,nodup_cons→abJ,not_mem_nil→acu,pairwise_append→aed,pairwise_cons→acX,perm_middle→acG,range→afG,replicate→abN,takeWhile_cons→aeD,take_append_drop→abm
open List.Nodup renaming sublist→agm
open List.Perm renaming append_left→ace,append_right→aeM,trans→adn
open List.Sublist renaming refl→agy
open Nat renaming add_zero→adh,le_refl→AS,lt_of_lt_of_le→aal,zero_le→abi,zero_mul→adA
namespace Go.Proofs.YtjbcbnemdhbhbaaGreatDoor
open Go.Proofs.Tryz
namespace Fr
def lt (a b:Nat×Nat):Bool:=decide (a.1<b.1)||(decide (a.1=b.1)&&decide (a.2<b.2))
theorem lt_iff{a b:Nat×Nat}:lt a b=true↔a.1<b.1\/(a.1=b.1/\a.2<b.2):=by simp[lt]
theorem GS{a b:Nat×Nat}:lt a b=false↔¬ (a.1<b.1\/(a.1=b.1/\a.2<b.2)):=by rw[<-lt_iff];simp
theorem lt_trans{a b c:Nat×Nat}(h:lt a b=true)(k:lt b c=true):lt a c=true:=by rw[lt_iff]at *;omega
theorem iI{a b c:Nat×Nat}(h:lt a b=true)(k:lt c b=false):lt a c=true:=by rw[lt_iff]at *;rw[GS]at k;omega
theorem B3{a b c:Nat×Nat}(h:lt b a=false)(k:lt b c=true):lt a c=true:=by rw[lt_iff]at *;rw[GS]at h;omega
def Sorted (l:List (Nat×Nat)):Prop:=l.Pairwise fun a b=>lt a b=true
def spot (l:List (Nat×Nat)) (x:Nat×Nat):Nat:=l.findIdx fun y=> !lt y x
def ins (l:List (Nat×Nat)) (x:Nat×Nat):List (Nat×Nat):=l.take (spot l x)++([x]++l.drop (spot l x))
def pg (l:List (Nat×Nat)):List Nat:=l.map (·.2)
theorem ic(l:List (Nat×Nat))(x:Nat×Nat):spot l x<=l.length:=List.findIdx_le_length
theorem gu(l:List (Nat×Nat))(x:Nat×Nat)(i:Nat)(h:i<spot l x)(hl:i<l.length):lt l[i] x=true:=by
 have:=List.not_of_lt_findIdx (xs:=l) (p:=fun y=> !lt y x) h;cases hh:lt l[i] x with
 | true=>rfl
 | false=>simp[hh]at this
theorem pD(l:List (Nat×Nat))(x:Nat×Nat)(hl:spot l x<l.length):lt l[spot l x] x=false:=by
 have:=List.findIdx_getElem (w:=hl) (p:=fun y=> !lt y x) (xs:=l);cases hh:lt l[spot l x] x with
 | false=>rfl
 | true=>
  have h2:lt (l[List.findIdx (fun y=> !lt y x) l]'hl) x=true:=hh;simp[h2]at this
theorem yi{l:List (Nat×Nat)}(h:Sorted l)(i j:Nat)(KA:i<j)(hj:j<l.length):lt (l[i]'(by omega)) l[j]=true:=List.pairwise_iff_getElem.1 h i j (by omega) hj KA
theorem iN{l:List (Nat×Nat)}(h:Sorted l)(x:Nat×Nat)(i:Nat)(hi:spot l x<=i)(hl:i<l.length):lt l[i] x=false:=by
 have h0:=pD l x (by omega);by_cases e:i=spot l x
 ·subst e;exact h0
 ·have h1:=yi h (spot l x) i (by omega) hl
  rw[lt_iff]at h1;rw[GS]at h0 |-;omega
theorem Rh(l:List (Nat×Nat))(x:Nat×Nat):(ins l x).length=l.length+1:=by
 have:=ic l x;unfold ins;simp;omega
theorem l6(l:List (Nat×Nat))(x:Nat×Nat):(ins l x).Perm (x::l):=by
 have h:(l.take (spot l x)++x::l.drop (spot l x)).Perm (x::(l.take (spot l x)++l.drop (spot l x))):=acG;rw[abm]at h;exact h
theorem EN{l:List (Nat×Nat)}(h:Sorted l)(x:Nat×Nat)(hx:x∉l):Sorted (ins l x):=by
 have jU:Sorted (l.take (spot l x)++l.drop (spot l x)):=by rw[abm];exact h
 obtain⟨h1,h2,h3⟩:=aed.1 jU;have hb:∀y∈l.take (spot l x),lt y x=true:=fun y hy=>by
  obtain⟨i,hi,rfl⟩:=adp.1 hy;rw[abx]at hi;rw[List.getElem_take];exact gu l x i (by omega) (by omega)
 have ha:∀y∈l.drop (spot l x),lt x y=true:=fun y hy=>by
  obtain⟨i,hi,rfl⟩:=adp.1 hy;rw[List.length_drop]at hi;rw[List.getElem_drop];have h0:=iN h x (spot l x+i) (by omega) (by omega);have hm:l[spot l x+i]'(by omega)∈l:=List.getElem_mem _;have bM:x≠l[spot l x+i]'(by omega):=fun e=>hx (by rw[e];exact hm);rw[GS]at h0;rw[lt_iff];rcases Nat.lt_trichotomy x.1 (l[spot l x+i]'(by omega)).1 with q|q|q
  ·exact .inl q
  ·refine .inr ⟨q,?_⟩
   rcases Nat.lt_trichotomy x.2 (l[spot l x+i]'(by omega)).2 with r|r|r
   ·exact r
   ·exact absurd (Prod.ext q r) bM
   ·omega
  ·omega
 refine aed.2 ⟨h1,acX.2 ⟨ha,h2⟩,fun a hA b hB=> ?_⟩;rcases OF.1 hB with rfl|hB
 ·exact hb a hA
 ·exact h3 a hA b hB
def here (l:List (Nat×Nat)):List Bool:=(afG 512).map fun i=>decide (i∈pg l)
theorem Mj(l:List (Nat×Nat)):(here l).length=512:=by simp[here]
theorem Gu(l:List (Nat×Nat)){i:Nat}(h:i<512):(here l)[i]? =some (decide (i∈pg l)):=by simp[here,h]
theorem Bn:here []=abN 512 false:=by
 unfold here;apply agN
 ·rw[List.length_map,List.length_range,List.length_replicate]
 ·intro i h1 h2
  rw[acn,List.getElem_replicate];rfl
theorem Bm(l l':List (Nat×Nat)){p:Nat}(h:∀i,i∈pg l'↔i∈pg l\/i=p):here l'=(here l).set p true:=by
 apply agN
 ·simp[here]
 ·intro i h1 h2
  rw[List.getElem_set];simp only[here,acn,ahe];by_cases e:p=i
  ·subst e;rw[if_pos rfl];exact decide_eq_true ((h p).2 (.inr rfl))
  ·rw[if_neg e]
   have:(i∈pg l')↔i∈pg l:=by rw[h i];constructor;rintro(h|h);exact h;exact absurd h.symm e;exact .inl
   simp only[this]
theorem Mk(l l':List (Nat×Nat)){p:Nat}(h:∀i,i∈pg l'↔i∈pg l/\i≠p):here l'=(here l).set p false:=by
 apply agN
 ·simp[here]
 ·intro i h1 h2
  rw[List.getElem_set];simp only[here,acn,ahe];by_cases e:p=i
  ·subst e;rw[if_pos rfl];exact decide_eq_false (fun hh=>((h p).1 hh).2 rfl)
  ·rw[if_neg e]
   have:(i∈pg l')↔i∈pg l:=by rw[h i];exact⟨fun x=>x.1,fun x=>⟨x,fun y=>e y.symm⟩⟩
   simp only[this]
theorem Wy(l:List (Nat×Nat))(x:Nat×Nat):∀i,i∈pg (ins l x)↔i∈pg l\/i=x.2:=fun i=>by
 unfold pg;rw[((l6 l x).map _).mem_iff,List.map_cons,OF];exact Or.comm
theorem Mi(l:List (Nat×Nat))(x:Nat×Nat):here (ins l x)=(here l).set x.2 true:=Bm _ _ (Wy l x)
theorem IX{x:Nat×Nat}{l:List (Nat×Nat)}(h:(pg (x::l)).Nodup):here l=(here (x::l)).set x.2 false:=by
 have hn:=abJ.1 h;refine Mk _ _ fun i=>⟨fun hi=>⟨abW _ hi,fun e=>hn.1 (by subst e;exact hi)⟩,fun⟨hi,bM⟩=> ?_⟩;rcases OF.1 hi with e|hi
 ·exact absurd e bM
 ·exact hi
def pieces (n:Nat):Nat:=if n<1 then 0 else (n-1)/40+1
def ok (x:Nat×Nat):Bool:=decide (x.1<=1099511627776)&&decide (1<=x.2)&&decide (x.2<512)
end Fr
structure Tx where
 aa:Nat
 fr:List (Nat×Nat)
 az:ag
 loose:List Nat
 aK:List Nat
def gV (e:Nat):List Nat:=(afG (e-1)).map (· +1)
theorem dA{e n:Nat}:n∈gV e↔1<=n/\n<e:=by
 unfold gV;rw[abK];constructor
 ·rintro⟨a,ha,rfl⟩
  rw[agB]at ha;omega
 ·intro h
  exact⟨n-1,agB.2 (by omega),by omega⟩
theorem gq(e:Nat):(gV e).Nodup:=by
 unfold gV;unfold List.Nodup;rw[List.pairwise_map];exact(List.nodup_range (n:=e-1)).imp fun h=>by omega
theorem Jv{e:Nat}(h:1<=e):gV (e+1)=gV e++[e]:=by
 unfold gV;rw[show e+1-1=(e-1)+1 by omega,List.range_succ,List.map_append];simp;omega
namespace Tx
def book (x:Tx) (D:ag) (U:List Nat):ag:=fun n=>match x.az n with
 | some p=>some p
 | none=>if n∈U/\n∉x.aK then D n else none
structure Ok (x:Tx) (limit:Nat) (D:ag) (U pc h:List Nat):Prop where
 perm:∃dk:List Nat,(∀n,n∈dk↔x.az n≠none)/\(Fr.pg x.fr++(dk++(x.loose++(U++(pc++h))))).Perm (gV x.aa)
 one:1<=x.aa
 le:x.aa<=limit
 lim:limit<=512
 sorted:Fr.Sorted x.fr
 aK:x.aK.Nodup
 sub:∀n∈x.aK,n∈U
 cq:∀n∈U,D n≠none
 eQ:∀y∈x.fr,y.1<=1099511627776
theorem Ok.nodup{x:Tx}{limit:Nat}{D:ag}{U pc h:List Nat}(k:x.Ok limit D U pc h){dk:List Nat}(hp:(Fr.pg x.fr++(dk++(x.loose++(U++(pc++h))))).Perm (gV x.aa)):(Fr.pg x.fr++(dk++(x.loose++(U++(pc++h))))).Nodup:=hp.nodup_iff.2 (gq _)
theorem Ok.range{x:Tx}{limit:Nat}{D:ag}{U pc h:List Nat}(k:x.Ok limit D U pc h):(∀n∈Fr.pg x.fr,1<=n/\n<x.aa)/\(∀n,x.az n≠none->1<=n/\n<x.aa)/\(∀n∈x.loose,1<=n/\n<x.aa)/\(∀n∈U,1<=n/\n<x.aa)/\(∀n∈pc,1<=n/\n<x.aa)/\∀n∈h,1<=n/\n<x.aa:=by
 obtain⟨dk,h1,h2⟩:=k.perm;refine⟨fun n hn=> ?_,fun n hn=> ?_,fun n hn=> ?_,fun n hn=> ?_,fun n hn=> ?_,fun n hn=> ?_⟩
 ·exact dA.1 (h2.mem_iff.1 (by simp[hn]))
 ·exact dA.1 (h2.mem_iff.1 (by simp[(h1 n).2 hn]))
 ·exact dA.1 (h2.mem_iff.1 (by simp[hn]))
 ·exact dA.1 (h2.mem_iff.1 (by simp[hn]))
 ·exact dA.1 (h2.mem_iff.1 (by simp[hn]))
 ·exact dA.1 (h2.mem_iff.1 (by simp[hn]))
theorem Ok.hand{x:Tx}{limit n:Nat}{D:ag}{U pc h:List Nat}(k:x.Ok limit D U pc (n::h)):n∉Fr.pg x.fr/\x.az n=none/\n∉x.loose/\n∉U/\n∉pc/\n∉h:=by
 obtain⟨dk,h1,h2⟩:=k.perm;have hn:=k.nodup h2;have e:(Fr.pg x.fr++(dk++(x.loose++(U++(pc++(n::h)))))).Perm (n::(Fr.pg x.fr++(dk++(x.loose++(U++(pc++h)))))):=by
  have:=acG (a:=n) (l₁ :=Fr.pg x.fr++(dk++(x.loose++(U++pc)))) (l₂ :=h);simpa[aaa]using this
 have h3:=(abJ.1 (e.nodup_iff.1 hn)).1;simp only[By,not_or]at h3;refine⟨h3.1,?_,h3.2.2.1,h3.2.2.2.1,h3.2.2.2.2.1,h3.2.2.2.2.2⟩;cases hd:x.az n with
 | none=>rfl
 | some p=>exact absurd ((h1 n).2 (by rw[hd];simp)) h3.2.1
theorem Ok.apart{x:Tx}{limit n:Nat}{D:ag}{U pc h:List Nat}(k:x.Ok limit D U pc h)(hd:x.az n≠none):n∉U:=by
 obtain⟨dk,h1,h2⟩:=k.perm;have hn:=k.nodup h2;have h3:=(aag.1 (aag.1 hn).2.1).2.2 n ((h1 n).2 hd);exact fun hu=>h3 n (by simp[hu]) rfl
def sure (x:Tx) (limit upto:Nat):Nat:=x.loose.length+(x.fr.takeWhile fun y=>decide (y.1<=upto)).length+(limit-x.aa)
inductive ek (limit upto:Nat):Tx->Nat->Tx->Prop
 | loose (x:Tx) (l:List Nat) (n:Nat) (h:x.loose=l++[n]):ek limit upto x n { x with loose:=l }
 | free (x:Tx) (f n:Nat) (r:List (Nat×Nat)) (h:x.loose=[]) (hf:x.fr=(f,n)::r) (hu:f<=upto):ek limit upto x n { x with fr:=r }
 | more (x:Tx) (h:x.loose=[]) (hf:∀y r,x.fr=y::r->upto<y.1) (hp:x.aa<limit):ek limit upto x x.aa { x with aa:=x.aa+1 }
theorem FF{x:Tx}{limit upto:Nat}(h:x.loose=[])(hf:∀y r,x.fr=y::r->upto<y.1)(hp:limit<=x.aa):x.sure limit upto=0:=by
 unfold sure;rw[h];have:x.fr.takeWhile (fun y=>decide (y.1<=upto))=[]:=by
  cases hx:x.fr with
  | nil=>rfl
  | cons y r=>
   have:=hf y r hx;rw[aeD,if_neg (by simp;omega)]
 rw[this];simp;omega
theorem ek.sure{x x':Tx}{limit upto n:Nat}(t:ek limit upto x n x'):x.sure limit upto=x'.sure limit upto+1:=by
 cases t with
 | loose l n h=>
  unfold Tx.sure;rw[h];simp only[AT,List.length_singleton];omega
 | free f n r h hf hu=>
  unfold Tx.sure;rw[hf];rw[aeD,if_pos (by simpa using hu)];simp only[abv];omega
 | more h hf hp=>
  unfold Tx.sure;simp only;omega
theorem ek.az{x x':Tx}{limit upto n:Nat}(t:ek limit upto x n x'):x'.az=x.az/\x'.aK=x.aK:=by cases t<;>exact⟨rfl,rfl⟩
theorem ek.ok{x x':Tx}{limit upto n:Nat}{D:ag}{U pc h:List Nat}(t:ek limit upto x n x')(k:x.Ok limit D U pc h):x'.Ok limit D U pc (n::h):=by
 obtain⟨dk,h1,h2⟩:=k.perm;have mid:∀(a b c d e f:List Nat),(a++(b++(c++(d++(e++(n::f)))))).Perm (n::(a++(b++(c++(d++(e++f)))))):=fun a b c d e f=>by
  have:=acG (a:=n) (l₁ :=a++(b++(c++(d++e)))) (l₂ :=f);simpa[aaa]using this
 cases t with
 | loose l n hl=>
  refine⟨⟨dk,h1,?_⟩,k.one,k.le,k.lim,k.sorted,k.aK,k.sub,k.cq,k.eQ⟩;refine(mid _ _ _ _ _ _).trans (adn ?_ h2);rw[hl];have:=acG (a:=n) (l₁ :=Fr.pg x.fr++(dk++l)) (l₂ :=U++(pc++h));simpa[aaa]using this.symm
 | free f n r hl hf hu=>
  refine⟨⟨dk,h1,?_⟩,k.one,k.le,k.lim,?_,k.aK,k.sub,k.cq,fun y hy=>k.eQ y (by rw[hf];exact abW _ hy)⟩
  ·refine(mid _ _ _ _ _ _).trans (adn ?_ h2)
   rw[hf];exact List.Perm.refl _
  ·have:=k.sorted
   rw[hf]at this;exact(acX.1 this).2
 | more hl hf hp=>
  refine⟨⟨dk,h1,?_⟩,by have:=k.one;show 1<=x.aa+1;omega,hp,k.lim,k.sorted,k.aK,k.sub,k.cq,k.eQ⟩;refine(mid _ _ _ _ _ _).trans ?_;rw[Jv k.one];exact(List.Perm.cons _ h2).trans (List.perm_append_comm (l₁ :=[x.aa]) (l₂ :=gV x.aa))
theorem Lz(x:Tx)(D:ag)(U:List Nat)(n:Nat)(p:rW):({ x with az:=Tr.cY x.az n (some p) }:Tx).book D U=Tr.cY (x.book D U) n (some p):=by
 funext m
 unfold book Tr.cY;by_cases e:m=n
 ·subst e;simp
 ·simp[e]
theorem Ok.Ih{x:Tx}{limit n:Nat}{D:ag}{U pc h:List Nat}(k:x.Ok limit D U pc (n::h)):x.book D U n=none:=by
 obtain⟨h1,h2,h3,h4,h5,h6⟩:=k.hand;unfold book;rw[h2];simp[h4]
theorem Ok.lay{x:Tx}{limit n:Nat}{D:ag}{U pc h:List Nat}(k:x.Ok limit D U pc (n::h))(p:rW):({ x with az:=Tr.cY x.az n (some p) }:Tx).Ok limit D U pc h:=by
 obtain⟨dk,h1,h2⟩:=k.perm;obtain⟨g1,g2,g3,g4,g5,g6⟩:=k.hand;refine⟨⟨n::dk,fun m=> ?_,?_⟩,k.one,k.le,k.lim,k.sorted,k.aK,k.sub,k.cq,k.eQ⟩
 ·show m∈n::dk↔Tr.cY x.az n (some p) m≠none
  by_cases e:m=n
  ·subst e;simp[Tr.cY]
  ·rw[OF,Tr.dM _ _ e,h1 m];simp[e]
 ·refine adn ?_ h2
  have a:(Fr.pg x.fr++((n::dk)++(x.loose++(U++(pc++h))))).Perm (n::(Fr.pg x.fr++(dk++(x.loose++(U++(pc++h)))))):=acG;have b:=acG (a:=n) (l₁ :=Fr.pg x.fr++(dk++(x.loose++(U++pc)))) (l₂ :=h);refine adn a ?_;simpa[aaa]using b.symm
theorem Ok.EY{x:Tx}{limit n:Nat}{D:ag}{U pc h:List Nat}(k:x.Ok limit D U pc h)(hd:x.az n≠none):({ x with az:=Tr.cY x.az n none,loose:=x.loose++[n] }:Tx).Ok limit D U pc h/\({ x with az:=Tr.cY x.az n none,loose:=x.loose++[n] }:Tx).book D U=Tr.cY (x.book D U) n none:=by
 obtain⟨dk,h1,h2⟩:=k.perm;have hU:=k.apart hd;have hm:=(h1 n).2 hd;obtain⟨a,b,rfl⟩:=List.append_of_mem hm;have hn:=k.nodup h2;have oU:n∉a++b:=by
  have h3:=(aag.1 (aag.1 hn).2.1).1;have:=(acG (a:=n) (l₁ :=a) (l₂ :=b)).nodup_iff.1 h3;exact(abJ.1 this).1
 refine⟨⟨⟨a++b,fun m=> ?_,?_⟩,k.one,k.le,k.lim,k.sorted,k.aK,k.sub,k.cq,k.eQ⟩,?_⟩
 ·show m∈a++b↔Tr.cY x.az n none m≠none
  by_cases e:m=n
  ·subst e;rw[Tr.fQ];simp[oU]
  ·rw[Tr.dM _ _ e,<-h1 m];simp[e]
 ·refine adn ?_ h2
  have p1:=acG (a:=n) (l₁ :=Fr.pg x.fr++((a++b)++x.loose)) (l₂ :=U++(pc++h));have p2:=acG (a:=n) (l₁ :=Fr.pg x.fr++a) (l₂ :=b++(x.loose++(U++(pc++h))));refine adn (by simpa[aaa]using p1) ?_;simpa[aaa]using p2.symm
 ·funext m
  unfold book;by_cases e:m=n
  ·subst e
   simp[Tr.cY,hU]
  ·simp[Tr.cY,e]
theorem Ok.free{x:Tx}{limit n:Nat}{D:ag}{U pc h:List Nat}(k:x.Ok limit D U pc h)(hd:x.az n=none)(hb:x.book D U n≠none):n∈U/\n∉x.aK/\({ x with aK:=x.aK++[n] }:Tx).Ok limit D U pc h/\({ x with aK:=x.aK++[n] }:Tx).book D U=Tr.cY (x.book D U) n none:=by
 have hu:n∈U/\n∉x.aK:=by
  unfold book at hb;rw[hd]at hb;simp only at hb;by_cases hc:n∈U/\n∉x.aK
  ·exact hc
  ·rw[if_neg hc]at hb;exact absurd rfl hb
 refine⟨hu.1,hu.2,⟨k.perm,k.one,k.le,k.lim,k.sorted,aag.2 ⟨k.aK,by simp,fun a ha b hb e=> ?_⟩,fun m hm=> ?_,k.cq,k.eQ⟩,?_⟩
 ·rw[IN]at hb
  subst hb e;exact hu.2 ha
 ·rcases By.1 hm with hm|hm
  ·exact k.sub m hm
  ·rw[IN]at hm;subst hm;exact hu.1
 ·funext m
  unfold book;by_cases e:m=n
  ·subst e
   simp[Tr.cY,hd]
  ·simp[Tr.cY,e]
end Tx
end Go.Proofs.YtjbcbnemdhbhbaaGreatDoor
namespace Go.Proofs.YtjbcbnemdhbhbaaGreatDoor
open Go.Proofs.Tryz
open Go.RowKit
def pN (x:Nat×Nat):List No:=[.int .i64 x.1,.int .i64 x.2]
def aI (l:List (Nat×Nat)):List No:=(l.map pN).flatten
theorem fe(a b:List (Nat×Nat)):aI (a++b)=aI a++aI b:=by simp[aI]
theorem kt(x:Nat×Nat)(l:List (Nat×Nat)):aI (x::l)=pN x++aI l:=by simp[aI]
theorem cE:∀l:List (Nat×Nat),(aI l).length=l.length*2
 | []=>rfl
 | x::l=>by rw[kt,AT,cE l,abv];show 2+_=_;omega
theorem qm:∀(l:List (Nat×Nat)) (i:Nat) (h:i<l.length) (j:Nat),j<2->(aI l)[i*2+j]? =(pN l[i])[j]?
 | x::l,0,h,j,hj=>by
  rw[kt,adA,Nat.zero_add,List.getElem?_append_left (by show j<2;exact hj)];rfl
 | x::l,i+1,h,j,hj=>by
  rw[kt,abU (by show 2<=_;omega),show (i+1)*2+j-(pN x).length=i*2+j by show (i+1)*2+j-2=_;omega];exact qm l i (by simpa using h) j hj
theorem mH(l:List (Nat×Nat)):∀u∈aI l,u.oneCell'=true:=by
 intro u hu;obtain⟨x,hx,hu⟩:=List.mem_flatten.1 hu;obtain⟨e,_,rfl⟩:=abK.1 hx;simp only[pN,OF,acu,or_false]at hu;rcases hu with rfl|rfl<;>rfl
theorem mO:(prog.info? 62).map (fun i=>(i.zero,i.size,i.bytes))=some (some (.agg #[.int .i64 0,.int .i64 0]),2,16):=by kernel_rfl
def gi (w:AI) (A:Option Addr) (l:List (Nat×Nat)):Prop:=∀(j:Nat) (u:No),(aI l)[j]? =some u->∃b o,A=some ⟨b,o,none⟩/\b<w.heap.size/\w.cell? ⟨b,o+j,none⟩=some u
theorem gi.at{w:AI}{A:Option Addr}{l:List (Nat×Nat)}(h:gi w A l)(i:Nat)(hi:i<l.length):∃b o,A=some ⟨b,o,none⟩/\b<w.heap.size/\w.cell? ⟨b,o+i*2,none⟩=some (.int .i64 l[i].1)/\w.cell? ⟨b,o+i*2+1,none⟩=some (.int .i64 l[i].2):=by
 obtain⟨b,o,hA,hb,h0⟩:=h (i*2) (.int .i64 l[i].1) (by have:=qm l i hi 0 (by omega);rw[adh]at this;rw[this];rfl);obtain⟨b',o',na,vX,h1⟩:=h (i*2+1) (.int .i64 l[i].2) (by rw[qm l i hi 1 (by omega)];rfl);rw[hA]at na;injection na with na;injection na with e1 e2;subst e1 e2;exact⟨b,o,hA,hb,h0,h1⟩
theorem gi.off{U:List Nat}{w w':AI}{A:Option Addr}{l:List (Nat×Nat)}(h:gi w A l)(ho:ah U w w')(hn:∀a,A=some a->a.block∉U):gi w' A l:=by
 intro j u hu;obtain⟨b,o,rfl,hb,hc⟩:=h j u hu;exact⟨b,o,rfl,aal hb ho.size,(ho.cell (p:=⟨b,o+j,none⟩) hb (hn ⟨b,o,none⟩ rfl)).trans hc⟩
theorem gi.below{w w':AI}{A:Option Addr}{l:List (Nat×Nat)}(h:gi w A l)(hb:IT w.heap.size w w'):gi w' A l:=by
 intro j u hu;obtain⟨b,o,rfl,hl,hc⟩:=h j u hu;exact⟨b,o,rfl,aal hl hb.size,(hb.cell (p:=⟨b,o+j,none⟩) hl).trans hc⟩
def fC (w:AI) (B:Nat) (v:No) (l:List (Nat×Nat)):Prop:=w.ownsRow B 62 2 v l.length (aI l)
theorem fC.row{w:AI}{B:Nat}{A:Option Addr}{n c:Nat}{l:List (Nat×Nat)}(h:fC w B (.slice A n c) l):gi w A l/\n=l.length/\n<=c/\c<=maxLen/\(∀a,A=some a->a=⟨a.block,0,none⟩/\B<=a.block/\a.block<w.heap.size)/\(A=none->c=0):=by
 rcases h.2 with⟨h1,h2⟩|⟨g,cap,cur,h1,hb,hh,hc,hm,r⟩
 ·injection h1 with e1 e2 e3
  subst e1 e2 e3;exact⟨fun j u hu=>by rw[abX h2]at hu;simp[aI]at hu,h2.symm,AS _,abi _,(fun a ha=>by cases ha),fun _=>rfl⟩
 ·injection h1 with e1 e2 e3
  subst e1 e2 e3;refine⟨fun j u hu=>⟨g,0,rfl,lt_of_block hh,?_⟩,rfl,hc,hm,(fun a ha=>by cases ha;exact⟨rfl,hb,lt_of_block hh⟩),fun hh=>by cases hh⟩;have:=afI h (g:=g) rfl j u hu;rw[bJ]at this;exact this
def eg (l:List (Nat×Nat)):List No:=(Fr.here l).map Value.bool
def bY (A:Option Addr) (c:Nat) (l:List (Nat×Nat)):Array No:=(abZ A l.length c::eg l).toArray
theorem bu(A:Option Addr)(c:Nat)(l:List (Nat×Nat)):(bY A c l)[0]? =some (.slice A l.length c):=by simp[bY]
theorem nX(A:Option Addr)(c:Nat)(l:List (Nat×Nat))(i:Nat)(h:i<512):(bY A c l)[1+i]? =some (.bool (decide (i∈Fr.pg l))):=by
 rw[Nat.add_comm];simp[bY,eg,Fr.Gu l h]
structure FL (w:AI) (f:Nat) (S:List Nat) (l:List (Nat×Nat)):Prop where
 ex:∃A c,Bk w f 165 (bY A c l)/\gi w A l/\l.length<=c/\c<=maxLen/\(∀a,A=some a->a.block∈S/\a.block≠f)/\(A=none->c=0)
 xN:f∈S
 old:∀b∈S,b<w.heap.size
structure rT (w:AI) (f:Nat) (S:List Nat) (l:List (Nat×Nat)):Prop where
 ex:∃A c,Bk w f 165 (bY A c l)/\fC w 0 (.slice A l.length c) l/\∀a,A=some a->a.block∈S
 xN:f∈S
 old:∀b∈S,b<w.heap.size
theorem rT.fl{w:AI}{f:Nat}{S:List Nat}{l:List (Nat×Nat)}(h:rT w f S l):FL w f S l:=by
 obtain⟨⟨A,c,h1,h2,h3⟩,h4,h5⟩:=h;obtain⟨r1,r2,r3,r4,r5,r6⟩:=h2.row;refine⟨⟨A,c,h1,r1,r3,r4,fun a ha=>⟨h3 a ha,fun e=> ?_⟩,r6⟩,h4,h5⟩;have bM:=cz h2 h1 (by decide);rw[ha,(r5 a ha).1,e]at bM;exact bM rfl
theorem FL.off{w w':AI}{f:Nat}{S U:List Nat}{l:List (Nat×Nat)}(h:FL w f S l)(ho:ah U w w')(hU:∀b∈S,b∉U):FL w' f S l:=by
 obtain⟨⟨A,c,h1,h2,h3,h4,h5,h8⟩,h6,h7⟩:=h;exact⟨⟨A,c,ho.bk h1 (hU f h6),h2.off ho (fun a ha=>hU _ (h5 a ha).1),h3,h4,h5,h8⟩,h6,fun b hb=>aal (h7 b hb) ho.size⟩
theorem rT.off{w w':AI}{f:Nat}{S U:List Nat}{l:List (Nat×Nat)}(h:rT w f S l)(ho:ah U w w')(hU:∀b∈S,b∉U):rT w' f S l:=by
 obtain⟨⟨A,c,h1,h2,h3⟩,h6,h7⟩:=h;refine⟨⟨A,c,ho.bk h1 (hU f h6),ho.own h2 (fun g hg=> ?_),h3⟩,h6,fun b hb=>aal (h7 b hb) ho.size⟩;obtain⟨a,rfl⟩:∃a,A=some a:=by
  cases A with
  | none=>simp[aaT]at hg
  | some a=>exact⟨a,rfl⟩
 have h9:=(h2.row).2.2.2.2.1 a rfl;have h8:=h3 a rfl;rw[h9.1]at hg h8;have e:a.block=g:=by simpa[aaT]using hg
 rw[<-e];exact hU _ h8
theorem FL.below{w w':AI}{f:Nat}{S:List Nat}{l:List (Nat×Nat)}(h:FL w f S l)(hb:IT w.heap.size w w'):FL w' f S l:=h.off (ah.af hb []) (fun _ _=>acu)
theorem rT.below{w w':AI}{f:Nat}{S:List Nat}{l:List (Nat×Nat)}(h:rT w f S l)(hb:IT w.heap.size w w'):rT w' f S l:=h.off (ah.af hb []) (fun _ _=>acu)
theorem LX(w:AI):aaf prog 155 #[] w (fun e w'=>e= .returned (.pointer (some ⟨w.heap.size,0,none⟩))/\rT w' w.heap.size [w.heap.size] []/\IT w.heap.size w w'):=by
 go_enter func155,ntmps155
 go_wp2_with fail
 go_ret
 refine⟨rfl,⟨⟨none,0,?_,World.ownsRow_nil _ _ _ _,fun a ha=>by cases ha⟩,by simp,fun b hb=>by rw[IN]at hb;subst hb;simp⟩,(BY _ _).alloc (AS _) _⟩;have e:bY none 0 []=(abZ none 0 0::abN 512 (Value.bool false)).toArray:=by unfold bY eg;rw[Fr.Bn,List.map_replicate];rfl
 rw[e];exact Bk.new w _ _
theorem D4{w:AI}{f:Nat}{S:List Nat}{l:List (Nat×Nat)}(h:FL w f S l):aaf prog 112 #[.pointer (some ⟨f,0,none⟩)] w (fun e w'=>e= .returned (.int .i64 l.length)/\w=w'):=by
 obtain⟨⟨A,c,h1,h2,h3,h4,h5,-⟩,h6,h7⟩:=h;have c0:=(h1.cell 0).trans (bu A c l);have lf:=h1.lt;clear h1 h2 h5 h6 h7;go_enter func112,ntmps112
 go_wp2_with fail
 go_ret
 exact⟨rfl,rfl⟩
theorem qV(n:Nat)(w:AI)(h:n<=1000000):aaf prog 111 #[.int .i64 n] w (fun e w'=>e= .returned (.int .i64 (Fr.pieces n:Nat))/\w=w'):=by
 by_cases h0:n<1
 ·obtain rfl:n=0:=by omega
  go_enter func111,ntmps111
  go_wp2_with fail
  go_ret
  exact⟨rfl,rfl⟩
 ·have z1:decide ((n:Int)<1)=false:=decide_eq_false (by omega)
  have HP:=sh (show Fr.pieces n=(n-1)/40+1 by unfold Fr.pieces;rw[if_neg h0]);have hn:1<=(n:Int):=by omega
  have jY:(n:Int)<=1000000:=by omega
  go_enter func111,ntmps111
  go_wp2_with fail
  go_ret
  refine⟨congrArg (fun z:Int=>adw (.int .i64 z)) ?_,rfl⟩;rw[HP.out];omega
theorem L0{w:AI}{f:Nat}{S:List Nat}{l:List (Nat×Nat)}(h:FL w f S l)(upto:Int)(hu:∀x t,l=x::t->upto<x.1):aaf prog 169 #[.pointer (some ⟨f,0,none⟩),.int .i64 upto] w (fun e w'=>e= .returned (.tuple #[.int .i64 0,.bool false])/\w=w'):=by
 obtain⟨⟨A,c,h1,h2,h3,h4,h5,-⟩,h6,h7⟩:=h;have c0:=(h1.cell 0).trans (bu A c l);have lf:=h1.lt;cases l with
 | nil=>
  simp only[List.length_nil]at c0;clear h1 h2 h5 h6 h7 hu;go_enter func169,ntmps169
  go_wp2_with fail
  go_ret2
  exact⟨rfl,rfl⟩
 | cons x t=>
  have z1:decide (upto<(x.1:Int))=true:=decide_eq_true (hu x t rfl);obtain⟨b,o,rfl,lb,q0,q1⟩:=h2.at 0 (by simp);simp only[acQ,adA,adh]at q0 q1;obtain⟨n,hn⟩:∃n,n=t.length:=⟨_,rfl⟩;simp only[abv]at c0 h3;rw[<-hn]at c0 h3;have z2:((n:Int)+1==0)=false:=by rw[beq_eq_false_iff_ne];omega
  have z3:(n+1==0)=false:=by rw[beq_eq_false_iff_ne];omega
  have z4:0<n+1:=by omega
  clear h1 h2 h5 h6 h7 hu hn;go_enter func169,ntmps169
  go_wp2_with fail
  go_ret2
  exact⟨rfl,rfl⟩
theorem xC(A A':Option Addr)(c c':Nat)(l l':List (Nat×Nat))(p:Nat)(b:Bool)(hp:p<512)(hh:Fr.here l'=(Fr.here l).set p b):((bY A c l).setIfInBounds 0 (.slice A' l'.length c')).setIfInBounds (1+p) (.bool b)=bY A' c' l':=by
 apply Array.ext';rw[Array.toList_setIfInBounds,Array.toList_setIfInBounds];unfold bY eg;rw[hh,List.map_set];simp[Nat.add_comm]
theorem gi.tail{w:AI}{b o:Nat}{x:Nat×Nat}{t:List (Nat×Nat)}(h:gi w (some ⟨b,o,none⟩) (x::t)):gi w (some ⟨b,o+2,none⟩) t:=by
 intro j u hu;obtain⟨b',o',hA,hb,hc⟩:=h (j+2) u (by rw[kt,abU (by show 2<=_;omega)];exact hu);injection hA with hA;injection hA with e1 e2;subst e1 e2;exact⟨b,o+2,rfl,hb,by rw[show o+2+j=o+(j+2)by omega];exact hc⟩
def Lo (f:Nat) (S:List Nat) (p:Nat) (t:List (Nat×Nat)) (w:AI) (e:Ending) (w':AI):Prop:=e= .returned (.tuple #[.int .i64 p,.bool true])/\FL w' f S t/\ah [f] w w'
theorem II{w:AI}{f:Nat}{S:List Nat}{x:Nat×Nat}{t:List (Nat×Nat)}(h:FL w f S (x::t))(upto:Int)(hu:(x.1:Int)<=upto)(hp:x.2<512)(bI:(Fr.pg (x::t)).Nodup):
  aaf prog 169 #[.pointer (some ⟨f,0,none⟩),.int .i64 upto] w (Lo f S x.2 t w):=by
 obtain⟨⟨A,c,h1,h2,h3,h4,h5,-⟩,h6,h7⟩:=h;have H1:=sh h1;have H2:=sh h2;have H5:=sh h5;have H6:=sh h6;have H7:=sh h7;have pK:=sh (Fr.IX bI);have c0:=(h1.cell 0).trans (bu A c (x::t));have cp:=(h1.cell (1+x.2)).trans (nX A c (x::t) x.2 hp);have f0:=h1.frozen 0;have fp:=h1.frozen (1+x.2);have lf:=h1.lt;have z1:decide (upto<(x.1:Int))=false:=decide_eq_false (by omega);obtain⟨b,o,rfl,lb,q0,q1⟩:=h2.at 0 (by simp);simp only[acQ,adA,adh]at q0 q1;have HBF:=sh (h5 _ rfl);obtain⟨n,hn⟩:∃n,n=t.length:=⟨_,rfl⟩;have HN:=sh hn;simp only[abv]at c0 h3;rw[<-hn]at c0 h3;have z2:((n:Int)+1==0)=false:=by rw[beq_eq_false_iff_ne];omega
 have z3:(n+1==0)=false:=by rw[beq_eq_false_iff_ne];omega
 have z4:0<n+1:=by omega
 have z5:1<=n+1:=by omega
 obtain⟨p,VU⟩:∃p,p=x.2:=⟨_,rfl⟩;have HP:=sh VU;rw[<-VU]at q1 cp fp hp;have z6:decide ((p:Int)<512)=true:=decide_eq_true (by omega);unfold maxLen at h4;clear h1 h2 h5 h6 h7 hu hn bI VU;have bF:∀(u v:No),ah [f] w ((w.setCell ⟨f,0,none⟩ u).setCell ⟨f,1+p,none⟩ v):=fun u v=>((ah.refl [f] w).setCell (.inl (by simp)) _).setCell (.inl (by simp)) _;have Uf:=sh bF;have pX:=sh fun(A':Option Addr) (c':Nat)=>xC (some ⟨b,o,none⟩) A' c c' (x::t) t p false hp (by rw[HP.out];exact pK.out);clear bF;by_cases hc:c=1
 ·have GD:n=0:=by omega
  have ht:t=[]:=abX (by rw[<-HN.out];exact GD);have HT:=sh ht;clear ht;subst hc GD;go_enter func169,ntmps169
  go_wp2_with fail
  go_ret2
  have h9:=pX.out (some ⟨b,o,none⟩) 0;rw[<-HN.out]at h9;refine⟨congrArg (fun z:Nat=>adw (.tuple #[.int .i64 (z:Int),.bool true])) HP.out,⟨⟨some ⟨b,o,none⟩,0,?_,?_,by rw[HT.out];exact AS _,abi _,fun a ha=> ?_,fun hh=>by cases hh⟩,H6.out,fun y hy=> ?_⟩,Uf.out _ _⟩
  ·rw[<-h9]
   exact(H1.out.put 0 _).put (1+p) _
  ·rw[HT.out]
   intro j u hu;simp[aI]at hu
  ·cases ha;exact HBF.out
  ·have:=H7.out y hy
   simpa[aeY]using this
 ·have Ef:(1=c)=False:=by rw[eq_iff_iff];exact⟨fun h=>hc h.symm,False.elim⟩
  go_enter func169,ntmps169
  go_wp2_with fail
  go_ret2
  have h9:=pX.out (some ⟨b,o+2,none⟩) (c-1);rw[<-HN.out]at h9;refine⟨congrArg (fun z:Nat=>adw (.tuple #[.int .i64 (z:Int),.bool true])) HP.out,⟨⟨some ⟨b,o+2,none⟩,c-1,?_,(gi.tail H2.out).off (Uf.out _ _) (fun a ha=> ?_),by rw[<-HN.out];omega,by unfold maxLen;omega,fun a ha=> ?_,fun hh=>by cases hh⟩,H6.out,fun y hy=> ?_⟩,Uf.out _ _⟩
  ·rw[<-h9]
   exact(H1.out.put 0 _).put (1+p) _
  ·cases ha;simpa using HBF.out.2
  ·cases ha;exact HBF.out
  ·have:=H7.out y hy
   simpa[aeY]using this
theorem Fs{a b:Int}(h:a=b):adw (.int .i64 a)=adw (.int .i64 b):=by rw[h]
theorem UG(w:AI)(t:TypeId)(cs:Array No)(k:Nat)(h:w.heap.size=k):Bk (w.alloc (.cells cs t)) k t cs:=by subst h;exact Bk.new w t cs
def oN (a b:Int):Int:=if a<b then -1 else if b<a then 1 else 0
theorem agk(x:Int)(w:AI):aaf prog 243 #[.int .i64 x] w (fun e w'=>e= .returned (.bool false)/\w=w'):=by
 go_enter func243,ntmps243
 go_wp2_with fail
 go_ret
 exact⟨rfl,rfl⟩
theorem LH(a b:Int)(w:AI):aaf prog 248 #[.int .i64 a,.int .i64 b] w (fun e w'=>e= .returned (.int .i64 (oN a b))/\w=w'):=by
 have HN:=sh fun(x:Int) (W:AI)=>agk x W;by_cases h1:a<b
 ·have HC:=sh (show oN a b= -1 by unfold oN;rw[if_pos h1])
  have z1:decide (a<b)=true:=decide_eq_true h1;clear h1;go_enter func248,ntmps248
  go_wp2_with (go_at_call 243;refine(HN.out _ _).mono ?_;rintro e w' ⟨rfl,rfl⟩)
  go_ret
  exact⟨Fs HC.out.symm,rfl⟩
 ·by_cases h2:b<a
  ·have HC:=sh (show oN a b=1 by unfold oN;rw[if_neg h1,if_pos h2])
   have z1:decide (a<b)=false:=decide_eq_false h1;have z2:decide (b<a)=true:=decide_eq_true h2;clear h1 h2;go_enter func248,ntmps248
   go_wp2_with (go_at_call 243;refine(HN.out _ _).mono ?_;rintro e w' ⟨rfl,rfl⟩)
   go_ret
   exact⟨Fs HC.out.symm,rfl⟩
  ·have HC:=sh (show oN a b=0 by unfold oN;rw[if_neg h1,if_neg h2])
   have z1:decide (a<b)=false:=decide_eq_false h1;have z2:decide (b<a)=false:=decide_eq_false h2;clear h1 h2;go_enter func248,ntmps248
   go_wp2_with (go_at_call 243;refine(HN.out _ _).mono ?_;rintro e w' ⟨rfl,rfl⟩)
   go_ret
   exact⟨Fs HC.out.symm,rfl⟩
def TO (x y:Int):Int:=if x=0 then y else x
theorem orI(b:Nat)(x y:Int)(w:AI)(h:Bk w b 3 #[.int .i64 x,.int .i64 y]):aaf prog 247 #[.slice (some ⟨b,0,none⟩) 2 2] w (fun e w'=>e= .returned (.int .i64 (TO x y))/\w=w'):=by
 have c0:=h.cell 0;have c1:=h.cell 1;have lb:=h.lt;clear h;by_cases hx:x=0
 ·subst hx
  by_cases hy:y=0
  ·subst hy
   have HX:=sh (show TO 0 0=0 from rfl);go_enter func247,ntmps247
   go_wp2_with fail
   refine abP 3 ?_;rw[abF];go_wp2_with fail
   rw[abF];go_wp2_with fail
   rw[abF];go_wp2_with fail
   go_ret
   exact⟨Fs HX.out.symm,rfl⟩
  ·have z1:(y != 0)=true:=by rw[bne_iff_ne];exact hy
   have HX:=sh (show TO 0 y=y from rfl);clear hy;go_enter func247,ntmps247
   go_wp2_with fail
   refine abP 3 ?_;rw[abF];go_wp2_with fail
   rw[abF];go_wp2_with fail
   go_ret
   exact⟨Fs HX.out.symm,rfl⟩
 ·have z1:(x != 0)=true:=by rw[bne_iff_ne];exact hx
  have HX:=sh (show TO x y=x by unfold TO;rw[if_neg hx]);clear hx;go_enter func247,ntmps247
  go_wp2_with fail
  refine abP 3 ?_;rw[abF];go_wp2_with fail
  go_ret
  exact⟨Fs HX.out.symm,rfl⟩
def Fr.cmp (x y:Nat×Nat):Int:=TO (oN x.1 y.1) (oN x.2 y.2)
theorem Fr.LF(x y:Nat×Nat):Fr.lt x y=decide (Fr.cmp x y<0):=by
 rw[Bool.eq_iff_iff,decide_eq_true_eq,Fr.lt_iff];unfold Fr.cmp TO oN
 repeat split
 all_goals omega
theorem ud(x y:Nat×Nat)(w:AI):aaf prog 216 #[.agg #[.int .i64 x.1,.int .i64 x.2],.agg #[.int .i64 y.1,.int .i64 y.2]] w (fun e w'=>e= .returned (.int .i64 (Fr.cmp x y))/\IT w.heap.size w w'):=by
 have HC:=sh fun(a b:Int) (W:AI)=>LH a b W;have HO:=sh fun(b:Nat) (x y:Int) (W:AI) (h:Bk W b 3 #[.int .i64 x,.int .i64 y])=>orI b x y W h;have HF:=sh (show Fr.cmp x y=TO (oN x.1 y.1) (oN x.2 y.2) from rfl);go_enter func216,ntmps216
 go_wp2_with fail
 have bD:=sh (show ∀W,IT (w.heap.size+2) ((w.alloc (.cells #[.int .i64 x.1,.int .i64 x.2] 62)).alloc (.cells #[.int .i64 y.1,.int .i64 y.2] 62)) W->W.cell? ⟨w.heap.size,0,none⟩=some (.int .i64 x.1)/\W.cell? ⟨w.heap.size,1,none⟩=some (.int .i64 x.2)/\W.cell? ⟨w.heap.size+1,0,none⟩=some (.int .i64 y.1)/\W.cell? ⟨w.heap.size+1,1,none⟩=some (.int .i64 y.2) from fun W hW=>by
  have h1:=ae ((Bk.new w 62 #[.int .i64 x.1,.int .i64 x.2]).alloc (.cells #[.int .i64 y.1,.int .i64 y.2] 62)) (w':=W) (by simpa using hW);have h2:=ae (Bk.new (w.alloc (.cells #[.int .i64 x.1,.int .i64 x.2] 62)) 62 #[.int .i64 y.1,.int .i64 y.2]) (w':=W) (by simpa using hW);have h3:=h2.cell 0;have h4:=h2.cell 1;rw[show (w.alloc (.cells #[.int .i64 x.1,.int .i64 x.2] 62)).heap.size=w.heap.size+1 by simp]at h3 h4;exact⟨h1.cell 0,h1.cell 1,h3,h4⟩)
 go_region_held3 (fun W=>W.cell? ⟨w.heap.size,0,none⟩=some (.int .i64 x.1)/\W.cell? ⟨w.heap.size,1,none⟩=some (.int .i64 x.2)/\W.cell? ⟨w.heap.size+1,0,none⟩=some (.int .i64 y.1)/\W.cell? ⟨w.heap.size+1,1,none⟩=some (.int .i64 y.2)) (first|(refine bD.out _ ?_;with_reducible (first|exact(BY _ _).drew|exact((BY _ _).alloc (by simp) _).drew))|fail) (first
  | (go_at_call 248;(with_reducible refine(HC.out _ _ _).mono ?_);rintro e w' ⟨rfl,rfl⟩)
  | (go_at_call 247;(refine(HO.out (w.heap.size+1+1) (oN x.1 y.1) (oN x.2 y.2) _ (UG _ _ _ _ (by simp)).drew).mono ?_;rintro e w' ⟨rfl,rfl⟩)))
 all_goals
  go_wp2_with fail
  go_ret
  exact⟨Fs HF.out.symm,((((BY _ w).alloc (AS _) _).alloc (by simp) _).alloc (by simp;omega) _).drew⟩
theorem xB(x:Nat×Nat)(w:AI)(h:Fr.ok x=true):aaf prog 214 #[.agg #[.int .i64 x.1,.int .i64 x.2]] w (fun e w'=>e= .returned (.bool true)/\IT w.heap.size w w'):=by
 unfold Fr.ok at h;simp only[Bool.and_eq_true,decide_eq_true_eq]at h;obtain⟨⟨h1,h2⟩,h3⟩:=h;obtain⟨a,b⟩:=x;simp only at h1 h2 h3 |-;have z0:decide ((0:Int)<=(a:Int))=true:=decide_eq_true (by omega);have z1:decide ((a:Int)<=1099511627776)=true:=decide_eq_true (by omega);have z2:decide ((1:Int)<=(b:Int))=true:=decide_eq_true (by omega);have z3:decide ((b:Int)<512)=true:=decide_eq_true (by omega);have z4:decide (1<=b)=true:=decide_eq_true h2;have z5:decide (b<512)=true:=decide_eq_true h3;clear h1 h2 h3;go_enter func214,ntmps214
 go_wp2_with fail
 go_ret
 exact⟨rfl,(BY _ w).alloc (AS _) _⟩
end Go.Proofs.YtjbcbnemdhbhbaaGreatDoor
namespace Go.Proofs.YtjbcbnemdhbhbaaGreatDoor
open Go.Proofs.Tryz
namespace Fr
def aY (t:Nat) (fr:List (Nat×Nat)) (ns:List Nat):List (Nat×Nat):=ns.foldl (fun l n=>ins l (t,n)) fr
theorem Ar(t:Nat)(fr:List (Nat×Nat))(ns:List Nat)(n:Nat):aY t fr (ns++[n])=ins (aY t fr ns) (t,n):=by simp[aY]
theorem RI{a b:List (Nat×Nat)}(h:a.Perm b):(pg a).Perm (pg b):=h.map _
theorem mB{t:Nat}:∀ {ns:List Nat} {fr:List (Nat×Nat)},Sorted fr->(pg fr++ns).Nodup->Sorted (aY t fr ns)/\(pg (aY t fr ns)).Perm (pg fr++ns)/\(aY t fr ns).length=fr.length+ns.length
 | [],fr,hs,hn=>⟨hs,by simp[aY],rfl⟩
 | n::ns,fr,hs,hn=>by
  have hp:(pg (ins fr (t,n))++ns).Perm (pg fr++(n::ns)):=by
   have h1:=RI (l6 fr (t,n));refine(h1.append_right ns).trans ?_;exact(acG (a:=n) (l₁ :=pg fr) (l₂ :=ns)).symm
  have hx:n∉pg fr:=fun h=>(aag.1 hn).2.2 n h n (by simp) rfl;have h2:=mB (t:=t) (ns:=ns) (fr:=ins fr (t,n)) (EN hs _ (fun h=>hx (abK.2 ⟨_,h,rfl⟩))) (hp.nodup_iff.2 hn);refine⟨h2.1,h2.2.1.trans hp,?_⟩;have:=h2.2.2;rw[Rh]at this;show (aY t (ins fr (t,n)) ns).length=fr.length+(ns.length+1);omega
theorem Ib{t:Nat}{ms:List Nat}{fr:List (Nat×Nat)}(hs:Sorted fr)(hn:(pg fr++ms).Nodup)(j:Nat)(hj:j<ms.length):
  Sorted (aY t fr (ms.take j))/\(aY t fr (ms.take j)).length=fr.length+j/\ms[j]∉pg (aY t fr (ms.take j))/\aY t fr (ms.take (j+1))=ins (aY t fr (ms.take j)) (t,ms[j]):=by
 have e1:ms.take (j+1)=ms.take j++[ms[j]]:=List.take_succ_eq_append_getElem hj;have gQ:(pg fr++ms.take (j+1)).Nodup:=by
  refine agm ?_ hn;exact List.Sublist.append (agy _) (List.take_sublist _ _)
 rw[e1,<-aaa]at gQ;obtain⟨h1,-,h2⟩:=aag.1 gQ;obtain⟨k1,k2,k3⟩:=mB (t:=t) hs h1;refine⟨k1,by rw[k3,abx];omega,fun hm=> ?_,by rw[e1,Ar]⟩;exact h2 _ (k2.mem_iff.1 hm) _ (by simp) rfl
theorem tH{t:Nat}{Q:Nat×Nat->Prop}(ht:∀n,Q (t,n)):∀(ns:List Nat) (fr:List (Nat×Nat)),(∀y∈fr,Q y)->∀y∈aY t fr ns,Q y
 | [],fr,h=>h
 | a::ns,fr,h=>tH ht ns (ins fr (t,a)) fun y hy=>by
  rcases OF.1 ((l6 fr (t,a)).mem_iff.1 hy)with rfl|hy
  ·exact ht a
  ·exact h y hy
theorem tI{t:Nat}:∀(ns:List Nat) (fr:List (Nat×Nat)),((aY t fr ns).filter fun y=>decide (y.1<t)).length=(fr.filter fun y=>decide (y.1<t)).length
 | [],fr=>rfl
 | a::ns,fr=>by
  have h1:=tI (t:=t) ns (ins fr (t,a));have h2:=((l6 fr (t,a)).filter fun y=>decide (y.1<t)).length_eq;rw[List.filter_cons_of_neg (by simp)]at h2;exact h1.trans h2
end Fr
namespace Tx
def more (x:Tx) (pc:List Nat):List Nat:=x.aK++(x.loose++pc)
theorem Ok.spare{x:Tx}{limit:Nat}{D:ag}{U pc h:List Nat}(k:x.Ok limit D U pc h):(Fr.pg x.fr++x.more pc).Nodup/\(∀n∈x.more pc,n∉h/\1<=n/\n<x.aa)/\x.fr.length+(x.more pc).length<=x.aa:=by
 obtain⟨dk,h1,h2⟩:=k.perm;have hn:=k.nodup h2;have r:=k.range;obtain⟨a1,a2,a3⟩:=aag.1 hn;obtain⟨b1,b2,b3⟩:=aag.1 a2;obtain⟨c1,c2,c3⟩:=aag.1 b2;obtain⟨d1,d2,d3⟩:=aag.1 c2;obtain⟨e1,e2,e3⟩:=aag.1 d2;have bI:(Fr.pg x.fr++x.more pc).Nodup:=by
  unfold more;refine aag.2 ⟨a1,aag.2 ⟨k.aK,aag.2 ⟨c1,e1,fun a ha b hb=>c3 a ha b (by simp[hb])⟩,fun a ha b hb e=> ?_⟩,fun a ha b hb e=> ?_⟩
  ·subst e
   rcases By.1 hb with hb|hb
   ·exact c3 a hb a (by simp[k.sub a ha]) rfl
   ·exact d3 a (k.sub a ha) a (by simp[hb]) rfl
  ·subst e
   rcases By.1 hb with hb|hb
   ·exact a3 a ha a (by simp[k.sub a hb]) rfl
   ·rcases By.1 hb with hb|hb
    ·exact a3 a ha a (by simp[hb]) rfl
    ·exact a3 a ha a (by simp[hb]) rfl
 have hr:∀n∈x.more pc,n∉h/\1<=n/\n<x.aa:=fun n hn=>by
  unfold more at hn;rcases By.1 hn with hn|hn
  ·exact⟨fun hh=>d3 n (k.sub n hn) n (by simp[hh]) rfl,r.2.2.2.1 n (k.sub n hn)⟩
  ·rcases By.1 hn with hn|hn
   ·exact⟨fun hh=>c3 n hn n (by simp[hh]) rfl,r.2.2.1 n hn⟩
   ·exact⟨fun hh=>e3 n hn n hh rfl,r.2.2.2.2.1 n hn⟩
 refine⟨bI,hr,?_⟩;have oq:=Tr.pw x.aa _ bI (fun n hn=>by
  rcases By.1 hn with hn|hn
  ·have:=r.1 n hn;omega
  ·have:=(hr n hn).2;omega)
 rw[AT]at oq;have uy:(Fr.pg x.fr).length=x.fr.length:=by simp[Fr.pg]
 omega
theorem Ok.laid{x:Tx}{limit:Nat}{D:ag}{U pc h:List Nat}(k:x.Ok limit D U pc h)(t:Nat)(ht:t<=1099511627776):
  ∃P':List Nat,(∀n,n∈P'↔x.book D U n≠none)/\(Fr.pg (Fr.aY t x.fr (x.more pc))++(P'++h)).Perm (gV x.aa)/\Fr.Sorted (Fr.aY t x.fr (x.more pc))/\(∀y∈Fr.aY t x.fr (x.more pc),y.1<=1099511627776):=by
 obtain⟨dk,h1,h2⟩:=k.perm;obtain⟨bI,dw,-⟩:=k.spare;obtain⟨k1,k2,k3⟩:=Fr.mB (t:=t) k.sorted bI;have jU:∀n,x.az n≠none->n∉U:=fun n hn=>k.apart hn;obtain⟨V,hV1,hV2⟩:∃V,(x.aK++V).Perm U/\∀n,n∈V↔n∈U/\n∉x.aK:=by
  have hU:U.Nodup:=by
   have hn:=k.nodup h2;exact(aag.1 (aag.1 (aag.1 (aag.1 hn).2.1).2.1).2.1).1
  refine⟨U.filter (fun n=> !x.aK.contains n),?_,fun n=>by simp⟩;have ha:(U.filter (fun n=>x.aK.contains n)++U.filter (fun n=> !x.aK.contains n)).Perm U:=List.filter_append_perm _ _;refine adn (aeM _ ?_) ha;refine(List.perm_ext_iff_of_nodup k.aK (agm List.filter_sublist hU)).2 fun n=> ?_;rw[List.mem_filter];constructor
  ·exact fun hn=>⟨k.sub n hn,by simpa using hn⟩
  ·exact fun hn=>by simpa using hn.2
 refine⟨dk++V,fun n=> ?_,?_,k1,fun y hy=> ?_⟩
 ·unfold book
  rw[By,hV2,h1 n];cases hd:x.az n with
  | some p=>simp
  | none=>
   simp only[ne_eq,not_true_eq_false,false_or];constructor
   ·intro hc
    rw[if_pos hc];exact k.cq n hc.1
   ·intro hc
    by_cases hb:n∈U/\n∉x.aK
    ·exact hb
    ·rw[if_neg hb]at hc;exact absurd rfl hc
 ·refine adn (aeM _ k2) (adn ?_ h2)
  unfold more;simp only[aaa];refine ace _ ?_;have e1:(x.aK++(x.loose++(pc++(dk++(V++h))))).Perm (dk++(x.loose++((x.aK++V)++(pc++h)))):=by
   refine List.perm_iff_count.2 fun a=> ?_;simp only[List.count_append];omega
  refine e1.trans ?_;exact ace _ (ace _ (aeM _ hV1))
 ·have:∀(ns:List Nat) (fr:List (Nat×Nat)),(∀y∈fr,y.1<=1099511627776)->∀y∈Fr.aY t fr ns,y.1<=1099511627776:=by
   intro ns;induction ns with
   | nil=>exact fun fr h=>h
   | cons a ns ih=>
    intro fr h;refine ih (Fr.ins fr (t,a)) (fun y hy=> ?_);rcases OF.1 ((Fr.l6 fr (t,a)).mem_iff.1 hy)with rfl|hy
    ·exact ht
    ·exact h y hy
  exact this _ _ k.eQ y hy
end Tx
end Go.Proofs.YtjbcbnemdhbhbaaGreatDoor
