import Derived.Test.YtjbcbnemdhbhbaaGreatDoorB1
import Derived.Test.YtjbcbnemdhbhbaaGreatDoorB6
import Derived.Test.YtjbcbnemdhbhbaaGreatDoorB12
import Derived.LoopN
import Derived.BigRegion
set_option maxRecDepth 100000
set_option linter.unusedVariables false
set_option linter.unusedSimpArgs false
set_option maxHeartbeats 40000000
open Go renaming Calls→aag,Value→IS,World→AI,rounds_succ→abK,wp_loop_rounds→acd
open Go.Ending renaming returned→adA
open Go.Lib renaming hid→sh
open Go.RowKit renaming Below→No
open Go.RowKit.Below renaming refl→IN
open Go.Value renaming ownBlock→aaU,slice→acf
open Go.World renaming setCell→aeH
open Go.World.ownsRow renaming cells→afw
open List renaming append_assoc→OF,eq_nil_of_length_eq_zero→abZ,ext_getElem→agH,getElem?_append_right→abX,getElem_cons_zero→acV,getElem_map→acx,getElem_range→agW,length_append→BY,length_cons→abB,length_take→abv,mem_append→AT,mem_cons→IT,mem_cons_of_mem→ace,mem_iff_getElem→adv,mem_map→abO,mem_range→agA,mem_singleton→By,nodup_append→aai,nodup_cons→abN,not_mem_nil→acG,pairwise_append→aee,pairwise_cons→adf,perm_middle→acL,range→afv,replicate→abQ,takeWhile_cons→aeC,take_append_drop→abm
open List.Nodup renaming sublist→agj
open List.Perm renaming append_left→acw,append_right→aeG,trans→adt
open List.Sublist renaming refl→agx
open Nat renaming add_zero→adi,le_refl→AS,lt_of_lt_of_le→aaf,zero_le→abc,zero_mul→adE
namespace Go.Proofs.YtjbcbnemdhbhbaaGreatDoor
open Go.Proofs.Tryz
namespace Fr
def lt (a b:Nat×Nat):Bool:=decide (a.1<b.1)||(decide (a.1=b.1)&&decide (a.2<b.2))
theorem lt_iff{a b:Nat×Nat}:lt a b=true↔a.1<b.1\/(a.1=b.1/\a.2<b.2):=by simp[lt]
theorem Gt{a b:Nat×Nat}:lt a b=false↔¬ (a.1<b.1\/(a.1=b.1/\a.2<b.2)):=by rw[<-lt_iff];simp
theorem iE{a b c:Nat×Nat}(h:lt a b=true)(k:lt c b=false):lt a c=true:=by rw[lt_iff]at *;rw[Gt]at k;omega
theorem Bx{a b c:Nat×Nat}(h:lt b a=false)(k:lt b c=true):lt a c=true:=by rw[lt_iff]at *;rw[Gt]at h;omega
def Sorted (l:List (Nat×Nat)):Prop:=l.Pairwise fun a b=>lt a b=true
def spot (l:List (Nat×Nat)) (x:Nat×Nat):Nat:=l.findIdx fun y=> !lt y x
def ins (l:List (Nat×Nat)) (x:Nat×Nat):List (Nat×Nat):=l.take (spot l x)++([x]++l.drop (spot l x))
def pg (l:List (Nat×Nat)):List Nat:=l.map (·.2)
theorem hJ(l:List (Nat×Nat))(x:Nat×Nat):spot l x<=l.length:=List.findIdx_le_length
theorem gj(l:List (Nat×Nat))(x:Nat×Nat)(i:Nat)(h:i<spot l x)(hl:i<l.length):lt l[i] x=true:=by
 have:=List.not_of_lt_findIdx (xs:=l) (p:=fun y=> !lt y x) h;cases hh:lt l[i] x with
 | true=>rfl
 | false=>simp[hh]at this
theorem px(l:List (Nat×Nat))(x:Nat×Nat)(hl:spot l x<l.length):lt l[spot l x] x=false:=by
 have:=List.findIdx_getElem (w:=hl) (p:=fun y=> !lt y x) (xs:=l);cases hh:lt l[spot l x] x with
 | false=>rfl
 | true=>
  have h2:lt (l[List.findIdx (fun y=> !lt y x) l]'hl) x=true:=hh;simp[h2]at this
theorem xw{l:List (Nat×Nat)}(h:Sorted l)(i j:Nat)(Ki:i<j)(hj:j<l.length):lt (l[i]'(by omega)) l[j]=true:=List.pairwise_iff_getElem.1 h i j (by omega) hj Ki
theorem iJ{l:List (Nat×Nat)}(h:Sorted l)(x:Nat×Nat)(i:Nat)(hi:spot l x<=i)(hl:i<l.length):lt l[i] x=false:=by
 have h0:=px l x (by omega);by_cases e:i=spot l x
 ·subst e;exact h0
 ·have h1:=xw h (spot l x) i (by omega) hl
  rw[lt_iff]at h1;rw[Gt]at h0 |-;omega
theorem Q1(l:List (Nat×Nat))(x:Nat×Nat):(ins l x).length=l.length+1:=by
 have:=hJ l x;unfold ins;simp;omega
theorem lV(l:List (Nat×Nat))(x:Nat×Nat):(ins l x).Perm (x::l):=by
 have h:(l.take (spot l x)++x::l.drop (spot l x)).Perm (x::(l.take (spot l x)++l.drop (spot l x))):=acL;rw[abm]at h;exact h
theorem Ep{l:List (Nat×Nat)}(h:Sorted l)(x:Nat×Nat)(hx:x∉l):Sorted (ins l x):=by
 have jr:Sorted (l.take (spot l x)++l.drop (spot l x)):=by rw[abm];exact h
 obtain⟨h1,h2,h3⟩:=aee.1 jr;have hb:∀y∈l.take (spot l x),lt y x=true:=fun y hy=>by
  obtain⟨i,hi,rfl⟩:=adv.1 hy;rw[abv]at hi;rw[List.getElem_take];exact gj l x i (by omega) (by omega)
 have ha:∀y∈l.drop (spot l x),lt x y=true:=fun y hy=>by
  obtain⟨i,hi,rfl⟩:=adv.1 hy;rw[List.length_drop]at hi;rw[List.getElem_drop];have h0:=iJ h x (spot l x+i) (by omega) (by omega);have hm:l[spot l x+i]'(by omega)∈l:=List.getElem_mem _;have bL:x≠l[spot l x+i]'(by omega):=fun e=>hx (by rw[e];exact hm);rw[Gt]at h0;rw[lt_iff];rcases Nat.lt_trichotomy x.1 (l[spot l x+i]'(by omega)).1 with q|q|q
  ·exact .inl q
  ·refine .inr ⟨q,?_⟩
   rcases Nat.lt_trichotomy x.2 (l[spot l x+i]'(by omega)).2 with r|r|r
   ·exact r
   ·exact absurd (Prod.ext q r) bL
   ·omega
  ·omega
 refine aee.2 ⟨h1,adf.2 ⟨ha,h2⟩,fun a hA b hB=> ?_⟩;rcases IT.1 hB with rfl|hB
 ·exact hb a hA
 ·exact h3 a hA b hB
def here (l:List (Nat×Nat)):List Bool:=(afv 512).map fun i=>decide (i∈pg l)
theorem L9(l:List (Nat×Nat)):(here l).length=512:=by simp[here]
theorem F6(l:List (Nat×Nat)){i:Nat}(h:i<512):(here l)[i]? =some (decide (i∈pg l)):=by simp[here,h]
theorem AB:here []=abQ 512 false:=by
 unfold here;apply agH
 ·rw[List.length_map,List.length_range,List.length_replicate]
 ·intro i h1 h2
  rw[acx,List.getElem_replicate];rfl
theorem Az(l l':List (Nat×Nat)){p:Nat}(h:∀i,i∈pg l'↔i∈pg l\/i=p):here l'=(here l).set p true:=by
 apply agH
 ·simp[here]
 ·intro i h1 h2
  rw[List.getElem_set];simp only[here,acx,agW];by_cases e:p=i
  ·subst e;rw[if_pos rfl];exact decide_eq_true ((h p).2 (.inr rfl))
  ·rw[if_neg e]
   have:(i∈pg l')↔i∈pg l:=by rw[h i];constructor;rintro(h|h);exact h;exact absurd h.symm e;exact .inl
   simp only[this]
theorem Ma(l l':List (Nat×Nat)){p:Nat}(h:∀i,i∈pg l'↔i∈pg l/\i≠p):here l'=(here l).set p false:=by
 apply agH
 ·simp[here]
 ·intro i h1 h2
  rw[List.getElem_set];simp only[here,acx,agW];by_cases e:p=i
  ·subst e;rw[if_pos rfl];exact decide_eq_false (fun hh=>((h p).1 hh).2 rfl)
  ·rw[if_neg e]
   have:(i∈pg l')↔i∈pg l:=by rw[h i];exact⟨fun x=>x.1,fun x=>⟨x,fun y=>e y.symm⟩⟩
   simp only[this]
theorem Wp(l:List (Nat×Nat))(x:Nat×Nat):∀i,i∈pg (ins l x)↔i∈pg l\/i=x.2:=fun i=>by
 unfold pg;rw[((lV l x).map _).mem_iff,List.map_cons,IT];exact Or.comm
theorem L8(l:List (Nat×Nat))(x:Nat×Nat):here (ins l x)=(here l).set x.2 true:=Az _ _ (Wp l x)
theorem Iy{x:Nat×Nat}{l:List (Nat×Nat)}(h:(pg (x::l)).Nodup):here l=(here (x::l)).set x.2 false:=by
 have hn:=abN.1 h;refine Ma _ _ fun i=>⟨fun hi=>⟨ace _ hi,fun e=>hn.1 (by subst e;exact hi)⟩,fun⟨hi,bL⟩=> ?_⟩;rcases IT.1 hi with e|hi
 ·exact absurd e bL
 ·exact hi
def pieces (n:Nat):Nat:=if n<1 then 0 else (n-1)/40+1
def ok (x:Nat×Nat):Bool:=decide (x.1<=1099511627776)&&decide (1<=x.2)&&decide (x.2<512)
end Fr
structure Tx where
 aa:Nat
 fr:List (Nat×Nat)
 ax:ag
 loose:List Nat
 aM:List Nat
def iS (e:Nat):List Nat:=(afv (e-1)).map (· +1)
theorem eP{e n:Nat}:n∈iS e↔1<=n/\n<e:=by
 unfold iS;rw[abO];constructor
 ·rintro⟨a,ha,rfl⟩
  rw[agA]at ha;omega
 ·intro h
  exact⟨n-1,agA.2 (by omega),by omega⟩
theorem ku(e:Nat):(iS e).Nodup:=by
 unfold iS;unfold List.Nodup;rw[List.pairwise_map];exact(List.nodup_range (n:=e-1)).imp fun h=>by omega
theorem Jh{e:Nat}(h:1<=e):iS (e+1)=iS e++[e]:=by
 unfold iS;rw[show e+1-1=(e-1)+1 by omega,List.range_succ,List.map_append];simp;omega
namespace Tx
def book (x:Tx) (D:ag) (U:List Nat):ag:=fun n=>match x.ax n with
 | some p=>some p
 | none=>if n∈U/\n∉x.aM then D n else none
structure Ok (x:Tx) (limit:Nat) (D:ag) (U pc h:List Nat):Prop where
 perm:∃dk:List Nat,(∀n,n∈dk↔x.ax n≠none)/\(Fr.pg x.fr++(dk++(x.loose++(U++(pc++h))))).Perm (iS x.aa)
 one:1<=x.aa
 le:x.aa<=limit
 lim:limit<=512
 sorted:Fr.Sorted x.fr
 aM:x.aM.Nodup
 sub:∀n∈x.aM,n∈U
 cF:∀n∈U,D n≠none
 eQ:∀y∈x.fr,y.1<=1099511627776
theorem Ok.nodup{x:Tx}{limit:Nat}{D:ag}{U pc h:List Nat}(k:x.Ok limit D U pc h){dk:List Nat}(hp:(Fr.pg x.fr++(dk++(x.loose++(U++(pc++h))))).Perm (iS x.aa)):(Fr.pg x.fr++(dk++(x.loose++(U++(pc++h))))).Nodup:=hp.nodup_iff.2 (ku _)
theorem Ok.range{x:Tx}{limit:Nat}{D:ag}{U pc h:List Nat}(k:x.Ok limit D U pc h):(∀n∈Fr.pg x.fr,1<=n/\n<x.aa)/\(∀n,x.ax n≠none->1<=n/\n<x.aa)/\(∀n∈x.loose,1<=n/\n<x.aa)/\(∀n∈U,1<=n/\n<x.aa)/\(∀n∈pc,1<=n/\n<x.aa)/\∀n∈h,1<=n/\n<x.aa:=by
 obtain⟨dk,h1,h2⟩:=k.perm;refine⟨fun n hn=> ?_,fun n hn=> ?_,fun n hn=> ?_,fun n hn=> ?_,fun n hn=> ?_,fun n hn=> ?_⟩
 ·exact eP.1 (h2.mem_iff.1 (by simp[hn]))
 ·exact eP.1 (h2.mem_iff.1 (by simp[(h1 n).2 hn]))
 ·exact eP.1 (h2.mem_iff.1 (by simp[hn]))
 ·exact eP.1 (h2.mem_iff.1 (by simp[hn]))
 ·exact eP.1 (h2.mem_iff.1 (by simp[hn]))
 ·exact eP.1 (h2.mem_iff.1 (by simp[hn]))
theorem Ok.hand{x:Tx}{limit n:Nat}{D:ag}{U pc h:List Nat}(k:x.Ok limit D U pc (n::h)):n∉Fr.pg x.fr/\x.ax n=none/\n∉x.loose/\n∉U/\n∉pc/\n∉h:=by
 obtain⟨dk,h1,h2⟩:=k.perm;have hn:=k.nodup h2;have e:(Fr.pg x.fr++(dk++(x.loose++(U++(pc++(n::h)))))).Perm (n::(Fr.pg x.fr++(dk++(x.loose++(U++(pc++h)))))):=by
  have:=acL (a:=n) (l₁ :=Fr.pg x.fr++(dk++(x.loose++(U++pc)))) (l₂ :=h);simpa[OF]using this
 have h3:=(abN.1 (e.nodup_iff.1 hn)).1;simp only[AT,not_or]at h3;refine⟨h3.1,?_,h3.2.2.1,h3.2.2.2.1,h3.2.2.2.2.1,h3.2.2.2.2.2⟩;cases hd:x.ax n with
 | none=>rfl
 | some p=>exact absurd ((h1 n).2 (by rw[hd];simp)) h3.2.1
theorem Ok.apart{x:Tx}{limit n:Nat}{D:ag}{U pc h:List Nat}(k:x.Ok limit D U pc h)(hd:x.ax n≠none):n∉U:=by
 obtain⟨dk,h1,h2⟩:=k.perm;have hn:=k.nodup h2;have h3:=(aai.1 (aai.1 hn).2.1).2.2 n ((h1 n).2 hd);exact fun hu=>h3 n (by simp[hu]) rfl
def sure (x:Tx) (limit upto:Nat):Nat:=x.loose.length+(x.fr.takeWhile fun y=>decide (y.1<=upto)).length+(limit-x.aa)
inductive ei (limit upto:Nat):Tx->Nat->Tx->Prop
 | loose (x:Tx) (l:List Nat) (n:Nat) (h:x.loose=l++[n]):ei limit upto x n { x with loose:=l }
 | free (x:Tx) (f n:Nat) (r:List (Nat×Nat)) (h:x.loose=[]) (hf:x.fr=(f,n)::r) (hu:f<=upto):ei limit upto x n { x with fr:=r }
 | more (x:Tx) (h:x.loose=[]) (hf:∀y r,x.fr=y::r->upto<y.1) (hp:x.aa<limit):ei limit upto x x.aa { x with aa:=x.aa+1 }
theorem Ff{x:Tx}{limit upto:Nat}(h:x.loose=[])(hf:∀y r,x.fr=y::r->upto<y.1)(hp:limit<=x.aa):x.sure limit upto=0:=by
 unfold sure;rw[h];have:x.fr.takeWhile (fun y=>decide (y.1<=upto))=[]:=by
  cases hx:x.fr with
  | nil=>rfl
  | cons y r=>
   have:=hf y r hx;rw[aeC,if_neg (by simp;omega)]
 rw[this];simp;omega
theorem ei.sure{x x':Tx}{limit upto n:Nat}(t:ei limit upto x n x'):x.sure limit upto=x'.sure limit upto+1:=by
 cases t with
 | loose l n h=>
  unfold Tx.sure;rw[h];simp only[BY,List.length_singleton];omega
 | free f n r h hf hu=>
  unfold Tx.sure;rw[hf];rw[aeC,if_pos (by simpa using hu)];simp only[abB];omega
 | more h hf hp=>
  unfold Tx.sure;simp only;omega
theorem ei.ax{x x':Tx}{limit upto n:Nat}(t:ei limit upto x n x'):x'.ax=x.ax/\x'.aM=x.aM:=by cases t<;>exact⟨rfl,rfl⟩
theorem ei.ok{x x':Tx}{limit upto n:Nat}{D:ag}{U pc h:List Nat}(t:ei limit upto x n x')(k:x.Ok limit D U pc h):x'.Ok limit D U pc (n::h):=by
 obtain⟨dk,h1,h2⟩:=k.perm;have mid:∀(a b c d e f:List Nat),(a++(b++(c++(d++(e++(n::f)))))).Perm (n::(a++(b++(c++(d++(e++f)))))):=fun a b c d e f=>by
  have:=acL (a:=n) (l₁ :=a++(b++(c++(d++e)))) (l₂ :=f);simpa[OF]using this
 cases t with
 | loose l n hl=>
  refine⟨⟨dk,h1,?_⟩,k.one,k.le,k.lim,k.sorted,k.aM,k.sub,k.cF,k.eQ⟩;refine(mid _ _ _ _ _ _).trans (adt ?_ h2);rw[hl];have:=acL (a:=n) (l₁ :=Fr.pg x.fr++(dk++l)) (l₂ :=U++(pc++h));simpa[OF]using this.symm
 | free f n r hl hf hu=>
  refine⟨⟨dk,h1,?_⟩,k.one,k.le,k.lim,?_,k.aM,k.sub,k.cF,fun y hy=>k.eQ y (by rw[hf];exact ace _ hy)⟩
  ·refine(mid _ _ _ _ _ _).trans (adt ?_ h2)
   rw[hf];exact List.Perm.refl _
  ·have:=k.sorted
   rw[hf]at this;exact(adf.1 this).2
 | more hl hf hp=>
  refine⟨⟨dk,h1,?_⟩,by have:=k.one;show 1<=x.aa+1;omega,hp,k.lim,k.sorted,k.aM,k.sub,k.cF,k.eQ⟩;refine(mid _ _ _ _ _ _).trans ?_;rw[Jh k.one];exact(List.Perm.cons _ h2).trans (List.perm_append_comm (l₁ :=[x.aa]) (l₂ :=iS x.aa))
theorem Lq(x:Tx)(D:ag)(U:List Nat)(n:Nat)(p:rO):({ x with ax:=Tr.cY x.ax n (some p) }:Tx).book D U=Tr.cY (x.book D U) n (some p):=by
 funext m
 unfold book Tr.cY;by_cases e:m=n
 ·subst e;simp
 ·simp[e]
theorem Ok.Hn{x:Tx}{limit n:Nat}{D:ag}{U pc h:List Nat}(k:x.Ok limit D U pc (n::h)):x.book D U n=none:=by
 obtain⟨h1,h2,h3,h4,h5,h6⟩:=k.hand;unfold book;rw[h2];simp[h4]
theorem Ok.lay{x:Tx}{limit n:Nat}{D:ag}{U pc h:List Nat}(k:x.Ok limit D U pc (n::h))(p:rO):({ x with ax:=Tr.cY x.ax n (some p) }:Tx).Ok limit D U pc h:=by
 obtain⟨dk,h1,h2⟩:=k.perm;obtain⟨g1,g2,g3,g4,g5,g6⟩:=k.hand;refine⟨⟨n::dk,fun m=> ?_,?_⟩,k.one,k.le,k.lim,k.sorted,k.aM,k.sub,k.cF,k.eQ⟩
 ·show m∈n::dk↔Tr.cY x.ax n (some p) m≠none
  by_cases e:m=n
  ·subst e;simp[Tr.cY]
  ·rw[IT,Tr.dM _ _ e,h1 m];simp[e]
 ·refine adt ?_ h2
  have a:(Fr.pg x.fr++((n::dk)++(x.loose++(U++(pc++h))))).Perm (n::(Fr.pg x.fr++(dk++(x.loose++(U++(pc++h)))))):=acL;have b:=acL (a:=n) (l₁ :=Fr.pg x.fr++(dk++(x.loose++(U++pc)))) (l₂ :=h);refine adt a ?_;simpa[OF]using b.symm
theorem Ok.EA{x:Tx}{limit n:Nat}{D:ag}{U pc h:List Nat}(k:x.Ok limit D U pc h)(hd:x.ax n≠none):({ x with ax:=Tr.cY x.ax n none,loose:=x.loose++[n] }:Tx).Ok limit D U pc h/\({ x with ax:=Tr.cY x.ax n none,loose:=x.loose++[n] }:Tx).book D U=Tr.cY (x.book D U) n none:=by
 obtain⟨dk,h1,h2⟩:=k.perm;have hU:=k.apart hd;have hm:=(h1 n).2 hd;obtain⟨a,b,rfl⟩:=List.append_of_mem hm;have hn:=k.nodup h2;have oL:n∉a++b:=by
  have h3:=(aai.1 (aai.1 hn).2.1).1;have:=(acL (a:=n) (l₁ :=a) (l₂ :=b)).nodup_iff.1 h3;exact(abN.1 this).1
 refine⟨⟨⟨a++b,fun m=> ?_,?_⟩,k.one,k.le,k.lim,k.sorted,k.aM,k.sub,k.cF,k.eQ⟩,?_⟩
 ·show m∈a++b↔Tr.cY x.ax n none m≠none
  by_cases e:m=n
  ·subst e;rw[Tr.fM];simp[oL]
  ·rw[Tr.dM _ _ e,<-h1 m];simp[e]
 ·refine adt ?_ h2
  have p1:=acL (a:=n) (l₁ :=Fr.pg x.fr++((a++b)++x.loose)) (l₂ :=U++(pc++h));have p2:=acL (a:=n) (l₁ :=Fr.pg x.fr++a) (l₂ :=b++(x.loose++(U++(pc++h))));refine adt (by simpa[OF]using p1) ?_;simpa[OF]using p2.symm
 ·funext m
  unfold book;by_cases e:m=n
  ·subst e
   simp[Tr.cY,hU]
  ·simp[Tr.cY,e]
theorem Ok.free{x:Tx}{limit n:Nat}{D:ag}{U pc h:List Nat}(k:x.Ok limit D U pc h)(hd:x.ax n=none)(hb:x.book D U n≠none):n∈U/\n∉x.aM/\({ x with aM:=x.aM++[n] }:Tx).Ok limit D U pc h/\({ x with aM:=x.aM++[n] }:Tx).book D U=Tr.cY (x.book D U) n none:=by
 have hu:n∈U/\n∉x.aM:=by
  unfold book at hb;rw[hd]at hb;simp only at hb;by_cases hc:n∈U/\n∉x.aM
  ·exact hc
  ·rw[if_neg hc]at hb;exact absurd rfl hb
 refine⟨hu.1,hu.2,⟨k.perm,k.one,k.le,k.lim,k.sorted,aai.2 ⟨k.aM,by simp,fun a ha b hb e=> ?_⟩,fun m hm=> ?_,k.cF,k.eQ⟩,?_⟩
 ·rw[By]at hb
  subst hb e;exact hu.2 ha
 ·rcases AT.1 hm with hm|hm
  ·exact k.sub m hm
  ·rw[By]at hm;subst hm;exact hu.1
 ·funext m
  unfold book;by_cases e:m=n
  ·subst e
   simp[Tr.cY,hd]
  ·simp[Tr.cY,e]
end Tx
end Go.Proofs.YtjbcbnemdhbhbaaGreatDoor
namespace Go.Proofs.YtjbcbnemdhbhbaaGreatDoor
open Go.Proofs.Tryz
open Go.RowKit
def pF (x:Nat×Nat):List IS:=[.int .i64 x.1,.int .i64 x.2]
def aN (l:List (Nat×Nat)):List IS:=(l.map pF).flatten
theorem fh(a b:List (Nat×Nat)):aN (a++b)=aN a++aN b:=by simp[aN]
theorem kh(x:Nat×Nat)(l:List (Nat×Nat)):aN (x::l)=pF x++aN l:=by simp[aN]
theorem cH:∀l:List (Nat×Nat),(aN l).length=l.length*2
 | []=>rfl
 | x::l=>by rw[kh,BY,cH l,abB];show 2+_=_;omega
theorem qb:∀(l:List (Nat×Nat)) (i:Nat) (h:i<l.length) (j:Nat),j<2->(aN l)[i*2+j]? =(pF l[i])[j]?
 | x::l,0,h,j,hj=>by
  rw[kh,adE,Nat.zero_add,List.getElem?_append_left (by show j<2;exact hj)];rfl
 | x::l,i+1,h,j,hj=>by
  rw[kh,abX (by show 2<=_;omega),show (i+1)*2+j-(pF x).length=i*2+j by show (i+1)*2+j-2=_;omega];exact qb l i (by simpa using h) j hj
theorem mB(l:List (Nat×Nat)):∀u∈aN l,u.oneCell'=true:=by
 intro u hu;obtain⟨x,hx,hu⟩:=List.mem_flatten.1 hu;obtain⟨e,_,rfl⟩:=abO.1 hx;simp only[pF,IT,acG,or_false]at hu;rcases hu with rfl|rfl<;>rfl
theorem mI:(prog.info? 62).map (fun i=>(i.zero,i.size,i.bytes))=some (some (.agg #[.int .i64 0,.int .i64 0]),2,16):=by kernel_rfl
def fX (w:AI) (A:Option Addr) (l:List (Nat×Nat)):Prop:=∀(j:Nat) (u:IS),(aN l)[j]? =some u->∃b o,A=some ⟨b,o,none⟩/\b<w.heap.size/\w.cell? ⟨b,o+j,none⟩=some u
theorem fX.at{w:AI}{A:Option Addr}{l:List (Nat×Nat)}(h:fX w A l)(i:Nat)(hi:i<l.length):∃b o,A=some ⟨b,o,none⟩/\b<w.heap.size/\w.cell? ⟨b,o+i*2,none⟩=some (.int .i64 l[i].1)/\w.cell? ⟨b,o+i*2+1,none⟩=some (.int .i64 l[i].2):=by
 obtain⟨b,o,hA,hb,h0⟩:=h (i*2) (.int .i64 l[i].1) (by have:=qb l i hi 0 (by omega);rw[adi]at this;rw[this];rfl);obtain⟨b',o',nM,F2,h1⟩:=h (i*2+1) (.int .i64 l[i].2) (by rw[qb l i hi 1 (by omega)];rfl);rw[hA]at nM;injection nM with nM;injection nM with e1 e2;subst e1 e2;exact⟨b,o,hA,hb,h0,h1⟩
theorem fX.off{U:List Nat}{w w':AI}{A:Option Addr}{l:List (Nat×Nat)}(h:fX w A l)(ho:ah U w w')(hn:∀a,A=some a->a.block∉U):fX w' A l:=by
 intro j u hu;obtain⟨b,o,rfl,hb,hc⟩:=h j u hu;exact⟨b,o,rfl,aaf hb ho.size,(ho.cell (p:=⟨b,o+j,none⟩) hb (hn ⟨b,o,none⟩ rfl)).trans hc⟩
theorem fX.below{w w':AI}{A:Option Addr}{l:List (Nat×Nat)}(h:fX w A l)(hb:No w.heap.size w w'):fX w' A l:=by
 intro j u hu;obtain⟨b,o,rfl,hl,hc⟩:=h j u hu;exact⟨b,o,rfl,aaf hl hb.size,(hb.cell (p:=⟨b,o+j,none⟩) hl).trans hc⟩
def gL (w:AI) (B:Nat) (v:IS) (l:List (Nat×Nat)):Prop:=w.ownsRow B 62 2 v l.length (aN l)
theorem gL.row{w:AI}{B:Nat}{A:Option Addr}{n c:Nat}{l:List (Nat×Nat)}(h:gL w B (.slice A n c) l):fX w A l/\n=l.length/\n<=c/\c<=maxLen/\(∀a,A=some a->a=⟨a.block,0,none⟩/\B<=a.block/\a.block<w.heap.size)/\(A=none->c=0):=by
 rcases h.2 with⟨h1,h2⟩|⟨g,cap,cur,h1,hb,hh,hc,hm,r⟩
 ·injection h1 with e1 e2 e3
  subst e1 e2 e3;exact⟨fun j u hu=>by rw[abZ h2]at hu;simp[aN]at hu,h2.symm,AS _,abc _,(fun a ha=>by cases ha),fun _=>rfl⟩
 ·injection h1 with e1 e2 e3
  subst e1 e2 e3;refine⟨fun j u hu=>⟨g,0,rfl,lt_of_block hh,?_⟩,rfl,hc,hm,(fun a ha=>by cases ha;exact⟨rfl,hb,lt_of_block hh⟩),fun hh=>by cases hh⟩;have:=afw h (g:=g) rfl j u hu;rw[bI]at this;exact this
def ee (l:List (Nat×Nat)):List IS:=(Fr.here l).map Value.bool
def ck (A:Option Addr) (c:Nat) (l:List (Nat×Nat)):Array IS:=(acf A l.length c::ee l).toArray
theorem bu(A:Option Addr)(c:Nat)(l:List (Nat×Nat)):(ck A c l)[0]? =some (.slice A l.length c):=by simp[ck]
theorem nH(A:Option Addr)(c:Nat)(l:List (Nat×Nat))(i:Nat)(h:i<512):(ck A c l)[1+i]? =some (.bool (decide (i∈Fr.pg l))):=by
 rw[Nat.add_comm];simp[ck,ee,Fr.F6 l h]
structure FL (w:AI) (f:Nat) (S:List Nat) (l:List (Nat×Nat)):Prop where
 ex:∃A c,Bk w f 165 (ck A c l)/\fX w A l/\l.length<=c/\c<=maxLen/\(∀a,A=some a->a.block∈S/\a.block≠f)/\(A=none->c=0)
 yA:f∈S
 old:∀b∈S,b<w.heap.size
structure rK (w:AI) (f:Nat) (S:List Nat) (l:List (Nat×Nat)):Prop where
 ex:∃A c,Bk w f 165 (ck A c l)/\gL w 0 (.slice A l.length c) l/\∀a,A=some a->a.block∈S
 yA:f∈S
 old:∀b∈S,b<w.heap.size
theorem rK.fl{w:AI}{f:Nat}{S:List Nat}{l:List (Nat×Nat)}(h:rK w f S l):FL w f S l:=by
 obtain⟨⟨A,c,h1,h2,h3⟩,h4,h5⟩:=h;obtain⟨r1,r2,r3,r4,r5,r6⟩:=h2.row;refine⟨⟨A,c,h1,r1,r3,r4,fun a ha=>⟨h3 a ha,fun e=> ?_⟩,r6⟩,h4,h5⟩;have bL:=bP h2 h1 (by decide);rw[ha,(r5 a ha).1,e]at bL;exact bL rfl
theorem FL.off{w w':AI}{f:Nat}{S U:List Nat}{l:List (Nat×Nat)}(h:FL w f S l)(ho:ah U w w')(hU:∀b∈S,b∉U):FL w' f S l:=by
 obtain⟨⟨A,c,h1,h2,h3,h4,h5,h8⟩,h6,h7⟩:=h;exact⟨⟨A,c,ho.bk h1 (hU f h6),h2.off ho (fun a ha=>hU _ (h5 a ha).1),h3,h4,h5,h8⟩,h6,fun b hb=>aaf (h7 b hb) ho.size⟩
theorem rK.off{w w':AI}{f:Nat}{S U:List Nat}{l:List (Nat×Nat)}(h:rK w f S l)(ho:ah U w w')(hU:∀b∈S,b∉U):rK w' f S l:=by
 obtain⟨⟨A,c,h1,h2,h3⟩,h6,h7⟩:=h;refine⟨⟨A,c,ho.bk h1 (hU f h6),ho.own h2 (fun g hg=> ?_),h3⟩,h6,fun b hb=>aaf (h7 b hb) ho.size⟩;obtain⟨a,rfl⟩:∃a,A=some a:=by
  cases A with
  | none=>simp[aaU]at hg
  | some a=>exact⟨a,rfl⟩
 have h9:=(h2.row).2.2.2.2.1 a rfl;have h8:=h3 a rfl;rw[h9.1]at hg h8;have e:a.block=g:=by simpa[aaU]using hg
 rw[<-e];exact hU _ h8
theorem FL.below{w w':AI}{f:Nat}{S:List Nat}{l:List (Nat×Nat)}(h:FL w f S l)(hb:No w.heap.size w w'):FL w' f S l:=h.off (ah.ae hb []) (fun _ _=>acG)
theorem rK.below{w w':AI}{f:Nat}{S:List Nat}{l:List (Nat×Nat)}(h:rK w f S l)(hb:No w.heap.size w w'):rK w' f S l:=h.off (ah.ae hb []) (fun _ _=>acG)
theorem LN(w:AI):aag prog 155 #[] w (fun e w'=>e= .returned (.pointer (some ⟨w.heap.size,0,none⟩))/\rK w' w.heap.size [w.heap.size] []/\No w.heap.size w w'):=by
 go_enter func155,ntmps155
 go_wp2_with fail
 go_ret
 refine⟨rfl,⟨⟨none,0,?_,World.ownsRow_nil _ _ _ _,fun a ha=>by cases ha⟩,by simp,fun b hb=>by rw[By]at hb;subst hb;simp⟩,(IN _ _).alloc (AS _) _⟩;have e:ck none 0 []=(acf none 0 0::abQ 512 (Value.bool false)).toArray:=by unfold ck ee;rw[Fr.AB,List.map_replicate];rfl
 rw[e];exact Bk.new w _ _
theorem DL{w:AI}{f:Nat}{S:List Nat}{l:List (Nat×Nat)}(h:FL w f S l):aag prog 112 #[.pointer (some ⟨f,0,none⟩)] w (fun e w'=>e= .returned (.int .i64 l.length)/\w=w'):=by
 obtain⟨⟨A,c,h1,h2,h3,h4,h5,-⟩,h6,h7⟩:=h;have c0:=(h1.cell 0).trans (bu A c l);have lf:=h1.lt;clear h1 h2 h5 h6 h7;go_enter func112,ntmps112
 go_wp2_with fail
 go_ret
 exact⟨rfl,rfl⟩
theorem qS(n:Nat)(w:AI)(h:n<=1000000):aag prog 111 #[.int .i64 n] w (fun e w'=>e= .returned (.int .i64 (Fr.pieces n:Nat))/\w=w'):=by
 by_cases h0:n<1
 ·obtain rfl:n=0:=by omega
  go_enter func111,ntmps111
  go_wp2_with fail
  go_ret
  exact⟨rfl,rfl⟩
 ·have z1:decide ((n:Int)<1)=false:=decide_eq_false (by omega)
  have HP:=sh (show Fr.pieces n=(n-1)/40+1 by unfold Fr.pieces;rw[if_neg h0]);have hn:1<=(n:Int):=by omega
  have jv:(n:Int)<=1000000:=by omega
  go_enter func111,ntmps111
  go_wp2_with fail
  go_ret
  refine⟨congrArg (fun z:Int=>adA (.int .i64 z)) ?_,rfl⟩;rw[HP.out];omega
theorem LP{w:AI}{f:Nat}{S:List Nat}{l:List (Nat×Nat)}(h:FL w f S l)(upto:Int)(hu:∀x t,l=x::t->upto<x.1):aag prog 169 #[.pointer (some ⟨f,0,none⟩),.int .i64 upto] w (fun e w'=>e= .returned (.tuple #[.int .i64 0,.bool false])/\w=w'):=by
 obtain⟨⟨A,c,h1,h2,h3,h4,h5,-⟩,h6,h7⟩:=h;have c0:=(h1.cell 0).trans (bu A c l);have lf:=h1.lt;cases l with
 | nil=>
  simp only[List.length_nil]at c0;clear h1 h2 h5 h6 h7 hu;go_enter func169,ntmps169
  go_wp2_with fail
  go_ret2
  exact⟨rfl,rfl⟩
 | cons x t=>
  have z1:decide (upto<(x.1:Int))=true:=decide_eq_true (hu x t rfl);obtain⟨b,o,rfl,lb,q0,q1⟩:=h2.at 0 (by simp);simp only[acV,adE,adi]at q0 q1;obtain⟨n,hn⟩:∃n,n=t.length:=⟨_,rfl⟩;simp only[abB]at c0 h3;rw[<-hn]at c0 h3;have z2:((n:Int)+1==0)=false:=by rw[beq_eq_false_iff_ne];omega
  have z3:(n+1==0)=false:=by rw[beq_eq_false_iff_ne];omega
  have z4:0<n+1:=by omega
  clear h1 h2 h5 h6 h7 hu hn;go_enter func169,ntmps169
  go_wp2_with fail
  go_ret2
  exact⟨rfl,rfl⟩
theorem wJ(A A':Option Addr)(c c':Nat)(l l':List (Nat×Nat))(p:Nat)(b:Bool)(hp:p<512)(hh:Fr.here l'=(Fr.here l).set p b):((ck A c l).setIfInBounds 0 (.slice A' l'.length c')).setIfInBounds (1+p) (.bool b)=ck A' c' l':=by
 apply Array.ext';rw[Array.toList_setIfInBounds,Array.toList_setIfInBounds];unfold ck ee;rw[hh,List.map_set];simp[Nat.add_comm]
theorem fX.tail{w:AI}{b o:Nat}{x:Nat×Nat}{t:List (Nat×Nat)}(h:fX w (some ⟨b,o,none⟩) (x::t)):fX w (some ⟨b,o+2,none⟩) t:=by
 intro j u hu;obtain⟨b',o',hA,hb,hc⟩:=h (j+2) u (by rw[kh,abX (by show 2<=_;omega)];exact hu);injection hA with hA;injection hA with e1 e2;subst e1 e2;exact⟨b,o+2,rfl,hb,by rw[show o+2+j=o+(j+2)by omega];exact hc⟩
def Lc (f:Nat) (S:List Nat) (p:Nat) (t:List (Nat×Nat)) (w:AI) (e:Ending) (w':AI):Prop:=e= .returned (.tuple #[.int .i64 p,.bool true])/\FL w' f S t/\ah [f] w w'
theorem Io{w:AI}{f:Nat}{S:List Nat}{x:Nat×Nat}{t:List (Nat×Nat)}(h:FL w f S (x::t))(upto:Int)(hu:(x.1:Int)<=upto)(hp:x.2<512)(cg:(Fr.pg (x::t)).Nodup):
  aag prog 169 #[.pointer (some ⟨f,0,none⟩),.int .i64 upto] w (Lc f S x.2 t w):=by
 obtain⟨⟨A,c,h1,h2,h3,h4,h5,-⟩,h6,h7⟩:=h;have H1:=sh h1;have H2:=sh h2;have H5:=sh h5;have H6:=sh h6;have H7:=sh h7;have si:=sh (Fr.Iy cg);have c0:=(h1.cell 0).trans (bu A c (x::t));have cp:=(h1.cell (1+x.2)).trans (nH A c (x::t) x.2 hp);have f0:=h1.frozen 0;have fp:=h1.frozen (1+x.2);have lf:=h1.lt;have z1:decide (upto<(x.1:Int))=false:=decide_eq_false (by omega);obtain⟨b,o,rfl,lb,q0,q1⟩:=h2.at 0 (by simp);simp only[acV,adE,adi]at q0 q1;have HBF:=sh (h5 _ rfl);obtain⟨n,hn⟩:∃n,n=t.length:=⟨_,rfl⟩;have HN:=sh hn;simp only[abB]at c0 h3;rw[<-hn]at c0 h3;have z2:((n:Int)+1==0)=false:=by rw[beq_eq_false_iff_ne];omega
 have z3:(n+1==0)=false:=by rw[beq_eq_false_iff_ne];omega
 have z4:0<n+1:=by omega
 have z5:1<=n+1:=by omega
 obtain⟨p,VR⟩:∃p,p=x.2:=⟨_,rfl⟩;have HP:=sh VR;rw[<-VR]at q1 cp fp hp;have z6:decide ((p:Int)<512)=true:=decide_eq_true (by omega);unfold maxLen at h4;clear h1 h2 h5 h6 h7 hu hn cg VR;have bG:∀(u v:IS),ah [f] w ((w.setCell ⟨f,0,none⟩ u).setCell ⟨f,1+p,none⟩ v):=fun u v=>((ah.refl [f] w).setCell (.inl (by simp)) _).setCell (.inl (by simp)) _;have Ud:=sh bG;have pO:=sh fun(A':Option Addr) (c':Nat)=>wJ (some ⟨b,o,none⟩) A' c c' (x::t) t p false hp (by rw[HP.out];exact si.out);clear bG;by_cases hc:c=1
 ·have II:n=0:=by omega
  have ht:t=[]:=abZ (by rw[<-HN.out];exact II);have HT:=sh ht;clear ht;subst hc II;go_enter func169,ntmps169
  go_wp2_with fail
  go_ret2
  have h9:=pO.out (some ⟨b,o,none⟩) 0;rw[<-HN.out]at h9;refine⟨congrArg (fun z:Nat=>adA (.tuple #[.int .i64 (z:Int),.bool true])) HP.out,⟨⟨some ⟨b,o,none⟩,0,?_,?_,by rw[HT.out];exact AS _,abc _,fun a ha=> ?_,fun hh=>by cases hh⟩,H6.out,fun y hy=> ?_⟩,Ud.out _ _⟩
  ·rw[<-h9]
   exact(H1.out.put 0 _).put (1+p) _
  ·rw[HT.out]
   intro j u hu;simp[aN]at hu
  ·cases ha;exact HBF.out
  ·have:=H7.out y hy
   simpa[aeH]using this
 ·have CR:(1=c)=False:=by rw[eq_iff_iff];exact⟨fun h=>hc h.symm,False.elim⟩
  go_enter func169,ntmps169
  go_wp2_with fail
  go_ret2
  have h9:=pO.out (some ⟨b,o+2,none⟩) (c-1);rw[<-HN.out]at h9;refine⟨congrArg (fun z:Nat=>adA (.tuple #[.int .i64 (z:Int),.bool true])) HP.out,⟨⟨some ⟨b,o+2,none⟩,c-1,?_,(fX.tail H2.out).off (Ud.out _ _) (fun a ha=> ?_),by rw[<-HN.out];omega,by unfold maxLen;omega,fun a ha=> ?_,fun hh=>by cases hh⟩,H6.out,fun y hy=> ?_⟩,Ud.out _ _⟩
  ·rw[<-h9]
   exact(H1.out.put 0 _).put (1+p) _
  ·cases ha;simpa using HBF.out.2
  ·cases ha;exact HBF.out
  ·have:=H7.out y hy
   simpa[aeH]using this
theorem E0{a b:Int}(h:a=b):adA (.int .i64 a)=adA (.int .i64 b):=by rw[h]
theorem UK(w:AI)(t:TypeId)(cs:Array IS)(k:Nat)(h:w.heap.size=k):Bk (w.alloc (.cells cs t)) k t cs:=by subst h;exact Bk.new w t cs
def oD (a b:Int):Int:=if a<b then -1 else if b<a then 1 else 0
theorem agi(x:Int)(w:AI):aag prog 243 #[.int .i64 x] w (fun e w'=>e= .returned (.bool false)/\w=w'):=by
 go_enter func243,ntmps243
 go_wp2_with fail
 go_ret
 exact⟨rfl,rfl⟩
theorem Ly(a b:Int)(w:AI):aag prog 248 #[.int .i64 a,.int .i64 b] w (fun e w'=>e= .returned (.int .i64 (oD a b))/\w=w'):=by
 have HN:=sh fun(x:Int) (W:AI)=>agi x W;by_cases h1:a<b
 ·have HC:=sh (show oD a b= -1 by unfold oD;rw[if_pos h1])
  have z1:decide (a<b)=true:=decide_eq_true h1;clear h1;go_enter func248,ntmps248
  go_wp2_with (go_at_call 243;refine(HN.out _ _).mono ?_;rintro e w' ⟨rfl,rfl⟩)
  go_ret
  exact⟨E0 HC.out.symm,rfl⟩
 ·by_cases h2:b<a
  ·have HC:=sh (show oD a b=1 by unfold oD;rw[if_neg h1,if_pos h2])
   have z1:decide (a<b)=false:=decide_eq_false h1;have z2:decide (b<a)=true:=decide_eq_true h2;clear h1 h2;go_enter func248,ntmps248
   go_wp2_with (go_at_call 243;refine(HN.out _ _).mono ?_;rintro e w' ⟨rfl,rfl⟩)
   go_ret
   exact⟨E0 HC.out.symm,rfl⟩
  ·have HC:=sh (show oD a b=0 by unfold oD;rw[if_neg h1,if_neg h2])
   have z1:decide (a<b)=false:=decide_eq_false h1;have z2:decide (b<a)=false:=decide_eq_false h2;clear h1 h2;go_enter func248,ntmps248
   go_wp2_with (go_at_call 243;refine(HN.out _ _).mono ?_;rintro e w' ⟨rfl,rfl⟩)
   go_ret
   exact⟨E0 HC.out.symm,rfl⟩
def TB (x y:Int):Int:=if x=0 then y else x
theorem orI(b:Nat)(x y:Int)(w:AI)(h:Bk w b 3 #[.int .i64 x,.int .i64 y]):aag prog 247 #[.slice (some ⟨b,0,none⟩) 2 2] w (fun e w'=>e= .returned (.int .i64 (TB x y))/\w=w'):=by
 have c0:=h.cell 0;have c1:=h.cell 1;have lb:=h.lt;clear h;by_cases hx:x=0
 ·subst hx
  by_cases hy:y=0
  ·subst hy
   have HX:=sh (show TB 0 0=0 from rfl);go_enter func247,ntmps247
   go_wp2_with fail
   refine acd 3 ?_;rw[abK];go_wp2_with fail
   rw[abK];go_wp2_with fail
   rw[abK];go_wp2_with fail
   go_ret
   exact⟨E0 HX.out.symm,rfl⟩
  ·have z1:(y != 0)=true:=by rw[bne_iff_ne];exact hy
   have HX:=sh (show TB 0 y=y from rfl);clear hy;go_enter func247,ntmps247
   go_wp2_with fail
   refine acd 3 ?_;rw[abK];go_wp2_with fail
   rw[abK];go_wp2_with fail
   go_ret
   exact⟨E0 HX.out.symm,rfl⟩
 ·have z1:(x != 0)=true:=by rw[bne_iff_ne];exact hx
  have HX:=sh (show TB x y=x by unfold TB;rw[if_neg hx]);clear hx;go_enter func247,ntmps247
  go_wp2_with fail
  refine acd 3 ?_;rw[abK];go_wp2_with fail
  go_ret
  exact⟨E0 HX.out.symm,rfl⟩
def Fr.cmp (x y:Nat×Nat):Int:=TB (oD x.1 y.1) (oD x.2 y.2)
theorem Fr.Lw(x y:Nat×Nat):Fr.lt x y=decide (Fr.cmp x y<0):=by
 rw[Bool.eq_iff_iff,decide_eq_true_eq,Fr.lt_iff];unfold Fr.cmp TB oD
 repeat split
 all_goals omega
theorem tj(x y:Nat×Nat)(w:AI):aag prog 216 #[.agg #[.int .i64 x.1,.int .i64 x.2],.agg #[.int .i64 y.1,.int .i64 y.2]] w (fun e w'=>e= .returned (.int .i64 (Fr.cmp x y))/\No w.heap.size w w'):=by
 have HC:=sh fun(a b:Int) (W:AI)=>Ly a b W;have HO:=sh fun(b:Nat) (x y:Int) (W:AI) (h:Bk W b 3 #[.int .i64 x,.int .i64 y])=>orI b x y W h;have HF:=sh (show Fr.cmp x y=TB (oD x.1 y.1) (oD x.2 y.2) from rfl);go_enter func216,ntmps216
 go_wp2_with fail
 have bH:=sh (show ∀W,No (w.heap.size+2) ((w.alloc (.cells #[.int .i64 x.1,.int .i64 x.2] 62)).alloc (.cells #[.int .i64 y.1,.int .i64 y.2] 62)) W->W.cell? ⟨w.heap.size,0,none⟩=some (.int .i64 x.1)/\W.cell? ⟨w.heap.size,1,none⟩=some (.int .i64 x.2)/\W.cell? ⟨w.heap.size+1,0,none⟩=some (.int .i64 y.1)/\W.cell? ⟨w.heap.size+1,1,none⟩=some (.int .i64 y.2) from fun W hW=>by
  have h1:=af ((Bk.new w 62 #[.int .i64 x.1,.int .i64 x.2]).alloc (.cells #[.int .i64 y.1,.int .i64 y.2] 62)) (w':=W) (by simpa using hW);have h2:=af (Bk.new (w.alloc (.cells #[.int .i64 x.1,.int .i64 x.2] 62)) 62 #[.int .i64 y.1,.int .i64 y.2]) (w':=W) (by simpa using hW);have h3:=h2.cell 0;have h4:=h2.cell 1;rw[show (w.alloc (.cells #[.int .i64 x.1,.int .i64 x.2] 62)).heap.size=w.heap.size+1 by simp]at h3 h4;exact⟨h1.cell 0,h1.cell 1,h3,h4⟩)
 go_region_held3 (fun W=>W.cell? ⟨w.heap.size,0,none⟩=some (.int .i64 x.1)/\W.cell? ⟨w.heap.size,1,none⟩=some (.int .i64 x.2)/\W.cell? ⟨w.heap.size+1,0,none⟩=some (.int .i64 y.1)/\W.cell? ⟨w.heap.size+1,1,none⟩=some (.int .i64 y.2)) (first|(refine bH.out _ ?_;with_reducible (first|exact(IN _ _).drew|exact((IN _ _).alloc (by simp) _).drew))|fail) (first
  | (go_at_call 248;(with_reducible refine(HC.out _ _ _).mono ?_);rintro e w' ⟨rfl,rfl⟩)
  | (go_at_call 247;(refine(HO.out (w.heap.size+1+1) (oD x.1 y.1) (oD x.2 y.2) _ (UK _ _ _ _ (by simp)).drew).mono ?_;rintro e w' ⟨rfl,rfl⟩)))
 all_goals
  go_wp2_with fail
  go_ret
  exact⟨E0 HF.out.symm,((((IN _ w).alloc (AS _) _).alloc (by simp) _).alloc (by simp;omega) _).drew⟩
theorem wI(x:Nat×Nat)(w:AI)(h:Fr.ok x=true):aag prog 214 #[.agg #[.int .i64 x.1,.int .i64 x.2]] w (fun e w'=>e= .returned (.bool true)/\No w.heap.size w w'):=by
 unfold Fr.ok at h;simp only[Bool.and_eq_true,decide_eq_true_eq]at h;obtain⟨⟨h1,h2⟩,h3⟩:=h;obtain⟨a,b⟩:=x;simp only at h1 h2 h3 |-;have z0:decide ((0:Int)<=(a:Int))=true:=decide_eq_true (by omega);have z1:decide ((a:Int)<=1099511627776)=true:=decide_eq_true (by omega);have z2:decide ((1:Int)<=(b:Int))=true:=decide_eq_true (by omega);have z3:decide ((b:Int)<512)=true:=decide_eq_true (by omega);have z4:decide (1<=b)=true:=decide_eq_true h2;have z5:decide (b<512)=true:=decide_eq_true h3;clear h1 h2 h3;go_enter func214,ntmps214
 go_wp2_with fail
 go_ret
 exact⟨rfl,(IN _ w).alloc (AS _) _⟩
end Go.Proofs.YtjbcbnemdhbhbaaGreatDoor
namespace Go.Proofs.YtjbcbnemdhbhbaaGreatDoor
open Go.Proofs.Tryz
namespace Fr
def aW (t:Nat) (fr:List (Nat×Nat)) (ns:List Nat):List (Nat×Nat):=ns.foldl (fun l n=>ins l (t,n)) fr
theorem zD(t:Nat)(fr:List (Nat×Nat))(ns:List Nat)(n:Nat):aW t fr (ns++[n])=ins (aW t fr ns) (t,n):=by simp[aW]
theorem Rv{a b:List (Nat×Nat)}(h:a.Perm b):(pg a).Perm (pg b):=h.map _
theorem mq{t:Nat}:∀ {ns:List Nat} {fr:List (Nat×Nat)},Sorted fr->(pg fr++ns).Nodup->Sorted (aW t fr ns)/\(pg (aW t fr ns)).Perm (pg fr++ns)/\(aW t fr ns).length=fr.length+ns.length
 | [],fr,hs,hn=>⟨hs,by simp[aW],rfl⟩
 | n::ns,fr,hs,hn=>by
  have hp:(pg (ins fr (t,n))++ns).Perm (pg fr++(n::ns)):=by
   have h1:=Rv (lV fr (t,n));refine(h1.append_right ns).trans ?_;exact(acL (a:=n) (l₁ :=pg fr) (l₂ :=ns)).symm
  have hx:n∉pg fr:=fun h=>(aai.1 hn).2.2 n h n (by simp) rfl;have h2:=mq (t:=t) (ns:=ns) (fr:=ins fr (t,n)) (Ep hs _ (fun h=>hx (abO.2 ⟨_,h,rfl⟩))) (hp.nodup_iff.2 hn);refine⟨h2.1,h2.2.1.trans hp,?_⟩;have:=h2.2.2;rw[Q1]at this;show (aW t (ins fr (t,n)) ns).length=fr.length+(ns.length+1);omega
theorem He{t:Nat}{ms:List Nat}{fr:List (Nat×Nat)}(hs:Sorted fr)(hn:(pg fr++ms).Nodup)(j:Nat)(hj:j<ms.length):
  Sorted (aW t fr (ms.take j))/\(aW t fr (ms.take j)).length=fr.length+j/\ms[j]∉pg (aW t fr (ms.take j))/\aW t fr (ms.take (j+1))=ins (aW t fr (ms.take j)) (t,ms[j]):=by
 have e1:ms.take (j+1)=ms.take j++[ms[j]]:=List.take_succ_eq_append_getElem hj;have gJ:(pg fr++ms.take (j+1)).Nodup:=by
  refine agj ?_ hn;exact List.Sublist.append (agx _) (List.take_sublist _ _)
 rw[e1,<-OF]at gJ;obtain⟨h1,-,h2⟩:=aai.1 gJ;obtain⟨k1,k2,k3⟩:=mq (t:=t) hs h1;refine⟨k1,by rw[k3,abv];omega,fun hm=> ?_,by rw[e1,zD]⟩;exact h2 _ (k2.mem_iff.1 hm) _ (by simp) rfl
theorem sQ{t:Nat}{Q:Nat×Nat->Prop}(ht:∀n,Q (t,n)):∀(ns:List Nat) (fr:List (Nat×Nat)),(∀y∈fr,Q y)->∀y∈aW t fr ns,Q y
 | [],fr,h=>h
 | a::ns,fr,h=>sQ ht ns (ins fr (t,a)) fun y hy=>by
  rcases IT.1 ((lV fr (t,a)).mem_iff.1 hy)with rfl|hy
  ·exact ht a
  ·exact h y hy
theorem sR{t:Nat}:∀(ns:List Nat) (fr:List (Nat×Nat)),((aW t fr ns).filter fun y=>decide (y.1<t)).length=(fr.filter fun y=>decide (y.1<t)).length
 | [],fr=>rfl
 | a::ns,fr=>by
  have h1:=sR (t:=t) ns (ins fr (t,a));have h2:=((lV fr (t,a)).filter fun y=>decide (y.1<t)).length_eq;rw[List.filter_cons_of_neg (by simp)]at h2;exact h1.trans h2
end Fr
namespace Tx
def more (x:Tx) (pc:List Nat):List Nat:=x.aM++(x.loose++pc)
theorem Ok.spare{x:Tx}{limit:Nat}{D:ag}{U pc h:List Nat}(k:x.Ok limit D U pc h):(Fr.pg x.fr++x.more pc).Nodup/\(∀n∈x.more pc,n∉h/\1<=n/\n<x.aa)/\x.fr.length+(x.more pc).length<=x.aa:=by
 obtain⟨dk,h1,h2⟩:=k.perm;have hn:=k.nodup h2;have r:=k.range;obtain⟨a1,a2,a3⟩:=aai.1 hn;obtain⟨b1,b2,b3⟩:=aai.1 a2;obtain⟨c1,c2,c3⟩:=aai.1 b2;obtain⟨d1,d2,d3⟩:=aai.1 c2;obtain⟨e1,e2,e3⟩:=aai.1 d2;have cg:(Fr.pg x.fr++x.more pc).Nodup:=by
  unfold more;refine aai.2 ⟨a1,aai.2 ⟨k.aM,aai.2 ⟨c1,e1,fun a ha b hb=>c3 a ha b (by simp[hb])⟩,fun a ha b hb e=> ?_⟩,fun a ha b hb e=> ?_⟩
  ·subst e
   rcases AT.1 hb with hb|hb
   ·exact c3 a hb a (by simp[k.sub a ha]) rfl
   ·exact d3 a (k.sub a ha) a (by simp[hb]) rfl
  ·subst e
   rcases AT.1 hb with hb|hb
   ·exact a3 a ha a (by simp[k.sub a hb]) rfl
   ·rcases AT.1 hb with hb|hb
    ·exact a3 a ha a (by simp[hb]) rfl
    ·exact a3 a ha a (by simp[hb]) rfl
 have hr:∀n∈x.more pc,n∉h/\1<=n/\n<x.aa:=fun n hn=>by
  unfold more at hn;rcases AT.1 hn with hn|hn
  ·exact⟨fun hh=>d3 n (k.sub n hn) n (by simp[hh]) rfl,r.2.2.2.1 n (k.sub n hn)⟩
  ·rcases AT.1 hn with hn|hn
   ·exact⟨fun hh=>c3 n hn n (by simp[hh]) rfl,r.2.2.1 n hn⟩
   ·exact⟨fun hh=>e3 n hn n hh rfl,r.2.2.2.2.1 n hn⟩
 refine⟨cg,hr,?_⟩;have nT:=Tr.pf x.aa _ cg (fun n hn=>by
  rcases AT.1 hn with hn|hn
  ·have:=r.1 n hn;omega
  ·have:=(hr n hn).2;omega)
 rw[BY]at nT;have vw:(Fr.pg x.fr).length=x.fr.length:=by simp[Fr.pg]
 omega
theorem Ok.laid{x:Tx}{limit:Nat}{D:ag}{U pc h:List Nat}(k:x.Ok limit D U pc h)(t:Nat)(ht:t<=1099511627776):
  ∃P':List Nat,(∀n,n∈P'↔x.book D U n≠none)/\(Fr.pg (Fr.aW t x.fr (x.more pc))++(P'++h)).Perm (iS x.aa)/\Fr.Sorted (Fr.aW t x.fr (x.more pc))/\(∀y∈Fr.aW t x.fr (x.more pc),y.1<=1099511627776):=by
 obtain⟨dk,h1,h2⟩:=k.perm;obtain⟨cg,dv,-⟩:=k.spare;obtain⟨k1,k2,k3⟩:=Fr.mq (t:=t) k.sorted cg;have jr:∀n,x.ax n≠none->n∉U:=fun n hn=>k.apart hn;obtain⟨V,hV1,hV2⟩:∃V,(x.aM++V).Perm U/\∀n,n∈V↔n∈U/\n∉x.aM:=by
  have hU:U.Nodup:=by
   have hn:=k.nodup h2;exact(aai.1 (aai.1 (aai.1 (aai.1 hn).2.1).2.1).2.1).1
  refine⟨U.filter (fun n=> !x.aM.contains n),?_,fun n=>by simp⟩;have ha:(U.filter (fun n=>x.aM.contains n)++U.filter (fun n=> !x.aM.contains n)).Perm U:=List.filter_append_perm _ _;refine adt (aeG _ ?_) ha;refine(List.perm_ext_iff_of_nodup k.aM (agj List.filter_sublist hU)).2 fun n=> ?_;rw[List.mem_filter];constructor
  ·exact fun hn=>⟨k.sub n hn,by simpa using hn⟩
  ·exact fun hn=>by simpa using hn.2
 refine⟨dk++V,fun n=> ?_,?_,k1,fun y hy=> ?_⟩
 ·unfold book
  rw[AT,hV2,h1 n];cases hd:x.ax n with
  | some p=>simp
  | none=>
   simp only[ne_eq,not_true_eq_false,false_or];constructor
   ·intro hc
    rw[if_pos hc];exact k.cF n hc.1
   ·intro hc
    by_cases hb:n∈U/\n∉x.aM
    ·exact hb
    ·rw[if_neg hb]at hc;exact absurd rfl hc
 ·refine adt (aeG _ k2) (adt ?_ h2)
  unfold more;simp only[OF];refine acw _ ?_;have e1:(x.aM++(x.loose++(pc++(dk++(V++h))))).Perm (dk++(x.loose++((x.aM++V)++(pc++h)))):=by
   refine List.perm_iff_count.2 fun a=> ?_;simp only[List.count_append];omega
  refine e1.trans ?_;exact acw _ (acw _ (aeG _ hV1))
 ·have:∀(ns:List Nat) (fr:List (Nat×Nat)),(∀y∈fr,y.1<=1099511627776)->∀y∈Fr.aW t fr ns,y.1<=1099511627776:=by
   intro ns;induction ns with
   | nil=>exact fun fr h=>h
   | cons a ns ih=>
    intro fr h;refine ih (Fr.ins fr (t,a)) (fun y hy=> ?_);rcases IT.1 ((Fr.lV fr (t,a)).mem_iff.1 hy)with rfl|hy
    ·exact ht
    ·exact h y hy
  exact this _ _ k.eQ y hy
end Tx
end Go.Proofs.YtjbcbnemdhbhbaaGreatDoor
