import Derived.Test.YtjbcbnemdhbhbaaGreatDoorA34
import Derived.Test.YtjbcbnemdhbhbaaGreatDoorA42
set_option maxRecDepth 100000
set_option linter.unusedVariables false
set_option linter.unusedSimpArgs false
set_option maxHeartbeats 40000000
open ByteArray renaming empty→abY
open Go renaming Addr→aci,Value→No,World→AI,heap_alloc_new→acw,info_parts→ach,maxLen→abj
open Go.Lib renaming hid→sh
open Go.RowKit renaming Below→IT
open Go.RowKit.Below renaming refl→BY
open Go.Value renaming int→acs,oneCell'→adW,slice→abZ
open Go.World renaming news_of_block→acH,ownsRow_lit→aeg
open Go.World.ownsRow renaming cells→afI,lt→abq
open List renaming drop_of_length_le→acE,filter_append→afg,filter_cons_of_neg→adE,filter_eq_self→aeL,getElem?_append_left→acd,getElem?_append_right→abU,getElem?_eq_getElem→aaG,getElem?_map→acC,length_append→AT,length_drop→abQ,length_pos_iff→acy,length_take→abx,map_append→abI,mem_append→By,mem_map→abK,mem_singleton→IN,pairwise_cons→acX,take_append_drop→abm,take_succ_eq_append_getElem→aaU
open Nat renaming le_refl→AS,le_trans→abw,lt_of_lt_of_le→aal,zero_add→abR,zero_le→abi
open Option.some renaming inj→aek,injEq→acx
namespace Go.Proofs.YtjbcbnemdhbhbaaGreatDoor
open Go.Proofs.Tryz
open Go.RowKit
def cr (n:ByteArray) (L:List En):List Tl3:=L.map fun x=>⟨n,x.cell.key,⟨x.val.toArray⟩⟩
theorem mo(n:ByteArray)(a b:List En):cr n (a++b)=cr n a++cr n b:=abI
theorem fP(n:ByteArray)(a:List En):(cr n a).length=a.length:=List.length_map ..
def Forest.rows (F:Forest):List Tl3:=cr eH (F.tr eH).L++cr eL (F.tr eL).L
theorem Forest.CF(F:Forest):F.rows.length=F.size:=by unfold Forest.rows Forest.size;rw[AT,fP,fP]
theorem Sr:Nd.lt eH eL=true:=by
 unfold Nd.lt eH eL;simp[Op.bytesLess,ByteArray.toList_eq]
theorem DM:Nd.lt eL eH=false:=Nd.lt_asymm Sr
namespace Tr
theorem RN{key:ByteArray}{b:List En}(hr:bj b)(h2:∀y t,b=y::t->Nd.lt y.cell.key key=false):∀x∈rest key b,x.cell.key≠key:=fun x hx e=>by
 have h:=pz hr h2 x hx;rw[e,Nd.lt_irrefl]at h;cases h
end Tr
theorem at_false{n m key k:ByteArray}{v:ByteArray}(h:n≠m\/k≠key):Tl3.at_ m key ⟨n,k,v⟩=false:=by
 unfold Tl3.at_;rcases h with h|h
 ·simp[h]
 ·simp[h]
theorem mF{n m key:ByteArray}(h:n≠m)(L:List En):Tl3.del m key (cr n L)=cr n L:=by
 unfold Tl3.del cr;rw[aeL];intro r hr;obtain⟨x,-,rfl⟩:=abK.1 hr;rw[at_false (.inl h)];rfl
theorem tQ{n key:ByteArray}{L:List En}(hr:Tr.bj L):Tl3.del n key (cr n L)=cr n (Tr.eM key L):=by
 obtain⟨a,b,rfl,h1,h2⟩:=Tr.bl key L;obtain⟨r1,r2,r3⟩:=Tr.eZ hr;rw[Tr.de a b key h1 h2];have bM:∀ {c d:ByteArray},Nd.lt c d=true->c≠d:=fun h e=>by subst e;rw[Nd.lt_irrefl]at h;cases h
 have ha:∀x∈a,Tl3.at_ n key ⟨n,x.cell.key,⟨x.val.toArray⟩⟩=false:=fun x hx=>at_false (.inr (bM (h1 x hx)));have hb:∀x∈Tr.rest key b,Tl3.at_ n key ⟨n,x.cell.key,⟨x.val.toArray⟩⟩=false:=fun x hx=>at_false (.inr (Tr.RN r2 h2 x hx));unfold Tl3.del;rw[mo,afg,mo]
 congr 1
 ·rw[aeL]
  intro r hr;obtain⟨x,hx,rfl⟩:=abK.1 hr;rw[ha x hx];rfl
 ·cases b with
  | nil=>rfl
  | cons y t=>
   simp only[Tr.rest]at hb |-;split at hb
   ·next hk=>
    have hk:y.cell.key=key:=Nd.gD (by simpa using hk);rw[if_pos (by rw[hk];simp)];show List.filter _ (⟨n,y.cell.key,⟨y.val.toArray⟩⟩::cr n t)=cr n t;rw[adE (by simp[Tl3.at_,hk]),aeL];intro r hr;obtain⟨x,hx,rfl⟩:=abK.1 hr;rw[hb x hx];rfl
   ·next hk=>
    rw[if_neg hk,aeL];intro r hr;obtain⟨x,hx,rfl⟩:=abK.1 hr;rw[hb x hx];rfl
theorem xT{n k k' v v':ByteArray}:Tl3.less ⟨n,k,v⟩ ⟨n,k',v'⟩=Nd.lt k k':=by
 unfold Tl3.less;simp[Nd.lt_irrefl]
theorem uL{n m k k' v v':ByteArray}(h:n≠m):Tl3.less ⟨n,k,v⟩ ⟨m,k',v'⟩=Nd.lt n m:=by
 unfold Tl3.less;simp[h]
theorem Oa{F:Forest}{name key:ByteArray}(hn:name=eH\/name=eL)(hr:∀n,Tr.bj (F.tr n).L):cr eH (if eH=name then Tr.eM key (F.tr eH).L else (F.tr eH).L)++cr eL (if eL=name then Tr.eM key (F.tr eL).L else (F.tr eL).L)=Tl3.del name key F.rows:=by
 unfold Forest.rows;have e:Tl3.del name key (cr eH (F.tr eH).L++cr eL (F.tr eL).L)=Tl3.del name key (cr eH (F.tr eH).L)++Tl3.del name key (cr eL (F.tr eL).L):=afg ..;rw[e];rcases hn with rfl|rfl
 ·rw[if_pos rfl,if_neg (fun e=>ep e.symm),tQ (hr _),mF (fun e=>ep e.symm)]
 ·rw[if_pos rfl,if_neg ep,tQ (hr _),mF ep]
theorem Cw{n key:ByteArray}{L:List En}{y:En}(hk:y.cell.key=key)(hr:Tr.bj L)(A B:List Tl3)(hA:∀r∈A,Tl3.less r ⟨n,key,⟨y.val.toArray⟩⟩=true)(hB:∀r∈B,Tl3.less r ⟨n,key,⟨y.val.toArray⟩⟩=false)(hdA:Tl3.del n key A=A)(hdB:Tl3.del n key B=B):
  Tl3.put ⟨n,key,⟨y.val.toArray⟩⟩ (A++(cr n L++B))=A++(cr n (Tr.dB key y L)++B):=by
 have e:Tl3.del n key (A++(cr n L++B))=A++(cr n (Tr.eM key L)++B):=by
  have e1:Tl3.del n key (A++(cr n L++B))=Tl3.del n key A++(Tl3.del n key (cr n L)++Tl3.del n key B):=by
   unfold Tl3.del;rw[afg,afg]
  rw[e1,hdA,hdB,tQ hr]
 unfold Tl3.put;simp only[e];obtain⟨a,b,rfl,h1,h2⟩:=Tr.bl key L;obtain⟨r1,r2,r3⟩:=Tr.eZ hr;rw[Tr.de a b key h1 h2,Tr.eu a b key y h1 h2];have hg:=Tr.pz r2 h2;have e2:A++(cr n (a++Tr.rest key b)++B)=(A++cr n a)++(cr n (Tr.rest key b)++B):=by rw[mo];simp
 obtain⟨s1,s2⟩:=Tl3.vk (p:=fun r=>Tl3.less r ⟨n,key,⟨y.val.toArray⟩⟩) (A++cr n a) (cr n (Tr.rest key b)++B) (fun r hr=>by
  rcases By.1 hr with hr|hr
  ·exact hA r hr
  ·obtain⟨x,hx,rfl⟩:=abK.1 hr
   show Tl3.less _ _=true;rw[xT];exact h1 x hx) (fun z t hz=>by
  cases hc:Tr.rest key b with
  | nil=>
   rw[hc]at hz;exact hB z (by rw[show cr n ([]:List En)++B=B from rfl]at hz;rw[hz];simp)
  | cons x u=>
   rw[hc]at hz;injection hz with pS zi;rw[<-pS,xT];exact Nd.lt_asymm (hg x (by rw[hc];simp)))
 rw[e2,s1,s2,mo,mo];have e3:cr n [y]=[⟨n,key,⟨y.val.toArray⟩⟩]:=by unfold cr;rw[List.map_cons,hk];rfl
 rw[e3];simp
theorem Ob{F:Forest}{name key:ByteArray}{y:En}(hk:y.cell.key=key)(hn:name=eH\/name=eL)(hr:∀n,Tr.bj (F.tr n).L):cr eH (if eH=name then Tr.dB key y (F.tr eH).L else (F.tr eH).L)++cr eL (if eL=name then Tr.dB key y (F.tr eL).L else (F.tr eL).L)=Tl3.put ⟨name,key,⟨y.val.toArray⟩⟩ F.rows:=by
 unfold Forest.rows;rcases hn with rfl|rfl
 ·rw[if_pos rfl,if_neg (fun e=>ep e.symm)]
  have h:=Cw (n:=eH) hk (hr eH) [] (cr eL (F.tr eL).L) (by simp) (fun r hr=>by
   obtain⟨x,hx,rfl⟩:=abK.1 hr;show Tl3.less _ _=false;rw[uL (fun e=>ep e.symm)];exact DM) rfl (mF (fun e=>ep e.symm) _)
  simpa using h.symm
 ·rw[if_pos rfl,if_neg ep]
  have h:=Cw (n:=eL) hk (hr eL) (cr eH (F.tr eH).L) [] (fun r hr=>by
   obtain⟨x,hx,rfl⟩:=abK.1 hr;show Tl3.less _ _=true;rw[uL ep];exact Sr) (by simp) (mF ep _) rfl
  simpa using h.symm
theorem Forest.JK{F:Forest}{name key:ByteArray}{y:En}{t:Tn}(hk:y.cell.key=key)(hn:name=eH\/name=eL)(hr:∀n,Tr.bj (F.tr n).L)(ht:t.L=Tr.dB key y (F.tr name).L):(F.put name t).rows=Tl3.put ⟨name,key,⟨y.val.toArray⟩⟩ F.rows:=by
 rw[<-Ob hk hn hr];unfold Forest.rows;simp only[Forest.uY];rcases hn with rfl|rfl
 ·rw[if_pos rfl,if_neg (fun e=>ep e.symm),if_pos rfl,if_neg (fun e=>ep e.symm),ht]
 ·rw[if_pos rfl,if_neg ep,if_pos rfl,if_neg ep,ht]
theorem Forest.JJ{F:Forest}{name key:ByteArray}{t:Tn}(hn:name=eH\/name=eL)(hr:∀n,Tr.bj (F.tr n).L)(ht:t.L=Tr.eM key (F.tr name).L):(F.put name t).rows=Tl3.del name key F.rows:=by
 rw[<-Oa hn hr];unfold Forest.rows;simp only[Forest.uY];rcases hn with rfl|rfl
 ·rw[if_pos rfl,if_neg (fun e=>ep e.symm),if_pos rfl,if_neg (fun e=>ep e.symm),ht]
 ·rw[if_pos rfl,if_neg ep,if_pos rfl,if_neg ep,ht]
theorem Forest.RP{F:Forest}{name key:ByteArray}(hn:name=eH\/name=eL)(h:∀x∈(F.tr name).L,x.cell.key≠key):Tl3.del name key F.rows=F.rows:=by
 unfold Tl3.del;rw[aeL];intro r hr;unfold Forest.rows at hr;rcases By.1 hr with hr|hr
 ·obtain⟨x,hx,rfl⟩:=abK.1 hr
  rw[at_false];rfl;by_cases e:eH=name
  ·subst e;exact .inr (h x hx)
  ·exact .inl e
 ·obtain⟨x,hx,rfl⟩:=abK.1 hr
  rw[at_false];rfl;by_cases e:eL=name
  ·subst e;exact .inr (h x hx)
  ·exact .inl e
def Oc (r:Tl3):List No:=[.string r.name,.string r.key,.string r.val]
def cH (l:List Tl3):List No:=(l.map Oc).flatten
theorem qo(a b:List Tl3):cH (a++b)=cH a++cH b:=by simp[cH]
theorem oa(x:Tl3)(l:List Tl3):cH (x::l)=Oc x++cH l:=by simp[cH]
theorem ID(x:Tl3):cH [x]=Oc x:=by simp[cH]
theorem mJ:∀l:List Tl3,(cH l).length=l.length*3
 | []=>rfl
 | x::l=>by rw[oa,AT,mJ l,List.length_cons];show 3+_=_;omega
theorem mI:∀(l:List Tl3) (i:Nat) (h:i<l.length) (j:Nat),j<3->(cH l)[i*3+j]? =(Oc l[i])[j]?
 | x::l,0,h,j,hj=>by
  rw[oa,Nat.zero_mul,abR,acd (by show j<3;exact hj)];rfl
 | x::l,i+1,h,j,hj=>by
  rw[oa,abU (by show 3<=_;omega),show (i+1)*3+j-(Oc x).length=i*3+j by show (i+1)*3+j-3=_;omega];exact mI l i (by simpa using h) j hj
theorem ua(l:List Tl3):∀u∈cH l,u.oneCell'=true:=by
 intro u hu;obtain⟨x,hx,hu⟩:=List.mem_flatten.1 hu;obtain⟨e,_,rfl⟩:=abK.1 hx;simp only[Oc,List.mem_cons,List.not_mem_nil,or_false]at hu;rcases hu with rfl|rfl|rfl<;>rfl
def fY (w:AI) (B:Nat) (v:No) (l:List Tl3):Prop:=w.ownsRow B 143 3 v l.length (cH l)
theorem fY.below{w w':AI}{B:Nat}{v:No}{l:List Tl3}(h:fY w B v l)(hb:IT w.heap.size w w'):fY w' B v l:=(ah.af hb []).own h (by simp)
theorem fY.len{w:AI}{B:Nat}{A:Option aci}{n c:Nat}{l:List Tl3}(h:fY w B (.slice A n c) l):n=l.length:=by
 obtain⟨_,_,hv,-,-⟩:=aV h;injection hv
theorem fY.at{w:AI}{B:Nat}{A:Option aci}{n c:Nat}{l:List Tl3}(h:fY w B (.slice A n c) l)(i:Nat)(hi:i<l.length):∃g,A=some ⟨g,0,none⟩/\g<w.heap.size/\w.cell? ⟨g,i*3,none⟩=some (.string l[i].name)/\w.cell? ⟨g,i*3+1,none⟩=some (.string l[i].key)/\w.cell? ⟨g,i*3+2,none⟩=some (.string l[i].val):=by
 obtain⟨_,_,hv,hA,-⟩:=aV h;injection hv with e1 e2 e3;subst e1 e2 e3;obtain⟨g,rfl⟩:=hA (by omega);have hc:=afI h (g:=g) rfl;have ha:∀k,((⟨g,0,none⟩:aci).add k)=⟨g,k,none⟩:=fun k=>by rw[bJ,abR]
 have hg:∀k u,(cH l)[k]? =some u->w.cell? ⟨g,k,none⟩=some u:=fun k u hu=>by rw[<-ha k];exact hc k u hu
 exact⟨g,rfl,(abq h g rfl).2,hg _ _ (mI l i hi 0 (by omega)),hg _ _ (mI l i hi 1 (by omega)),hg _ _ (mI l i hi 2 (by omega))⟩
theorem BS:(prog.info? 143).map (fun i=>(i.zero,i.size,i.bytes))=some (some (.agg #[.string abY,.string abY,.string abY]),3,48):=by kernel_rfl
def sN (l:List Tl3) (w:AI) (e:Ending) (w':AI):Prop:=IT w.heap.size w w'/\∃g c:Nat,e= .returned (.slice (some ⟨g,0,none⟩) l.length c)/\fY w' w.heap.size (.slice (some ⟨g,0,none⟩) l.length c) l
theorem ye(a b:ByteArray):decide (gh a b<0)=Nd.lt a b:=by
 unfold gh;cases h:Nd.lt a b with
 | true=>rfl
 | false=>cases h2:Nd.lt b a<;>rfl
theorem Fu{a b:ByteArray}(h:a=b):gh a b=0:=by subst h;unfold gh;rw[Nd.lt_irrefl];rfl
theorem CE(a b:Tl3)(w:AI)(h1:a.name.size<=1000000)(h2:a.key.size<=1000000):Calls prog 144 #[.agg #[.string a.name,.string a.key,.string a.val],.agg #[.string b.name,.string b.key,.string b.val]] w (fun e w'=>e= .returned (.bool (Tl3.less a b))/\IT w.heap.size w w'):=by
 obtain⟨an,ak,av⟩:=a;obtain⟨bn,bk,bv⟩:=b;simp only at h1 h2 |-;have HN:=sh fun(W:AI)=>yd an bn W h1;have HK:=sh fun(W:AI)=>yd ak bk W h2;obtain⟨r,hr⟩:∃r,r=Tl3.less ⟨an,ak,av⟩ ⟨bn,bk,bv⟩:=⟨_,rfl⟩;rw[<-hr];obtain⟨x,hx⟩:∃x,x=gh an bn:=⟨_,rfl⟩;obtain⟨y,hy⟩:∃y,y=gh ak bk:=⟨_,rfl⟩;rw[<-hx]at HN;rw[<-hy]at HK;have fh:(decide (x<0)=true/\r=true)\/(decide (x<0)=false/\(x==0)=true/\decide (y<0)=r)\/(decide (x<0)=false/\(x==0)=false/\r=false):=by
  have hxn:decide (x<0)=Nd.lt an bn:=by rw[hx];exact ye _ _
  have hyn:decide (y<0)=Nd.lt ak bk:=by rw[hy];exact ye _ _
  rcases Nd.iJ an bn with h|h|h
  ·exact .inl ⟨hxn.trans h,by rw[hr];unfold Tl3.less;simp[h]⟩
  ·refine .inr (.inl ⟨?_,by rw[hx,Fu h];rfl,?_⟩)
   ·rw[hxn,h,Nd.lt_irrefl]
   ·rw[hyn,hr,h];unfold Tl3.less;simp[Nd.lt_irrefl]
  ·have h9:Nd.lt an bn=false:=Nd.lt_asymm h
   have h8:an≠bn:=fun e=>by rw[e,Nd.lt_irrefl]at h;cases h
   refine .inr (.inr ⟨hxn.trans h9,?_,?_⟩)
   ·have:x=1:=by rw[hx];unfold gh;rw[h9,h];rfl
    rw[this];rfl
   ·rw[hr];unfold Tl3.less;simp[h9,h8]
 clear hx hy hr;rcases fh with⟨z1,rfl⟩|⟨z1,z2,z3⟩|⟨z1,z2,rfl⟩;all_goals
  go_enter func144,ntmps144
  go_wp2_with fail
  refine(HN.out _).mono ?_;rintro e w1 ⟨rfl,ar⟩;have mL:=ae ((Bk.new w 143 #[.string an,.string ak,.string av]).alloc (.cells #[.string bn,.string bk,.string bv] 143)) ar;have dy:=ae (show Bk ((w.alloc (.cells #[.string an,.string ak,.string av] 143)).alloc (.cells #[.string bn,.string bk,.string bv] 143)) (w.heap.size+1) 143 #[.string bn,.string bk,.string bv] from by have h:=Bk.new (w.alloc (.cells #[.string an,.string ak,.string av] 143)) 143 #[.string bn,.string bk,.string bv];simpa using h) ar;have HB:=sh ((((BY _ w).alloc (AS _) (.cells #[.string an,.string ak,.string av] 143)).alloc (by simp) (.cells #[.string bn,.string bk,.string bv] 143)).trans (ar.mono (by simp;omega)));have q1:w1.cell? ⟨w.heap.size,1,none⟩=some (.string ak):=mL.cell 1;have q2:w1.cell? ⟨w.heap.size+1,1,none⟩=some (.string bk):=dy.cell 1;have l1:=mL.lt;have l2:=dy.lt;clear ar mL dy;go_wp2_with fail
 ·go_ret
  exact⟨rfl,HB.out⟩
 ·refine(HK.out _).mono ?_
  rintro e w2 ⟨rfl,aC⟩;have bm:=sh (HB.out.trans (aC.mono HB.out.size));clear aC;go_wp2_with fail
  go_ret
  exact⟨rfl,bm.out⟩
 ·go_ret
  exact⟨rfl,HB.out⟩
theorem fY.iy{w:AI}{B m:Nat}{v:No}{l:List Tl3}(h:fY w B v l)(hm:m=l.length)(o:Obj):(w.alloc o).ownsRow B 143 3 v m (cH l):=by
 subst hm;exact h.below ((BY _ w).alloc (AS _) o)
theorem mg{w:AI}{B n s c:Nat}{A:Option aci}{e:TypeId}{xs:List No}(h:w.ownsRow B e s (.slice A n c) n xs)(h0:0<n):∃g,A=some ⟨g,0,none⟩:=by
 obtain⟨_,_,hv,hA,-⟩:=aV h;injection hv with e1 e2 e3;subst e1;exact hA (by omega)
theorem fY.NR{w:AI}{B m:Nat}{v:No}{l:List Tl3}(h:fY w B v l)(hm:m=l.length):w.ownsRow B 143 3 v m (cH l):=by
 subst hm;exact h
theorem uW{w:AI}{base lD n s:Nat}{e:TypeId}{v:No}{xs:List No}(h:w.ownsRow base e s v n xs)(hb:lD<=base):w.ownsRow lD e s v n xs:=by
 obtain⟨h1,h2⟩:=h;refine⟨h1,?_⟩;rcases h2 with h2|⟨g,cap,cur,a,b,r⟩
 ·exact .inl h2
 ·exact .inr ⟨g,cap,cur,a,abw hb b,r⟩
structure Rg (w:AI) (v:No) (l:List Tl3) (wr:AI):Prop where
 own:fY wr w.heap.size v l
 below:IT w.heap.size w wr
theorem Rg.next{w wr w2:AI}{A A2:Option aci}{m c c2:Nat}{l l':List Tl3}{x:Tl3}{o:Obj}(h:Rg w (.slice A m c) l wr)(hm:m=l.length)(hl:l'=l++[x])(ho:w2.ownsRow w.heap.size 143 3 (.slice A2 (m+1) c2) (m+1) (cH l++Oc x))(hg:(wr.alloc o).grownBy w2 (abZ A m c).ownBlock):m+1=l'.length/\Rg w (.slice A2 (m+1) c2) l' w2:=by
 subst hm hl;refine⟨by simp,?_,?_⟩
 ·unfold fY
  rw[qo,ID,AT];exact ho
 ·exact((ah.af (h.below.alloc h.below.size o) []).grown hg (fun g hg=> .inr (abq h.own g hg).1)).below (AS _) (by simp)
theorem LM{name key:ByteArray}{l:List Tl3}{j:Nat}(h:j<l.length):Tl3.del name key (l.take (j+1))=Tl3.del name key (l.take j)++(if Tl3.at_ name key l[j]=true then []else [l[j]]):=by
 unfold Tl3.del;rw[aaU h,afg];cases hc:Tl3.at_ name key l[j]with
 | true=>rw[adE (by simp[hc])];rfl
 | false=>rw[List.filter_cons_of_pos (by simp[hc])];rfl
theorem vf{w:AI}{B:Nat}{A:Option aci}{n c:Nat}{l:List Tl3}(h:fY w B (.slice A n c) l)(hl:l.length<=10000)(name key:ByteArray):
  Calls prog 83 #[.slice A n c,.string name,.string key] w (sN (Tl3.del name key l) w):=by
 obtain rfl:=h.len;obtain⟨i0,hi,ez,dP,eh⟩:=ach BS;have HP:=sh h;clear h;have oE:=sh (show Rg w (.slice (some ⟨w.heap.size,0,none⟩) 0 0) (Tl3.del name key (l.take 0)) (w.alloc (.cells #[] 143)) from ⟨aeg w #[] 0 (AS _) (by unfold abj;omega) rfl,(BY _ w).alloc (AS _) _⟩);go_enter func83,ntmps83
 go_wp2_with fail
 go_loopw [7,8] (fun ov iv wr=>∃(j m g':Nat) (c':Nat),iv= .int .i64 j/\j<=l.length/\ov= .slice (some ⟨g',0,none⟩) m c'/\m<=j/\Hid (m=(Tl3.del name key (l.take j)).length/\Rg w (.slice (some ⟨g',0,none⟩) m c') (Tl3.del name key (l.take j)) wr)) (fun _ iv _=>l.length-(intOf iv).toNat)
 case atStart=>exact⟨0,0,_,_,rfl,abi _,rfl,AS _,sh ⟨rfl,oE.out⟩⟩
 case round=>
  obtain⟨j,m,g',c',rfl,hj,rfl,hm,HR⟩:=hrel;obtain⟨A',na⟩:∃A':Option aci,A'=some ⟨g',0,none⟩:=⟨_,rfl⟩;rw[<-na]at HR |-;have HAG:=sh na;clear na;by_cases aH:j<l.length
  ·have z1:decide ((j:Int)<(l.length:Int))=true:=decide_eq_true (by omega)
   obtain⟨g,rfl,lg,q0,q1,q2⟩:=(HP.out.below HR.out.2.below).at j aH;obtain⟨nm,sr⟩:∃nm,nm=l[j].name:=⟨_,rfl⟩;obtain⟨ky,Mt⟩:∃ky,ky=l[j].key:=⟨_,rfl⟩;obtain⟨vl,EJ⟩:∃vl,vl=l[j].val:=⟨_,rfl⟩;rw[<-sr]at q0;rw[<-Mt]at q1;rw[<-EJ]at q2;have nC:=LM (name:=name) (key:=key) aH;have bd:l[j]=⟨nm,ky,vl⟩:=by rw[sr,Mt,EJ]
   rw[bd]at nC;have fJ:Sl wr (some ⟨g,j*3,none⟩) (Oc ⟨nm,ky,vl⟩):=fun i u hu=>by
    have Xp:i<3:=(List.getElem?_eq_some_iff.1 hu).1;refine⟨g,j*3,rfl,lg,?_⟩
    match i,Xp with
    | 0,_=>simp[Oc]at hu;rw[<-hu];exact q0
    | 1,_=>simp[Oc]at hu;rw[<-hu];exact q1
    | 2,_=>simp[Oc]at hu;rw[<-hu];exact q2
   clear fJ sr Mt EJ bd oE;have fh:((nm.toList==name.toList)=true/\(ky.toList==key.toList)=true/\Tl3.at_ name key ⟨nm,ky,vl⟩=true)\/((nm.toList==name.toList)=true/\(ky.toList==key.toList)=false/\Tl3.at_ name key ⟨nm,ky,vl⟩=false)\/((nm.toList==name.toList)=false/\Tl3.at_ name key ⟨nm,ky,vl⟩=false):=by
    have e1:∀a b:ByteArray,(a.toList==b.toList)=decide (a=b):=fun a b=>by
     by_cases h:a=b
     ·subst h;simp
     ·rw[decide_eq_false h]
      rw[beq_eq_false_iff_ne];exact fun e=>h (Nd.gD e)
    unfold Tl3.at_;rw[e1,e1];by_cases h1:nm=name<;>by_cases h2:ky=key<;>simp[h1,h2]
   rcases fh with⟨e1,e2,e3⟩|⟨e1,e2,e3⟩|⟨e1,e3⟩
   ·rw[if_pos e3,List.append_nil]at nC
    have HN:=sh (show m=(Tl3.del name key (l.take (j+1))).length/\Rg w (.slice A' m c') (Tl3.del name key (l.take (j+1))) wr by rw[nC];exact HR.out);clear nC e3;go_wp2_with fail
    go_roundw
    case rel=>exact⟨j+1,m,g',c',by go_num,by omega,by rw[HAG.out],by omega,by rw[<-HAG.out];exact HN⟩
    case measure=>simp[intOf];omega
   all_goals
    rw[if_neg (by rw[e3];simp)]at nC;have nA:=sh nC;clear nC e3;go_wp2_with (first
     | (at_builtin;refine bq _ rfl (.tmp 32) (.tmp 37) 31 rfl w.heap.size 143 i0 _ 3 48 underlying31 hi ez dP eh rfl (by omega) (.slice A' m c') m (cH (Tl3.del name key (l.take j))) rfl ((show fY wr w.heap.size (.slice A' m c') (Tl3.del name key (l.take j)) from HR.out.2.own).iy HR.out.1 _) (some ⟨wr.heap.size,0,none⟩) 1 1 [.string nm,.string ky,.string vl] rfl rfl (fun hh=>by cases hh) (fun ad od=>by
       injection od with od;subst od;exact acH (cs:= #[.string nm,.string ky,.string vl]) (acw wr _)) (by simp[adW]) (by unfold abj;omega) (by omega) (by have:=HR.out.2.below.size;simp;omega) ?_;intro A2 c2 w2 aU fI;obtain⟨g2,ra⟩:=mg aU (by omega);have Sa:=sh ra;have HN:=sh (HR.out.2.next HR.out.1 nA.out aU fI);clear aU fI ra)
     | fail)
    go_roundw
    case rel=>exact⟨j+1,m+1,g2,c2,by go_num,by omega,by rw[Sa.out],by omega,by rw[<-Sa.out];exact HN⟩
    case measure=>simp[intOf];omega
  ·have z1:decide ((j:Int)<(l.length:Int))=false:=decide_eq_false (by omega)
   obtain rfl:j=l.length:=by omega
   have HE:=sh (show sN (Tl3.del name key l) w (.returned (.slice A' m c')) wr from by
    have h9:=HR.out;rw[List.take_length]at h9;obtain⟨h8,h7⟩:=h9;subst h8;exact⟨h7.below,g',c',by rw[HAG.out],by rw[<-HAG.out];exact h7.own⟩)
   clear HR oE;go_wp2_with fail
   go_ret
   exact HE.out
theorem fY.parts{w:AI}{B:Nat}{A:Option aci}{n c:Nat}{l:List Tl3}(h:fY w B (.slice A n c) l)(i:Nat)(hi:i<=l.length):∀g,A=some ⟨g,0,none⟩->∀j u,(cH (l.drop i))[j]? =some u->w.cell? ((⟨g,i*3,none⟩:aci).add j)=some u:=by
 intro g hA j u hu;subst hA;have hc:=afI h (g:=g) rfl (i*3+j) u (by
  have e:l=l.take i++l.drop i:=(abm i l).symm;have hl:(cH (l.take i)).length=i*3:=by rw[mJ,abx];omega
  rw[e,qo,abU (by omega),hl,Nat.add_sub_cancel_left];exact hu)
 rw[bJ]at hc |-
 rwa [abR]at hc
theorem NO{w:AI}{B n c s:Nat}{A:Option aci}{e:TypeId}{xs:List No}(h:w.ownsRow B e s (.slice A n c) n xs):n<=c:=by
 rcases h.2 with⟨h0,h1⟩|⟨g',DO,cur,hv,hg,hh,vI,_⟩
 ·omega
 ·cases hv;exact vI
theorem NP{w:AI}{B:Nat}{A:Option aci}{n c:Nat}{l:List Tl3}(h:fY w B (.slice A n c) l):l.length<=c/\c<=abj:=by
 obtain⟨A',c',hv,-,h3⟩:=aV h;injection hv with e1 e2 e3;subst e1 e2 e3;exact⟨NO h,h3⟩
theorem FA{w:AI}{B:Nat}{A:Option aci}{n c:Nat}{l:List Tl3}(h:fY w B (.slice A n c) l)(hl:l.length<=1000)(cZ:∀r∈l,r.name.size<=1000000/\r.key.size<=1000000)(x:Tl3):
  Calls prog 84 #[.slice A n c,.agg #[.string x.name,.string x.key,.string x.val]] w (sN (Tl3.put x l) w):=by
 obtain⟨i0,hi,ez,dP,eh⟩:=ach BS;obtain⟨xn,xk,xv⟩:=x;simp only;have HD:=sh (vf (w:=w.alloc (.cells #[.string xn,.string xk,.string xv] 143)) (h.below ((BY _ w).alloc (AS _) _)) (by omega) xn xk);obtain⟨d,hd⟩:∃d,d=Tl3.del xn xk l:=⟨_,rfl⟩;have Gs:d.length<=1000:=by rw[hd];exact abw (Tl3.Qm _ _ _) hl
 have hds:∀r∈d,r.name.size<=1000000/\r.key.size<=1000000:=fun r hr=>by rw[hd]at hr;exact cZ r (List.mem_filter.1 hr).1
 have HDS:=sh hds;have W9:=sh (show Tl3.put ⟨xn,xk,xv⟩ l=d.takeWhile (fun r=>Tl3.less r ⟨xn,xk,xv⟩)++(⟨xn,xk,xv⟩::d.dropWhile (fun r=>Tl3.less r ⟨xn,xk,xv⟩)) from by rw[hd];rfl);rw[<-hd]at HD;clear h hl cZ hd hds;go_enter func84,ntmps84
 go_wp2_with fail
 refine HD.out.mono ?_;rintro e w1 ⟨ar,g1,c1,rfl,gK⟩;obtain⟨A1,UQ⟩:∃A1:Option aci,A1=some ⟨g1,0,none⟩:=⟨_,rfl⟩;rw[<-UQ]at gK |-;have yw:=sh UQ;clear UQ;have Pz:=ae (Bk.new w 143 #[.string xn,.string xk,.string xv]) ar;have Ks:IT w.heap.size w w1:=((BY _ w).alloc (AS _) (.cells #[.string xn,.string xk,.string xv] 143)).trans (ar.mono (by simp));obtain⟨ahS,SE⟩:=NP gK;have cI:c1<=9223372036854775807:=by unfold abj at SE;omega
 have HX1:=sh Pz;have bh:=sh Ks;have hJ:=sh gK;have oE:=sh (show Rg w1 (.slice (some ⟨w1.heap.size,0,none⟩) 0 0) (d.take 0) (w1.alloc (.cells #[] 143)) from ⟨aeg w1 #[] 0 (AS _) (by unfold abj;omega) rfl,(BY _ w1).alloc (AS _) _⟩);clear ar gK Pz Ks SE
 go_upto_block 0 with fail
 go_cut [5,6] (fun ov iv wx=>∃(j:Nat) (A':Option aci) (c':Nat),iv= .int .i64 j/\j<=d.length/\ov= .slice A' j c'/\Hid (Rg w1 (.slice A' j c') (d.take j) wx/\(∀r∈d.take j,Tl3.less r ⟨xn,xk,xv⟩=true)/\∀hh:j<d.length,Tl3.less d[j] ⟨xn,xk,xv⟩=false))
 case first=>
  go_wp2_with fail
  go_loopw [5,6] (fun ov iv wr=>∃(j:Nat) (A':Option aci) (c':Nat),iv= .int .i64 j/\j<=d.length/\ov= .slice A' j c'/\Hid (Rg w1 (.slice A' j c') (d.take j) wr/\∀r∈d.take j,Tl3.less r ⟨xn,xk,xv⟩=true)) (fun _ iv _=>d.length-(intOf iv).toNat)
  case atStart=>exact⟨0,_,_,rfl,abi _,rfl,sh ⟨oE.out,by simp⟩⟩
  case round=>
   obtain⟨j,A',c',rfl,hj,rfl,HR⟩:=hrel;by_cases aH:j<d.length
   ·have z1: decide ((j:Int)<(d.length:Int))=true:=decide_eq_true (by omega)
    obtain⟨g,UQ,lg,q0,q1,q2⟩:=(hJ.out.below HR.out.1.below).at j aH;subst UQ;obtain⟨y,hy⟩:∃y,y=d[j]:=⟨_,rfl⟩;have hys:=HDS.out d[j] (List.getElem_mem aH);rw[<-hy]at q0 q1 q2 hys;have dY:d.take (j+1)=d.take j++[y]:=by rw[hy];exact aaU aH
    have HY:=sh hy;obtain⟨nm,ky,vl⟩:=y;simp only at q0 q1 q2 hys;obtain⟨q,hq⟩:∃q,q=Tl3.less ⟨nm,ky,vl⟩ ⟨xn,xk,xv⟩:=⟨_,rfl⟩;have HLS:=sh fun(W:AI)=>(show Calls prog 144 #[.agg #[.string nm,.string ky,.string vl],.agg #[.string xn,.string xk,.string xv]] W (fun e w'=>e= .returned (.bool q)/\IT W.heap.size W w') from by rw[hq];exact CE ⟨nm,ky,vl⟩ ⟨xn,xk,xv⟩ W hys.1 hys.2);have EM:=ae HX1.out HR.out.1.below;have qQ:=sh dY;have HQ:=sh hq;have M7:=EM.lt;have bD:=sh (show ∀W,IT wr.heap.size wr W->W.cell? ⟨g,j*3,none⟩=some (.string nm)/\W.cell? ⟨g,j*3+1,none⟩=some (.string ky)/\W.cell? ⟨g,j*3+2,none⟩=some (.string vl)/\W.cell? ⟨w.heap.size,0,none⟩=some (.string xn)/\W.cell? ⟨w.heap.size,1,none⟩=some (.string xk)/\W.cell? ⟨w.heap.size,2,none⟩=some (.string xv) from fun W hW=>⟨(hW.cell (p:=⟨g,j*3,none⟩) lg).trans q0,(hW.cell (p:=⟨g,j*3+1,none⟩) lg).trans q1,(hW.cell (p:=⟨g,j*3+2,none⟩) lg).trans q2,(ae EM hW).cell 0,(ae EM hW).cell 1,(ae EM hW).cell 2⟩);have XK:=sh ((BY wr.heap.size wr).drew);clear dY hy hq hys EM oE q0 q1 q2;go_wp2_with fail
    go_region_held3 (fun W=>W.cell? ⟨g,j*3,none⟩=some (.string nm)/\W.cell? ⟨g,j*3+1,none⟩=some (.string ky)/\W.cell? ⟨g,j*3+2,none⟩=some (.string vl)/\W.cell? ⟨w.heap.size,0,none⟩=some (.string xn)/\W.cell? ⟨w.heap.size,1,none⟩=some (.string xk)/\W.cell? ⟨w.heap.size,2,none⟩=some (.string xv)) (first|(with_reducible exact bD.out _ XK.out)|(with_reducible exact bD.out _ bR.out)) (first
     | (go_at_call 144;(with_reducible refine(HLS.out _).mono ?_);rintro e w2 ⟨rfl,aC⟩;have bR:=sh (XK.out.trans aC);clear aC)
     | fail)
    all_goals
     have gY:=sh (show Rg w1 (.slice A' j c') (d.take j) w2/\∀r∈d.take j,Tl3.less r ⟨xn,xk,xv⟩=true from ⟨⟨HR.out.1.own.below bR.out,HR.out.1.below.trans (bR.out.mono HR.out.1.below.size)⟩,HR.out.2⟩);obtain⟨y0,y1,y2,-⟩:=bD.out _ bR.out;have lg2:g<w2.heap.size:=aal lg bR.out.size;have Mq:(d.take j).length=j:=by rw[abx];omega
     have XZ:=sh Mq;clear Mq;cases q with
     | true=>
      have OR:=sh (show ∀r∈d.take (j+1),Tl3.less r ⟨xn,xk,xv⟩=true from fun r hr=>by
       rw[qQ.out]at hr;rcases By.1 hr with hr|hr
       ·exact HR.out.2 r hr
       ·rw[IN]at hr
        rw[hr];exact HQ.out.symm)
      go_wp2_with (first
       | (at_builtin;refine bq _ rfl (.tmp 26) (.tmp 31) 31 rfl w1.heap.size 143 i0 _ 3 48 underlying31 hi ez dP eh rfl (by omega) (.slice A' j c') j (cH (d.take j)) rfl (gY.out.1.own.iy XZ.out.symm _) (some ⟨w2.heap.size,0,none⟩) 1 1 [.string nm,.string ky,.string vl] rfl rfl (fun hh=>by cases hh) (fun ad od=>by
         injection od with od;subst od;exact acH (cs:= #[.string nm,.string ky,.string vl]) (acw w2 _)) (by simp[adW]) (by unfold abj;omega) (by omega) (by have:=gY.out.1.below.size;simp;omega) ?_;intro A2 c2 w3 ax aQ;have iR:=sh (gY.out.1.next XZ.out.symm qQ.out ax aQ);clear ax aQ)
       | fail)
      go_roundw
      case rel=>exact⟨j+1,A2,c2,by go_num,by omega,rfl,sh ⟨iR.out.2,OR.out⟩⟩
      case measure=>simp[intOf];omega
     | false=>
      have HE:=sh (show ∃(j':Nat) (XF:Option aci) (Y2:Nat),(acs .i64 (j:Int))= .int .i64 j'/\j'<=d.length/\abZ A' j c'= .slice XF j' Y2/\Hid (Rg w1 (.slice XF j' Y2) (d.take j') w2/\(∀r∈d.take j',Tl3.less r ⟨xn,xk,xv⟩=true)/\∀hh:j'<d.length,Tl3.less d[j'] ⟨xn,xk,xv⟩=false) from
       ⟨j,A',c',rfl,hj,rfl,sh ⟨gY.out.1,gY.out.2,fun hh=>by rw[<-HY.out];exact HQ.out.symm⟩⟩)
      go_wp2_with fail
      go_meet
      exact HE.out
   ·have z1:decide ((j:Int)<(d.length:Int))=false:=decide_eq_false (by omega)
    have HE:=sh (show ∀nq,∃(j':Nat) (XF:Option aci) (Y2:Nat),(acs .i64 (j:Int))= .int .i64 j'/\j'<=d.length/\abZ A' j c'= .slice XF j' Y2/\Hid (Rg w1 (.slice XF j' Y2) (d.take j') (wr.drewN nq)/\(∀r∈d.take j',Tl3.less r ⟨xn,xk,xv⟩=true)/\∀hh:j'<d.length,Tl3.less d[j'] ⟨xn,xk,xv⟩=false) from
     fun nq=>⟨j,A',c',rfl,hj,rfl,sh ⟨⟨HR.out.1.own.below (below_drewN (BY _ _) _),below_drewN HR.out.1.below _⟩,HR.out.2,fun hh=>absurd hh aH⟩⟩)
    clear HR oE;go_wp2_with fail
    go_quiet (fail)
    go_wp2_with fail
    go_meet
    exact HE.out _
 case rest=>
  obtain⟨j,A',c',rfl,hj,rfl,HR⟩:=hcut;have EM:=ae HX1.out HR.out.1.below;have x0:=EM.cell 0;have x1:=EM.cell 1;have x2:=EM.cell 2;have lx:=EM.lt;have XZ:=sh (show (d.take j).length=j by rw[abx];omega);have YM:=sh (show Tl3.put ⟨xn,xk,xv⟩ l=d.take j++[⟨xn,xk,xv⟩]++d.drop j from by
   obtain⟨s1,s2⟩:=Tl3.vk (p:=fun r=>Tl3.less r ⟨xn,xk,xv⟩) (d.take j) (d.drop j) HR.out.2.1 (fun z t hz=>by
    have Mq:j<d.length:=by
     by_cases h9:j<d.length
     ·exact h9
     ·rw[acE (by omega)]at hz;cases hz
    rw[List.drop_eq_getElem_cons Mq]at hz;injection hz with pS zi;rw[<-pS];exact HR.out.2.2 Mq)
   rw[abm]at s1 s2;rw[W9.out,s1,s2];simp)
  have y1:(j:Int)<=(c1:Int):=by omega
  have y2:(0:Int)<=(j:Int):=by omega
  have y5:(j:Int)<=(d.length:Int):=by omega
  have y6:(d.length:Int)<=(c1:Int):=by omega
  have nA:=sh (show d.take j++[⟨xn,xk,xv⟩]=d.take j++[⟨xn,xk,xv⟩] from rfl);clear EM oE;obtain rfl:=yw.out;have HDR:=sh (show ∀(W:AI),fY W (w.alloc (.cells #[.string xn,.string xk,.string xv] 143)).heap.size (.slice (some ⟨g1,0,none⟩) d.length c1) d->∀ad,some (⟨g1,j*3,none⟩:aci)=some ad->∀jj u,(cH (d.drop j))[jj]? =some u->W.cell? (ad.add jj)=some u from fun W hW ad od jj u hu=>by
   injection od with od;rw[<-od];exact hW.parts j hj g1 rfl jj u hu)
  have KN:=sh (show ∀(W:AI),d.length<=j->∀(ad a0:aci),some a0=some ad->∀jj u,(cH (d.drop j))[jj]? =some u->W.cell? (ad.add jj)=some u from fun W he ad a0 od jj u hu=>by
   rw[acE he]at hu;simp[cH]at hu)
  have Vx:(j=c1/\d.length=j)\/(j≠c1):=by omega
  have F2:=sh HR.out.1.below;have Hr:=sh (show ∀(m:Nat) (A3:Option aci) (c3:Nat) (w3:AI) (g4 c4:Nat) (w4:AI),j+m=d.length->Rg w1 (.slice A3 (j+1) c3) (d.take j++[⟨xn,xk,xv⟩]) w3->w4.ownsRow w1.heap.size 143 3 (.slice (some ⟨g4,0,none⟩) (j+1+m) c4) (j+1+m) (cH (d.take j++[⟨xn,xk,xv⟩])++cH (d.drop j))->w3.grownBy w4 (abZ A3 (j+1) c3).ownBlock->sN (Tl3.put ⟨xn,xk,xv⟩ l) w (.returned (.slice (some ⟨g4,0,none⟩) (j+1+m) c4)) w4 from fun m A3 c3 w3 g4 c4 w4 hm h3 h4 hg=>by
   have KC:(Tl3.put ⟨xn,xk,xv⟩ l).length=j+1+m:=by rw[YM.out];simp;omega
   refine⟨bh.out.trans ((((ah.af h3.below []).grown hg (fun g' sk=> .inr (abq h3.own g' sk).1)).below (AS _) (by simp)).mono bh.out.size),g4,c4,by rw[KC],?_⟩;unfold fY;rw[KC,YM.out,qo];exact uW h4 bh.out.size)
  rcases Vx with⟨rfl,hdj⟩|Vx;all_goals
   go_wp2_with (first
    | (at_builtin;refine bq _ rfl (.tmp 35) (.tmp 37) 31 rfl w1.heap.size 143 i0 _ 3 48 underlying31 hi ez dP eh rfl (by omega) (.slice A' j c') j (cH (d.take j)) rfl (HR.out.1.own.iy XZ.out.symm _) (some ⟨wc.heap.size,0,none⟩) 1 1 [.string xn,.string xk,.string xv] rfl rfl (fun hh=>by cases hh) (fun ad od=>by
       injection od with od;subst od;exact acH (cs:= #[.string xn,.string xk,.string xv]) (acw wc _)) (by simp[adW]) (by unfold abj;omega) (by omega) (by have:=F2.out.size;simp;omega) ?_;intro A3 c3 w3 ax aQ;have iR:=sh (HR.out.1.next XZ.out.symm (x:=⟨xn,xk,xv⟩) rfl ax aQ);clear ax aQ)
    | (at_builtin;refine bq _ rfl (.tmp 39) (.tmp 42) 31 rfl w1.heap.size 143 i0 _ 3 48 underlying31 hi ez dP eh rfl (by omega) (.slice A3 (j+1) c3) (j+1) (cH (d.take j++[⟨xn,xk,xv⟩])) rfl (iR.out.2.own.NR iR.out.1) _ (d.length-j) _ (cH (d.drop j)) rfl (by rw[mJ,abQ]<;>omega) (fun hh=>by cases hh) (HDR.out w3 (hJ.out.below iR.out.2.below)) (ua _) (by unfold abj;omega) (by omega) (by have:=iR.out.2.below.size;omega) ?_;intro A4 c4 w4 cd dg;obtain⟨g4,rfl⟩:=mg cd (by omega);have WW:=sh (Hr.out (d.length-j) A3 c3 w3 g4 c4 w4 (by omega) iR.out.2 cd dg);clear cd dg)
    | (at_builtin;refine bq _ rfl (.tmp 39) (.tmp 42) 31 rfl w1.heap.size 143 i0 _ 3 48 underlying31 hi ez dP eh rfl (by omega) (.slice A3 (j+1) c3) (j+1) (cH (d.take j++[⟨xn,xk,xv⟩])) rfl (iR.out.2.own.NR iR.out.1) _ (0) _ (cH (d.drop j)) rfl (by rw[mJ,abQ]<;>omega) (fun hh=>by cases hh) (fun ad od=>KN.out w3 (by omega) ad _ od) (ua _) (by unfold abj;omega) (by omega) (by have:=iR.out.2.below.size;omega) ?_;intro A4 c4 w4 cd dg;obtain⟨g4,rfl⟩:=mg cd (by omega);have WW:=sh (Hr.out (0) A3 c3 w3 g4 c4 w4 (by omega) iR.out.2 cd dg);clear cd dg)
    | fail)
   go_ret
   exact WW.out
def yl (l:List ByteArray):List No:=l.map fun n=> .string n
def namesTo (l:List Tl3):Nat->List ByteArray
 | 0=>[]
 | j+1=>match l[j]? with
  | none=>namesTo l j
  | some r=>if j=0 then [r.name]else if (l[j-1]?.map (·.name))=some r.name then namesTo l j else namesTo l j++[r.name]
theorem Je:(prog.info? 9).map (fun i=>(i.zero,i.size,i.bytes))=some (some (.string abY),1,16):=by kernel_rfl
structure Sg (w:AI) (v:No) (l:List ByteArray) (wr:AI):Prop where
 own:wr.ownsRow w.heap.size 9 1 v l.length (yl l)
 below:IT w.heap.size w wr
theorem Sg.iy{w wr:AI}{m:Nat}{v:No}{l:List ByteArray}(h:Sg w v l wr)(hm:m=l.length)(o:Obj):(wr.alloc o).ownsRow w.heap.size 9 1 v m (yl l):=by
 subst hm;exact(ah.af ((BY _ wr).alloc (AS _) o) []).own h.own (by simp)
theorem Sg.under{w wr wq:AI}{v:No}{l:List ByteArray}(h:Sg w v l wr)(hb:IT wr.heap.size wr wq):Sg w v l wq:=⟨(ah.af hb []).own h.own (by simp),h.below.trans (hb.mono h.below.size)⟩
theorem Sg.next{w wr w2:AI}{A A2:Option aci}{m c c2:Nat}{l l':List ByteArray}{x:ByteArray}{o:Obj}(h:Sg w (.slice A m c) l wr)(hm:m=l.length)(hl:l'=l++[x])(ho:w2.ownsRow w.heap.size 9 1 (.slice A2 (m+1) c2) (m+1) (yl l++[.string x]))(hg:(wr.alloc o).grownBy w2 (abZ A m c).ownBlock):m+1=l'.length/\Sg w (.slice A2 (m+1) c2) l' w2:=by
 subst hm hl;refine⟨by simp,?_,?_⟩
 ·unfold yl
  rw[abI,AT];exact ho
 ·exact((ah.af (h.below.alloc h.below.size o) []).grown hg (fun g hg=> .inr (abq h.own g hg).1)).below (AS _) (by simp)
theorem Fv{w:AI}{B:Nat}{A:Option aci}{n c:Nat}{l:List Tl3}(h:fY w B (.slice A n c) l)(hl:l.length<=10000):
  Calls prog 32 #[.slice A n c] w (fun e w'=>∃g c':Nat,e= .returned (.slice (some ⟨g,0,none⟩) (namesTo l l.length).length c')/\Sg w (.slice (some ⟨g,0,none⟩) (namesTo l l.length).length c') (namesTo l l.length) w'):=by
 obtain rfl:=h.len;obtain⟨i0,hi,ez,dP,eh⟩:=ach Je;have HP:=sh h;clear h;have oE:=sh (show Sg w (.slice (some ⟨w.heap.size,0,none⟩) 0 0) (namesTo l 0) (w.alloc (.cells #[] 9)) from ⟨aeg w #[] 0 (AS _) (by unfold abj;omega) rfl,(BY _ w).alloc (AS _) _⟩);go_enter func32,ntmps32
 go_wp2_with fail
 go_loopw [3,4] (fun ov iv wr=>∃(j m g':Nat) (c':Nat),iv= .int .i64 j/\j<=l.length/\ov= .slice (some ⟨g',0,none⟩) m c'/\m<=j/\Hid (m=(namesTo l j).length/\Sg w (.slice (some ⟨g',0,none⟩) m c') (namesTo l j) wr)) (fun _ iv _=>l.length-(intOf iv).toNat)
 case atStart=>exact⟨0,0,_,_,rfl,abi _,rfl,AS _,sh ⟨rfl,oE.out⟩⟩
 case round=>
  obtain⟨j,m,g',c',rfl,hj,rfl,hm,HR⟩:=hrel;by_cases aH:j<l.length
  ·have z1: decide ((j:Int)<(l.length:Int))=true:=decide_eq_true (by omega)
   obtain⟨g,rfl,lg,q0,-,-⟩:=(HP.out.below HR.out.2.below).at j aH;obtain⟨nm,sr⟩:∃nm,nm=l[j].name:=⟨_,rfl⟩;rw[<-sr]at q0;have sn:l[j]? =some l[j]:=aaG aH;have fh:(((j:Int)==0)=true/\j=0/\namesTo l (j+1)=namesTo l j++[nm])\/(((j:Int)==0)=false/\∃k pn,j=k+1/\(0:Int)<=(j:Int)/\(j:Int)<(l.length:Int)/\wr.cell? ⟨g,k*3,none⟩=some (.string pn)/\(((nm.toList==pn.toList)=true/\namesTo l (j+1)=namesTo l j)\/((nm.toList==pn.toList)=false/\namesTo l (j+1)=namesTo l j++[nm]))):=by
    cases j with
    | zero=>
     refine .inl ⟨rfl,rfl,?_⟩;show (match l[0]? with|none=>_|some r=>_)=_;rw[sn,sr];rfl
    | succ k=>
     obtain⟨g2,e2,-,p0,-,-⟩:=(HP.out.below HR.out.2.below).at k (by omega);cases e2
     refine .inr ⟨by rw[beq_eq_false_iff_ne];omega,k,_,rfl,by omega,by omega,p0,?_⟩;have hgk:l[k]? =some l[k]:=aaG (by omega);have e1:namesTo l (k+1+1)=if l[k].name=nm then namesTo l (k+1)else namesTo l (k+1)++[nm]:=by
      show (match l[k+1]? with|none=>_|some r=>_)=_;rw[sn];simp only[Nat.succ_ne_zero,if_false,Nat.add_sub_cancel,hgk,Option.map_some,acx,sr]
     rw[e1];by_cases he:l[k].name=nm
     ·exact .inl ⟨by rw[he];simp,if_pos he⟩
     ·refine .inr ⟨?_,if_neg he⟩
      rw[beq_eq_false_iff_ne];exact fun e=>he (Nd.gD e).symm
   rcases fh with⟨z2,I2,oo⟩|⟨z2,k,pn,Gx,y3,y4,p0,hw⟩
   ·have nA:=sh oo
    clear oo sr sn oE;subst I2;go_wp2_with fail
    go_quiet (fail)
    have zN:=below_drewN (BY wr.heap.size wr) nq;have gY:=sh (show m=(namesTo l (0)).length/\Sg w (.slice (some ⟨g',0,none⟩) m c') (namesTo l (0)) (wr.drewN nq) from ⟨HR.out.1,HR.out.2.under zN⟩);have q9:=(zN.cell (p:=⟨g,(0)*3,none⟩) lg).trans q0;have lg9:g<(wr.drewN nq).heap.size:=aal lg zN.size;clear zN;generalize wr.drewN nq=W2 at gY q9 lg9 |-;go_wp2_with (first
     | (at_builtin;refine bq _ rfl (.tmp 28) (.tmp 34) 72 rfl w.heap.size 9 i0 _ 1 16 underlying72 hi ez dP eh rfl (by omega) (.slice (some ⟨g',0,none⟩) m c') m (yl (namesTo l (0))) rfl (gY.out.2.iy gY.out.1 _) (some ⟨W2.heap.size,0,none⟩) 1 1 [.string nm] rfl rfl (fun hh=>by cases hh) (fun ad od=>by
       injection od with od;subst od;exact acH (cs:= #[.string nm]) (acw W2 _)) (by simp[adW]) (by unfold abj;omega) (by omega) (by have:=gY.out.2.below.size;simp;omega) ?_;intro A2 c2 w2 aU fI;obtain⟨g2,rfl⟩:=mg aU (by omega);have HN:=sh (gY.out.2.next gY.out.1 nA.out aU fI);clear aU fI)
     | fail)
    go_roundw
    case rel=>exact⟨0+1,m+1,g2,c2,by go_num,by omega,rfl,by omega,HN⟩
    case measure=>simp[intOf];omega
   ·have y1:(0:Int)<=(k:Int):=by omega
    have y2:(k:Int)<(l.length:Int):=by omega
    have Mr:(j:Int)-1=(k:Int):=by omega
    have Wl:IntKind.i64.wrap ((j:Int)-1)=(k:Int):=by rw[Mr];exact wrap_i64 _ (by omega)
    have HJK:=sh Gx;clear Gx;rcases hw with⟨e1,oo⟩|⟨e1,oo⟩
    ·have nA:=sh oo
     clear oo sr sn oE;go_wp2_with fail
     go_quiet (fail)
     have HN:=sh (show m=(namesTo l (j+1)).length/\Sg w (.slice (some ⟨g',0,none⟩) m c') (namesTo l (j+1)) (wr.drewN nq) from by rw[nA.out];exact⟨HR.out.1,HR.out.2.under (below_drewN (BY wr.heap.size wr) nq)⟩);go_wp2_with fail
     go_roundw
     case rel=>exact⟨j+1,m,g',c',by go_num,by omega,rfl,by omega,HN⟩
     case measure=>simp[intOf];omega
    ·have nA:=sh oo
     clear oo sr sn oE;go_wp2_with fail
     go_quiet (fail)
     have zN:=below_drewN (BY wr.heap.size wr) nq;have gY:=sh (show m=(namesTo l j).length/\Sg w (.slice (some ⟨g',0,none⟩) m c') (namesTo l j) (wr.drewN nq) from ⟨HR.out.1,HR.out.2.under zN⟩);have q9:=(zN.cell (p:=⟨g,j*3,none⟩) lg).trans q0;have lg9:g<(wr.drewN nq).heap.size:=aal lg zN.size;clear zN;generalize wr.drewN nq=W2 at gY q9 lg9 |-;go_wp2_with (first
      | (at_builtin;refine bq _ rfl (.tmp 28) (.tmp 34) 72 rfl w.heap.size 9 i0 _ 1 16 underlying72 hi ez dP eh rfl (by omega) (.slice (some ⟨g',0,none⟩) m c') m (yl (namesTo l j)) rfl (gY.out.2.iy gY.out.1 _) (some ⟨W2.heap.size,0,none⟩) 1 1 [.string nm] rfl rfl (fun hh=>by cases hh) (fun ad od=>by
        injection od with od;subst od;exact acH (cs:= #[.string nm]) (acw W2 _)) (by simp[adW]) (by unfold abj;omega) (by omega) (by have:=gY.out.2.below.size;simp;omega) ?_;intro A2 c2 w2 aU fI;obtain⟨g2,rfl⟩:=mg aU (by omega);have HN:=sh (gY.out.2.next gY.out.1 nA.out aU fI);clear aU fI)
      | fail)
     go_roundw
     case rel=>exact⟨j+1,m+1,g2,c2,by go_num,by omega,rfl,by omega,HN⟩
     case measure=>simp[intOf];omega
  ·have z1:decide ((j:Int)<(l.length:Int))=false:=decide_eq_false (by omega)
   obtain rfl:j=l.length:=by omega
   have HE:=sh HR.out;clear HR oE;go_wp2_with fail
   go_ret
   obtain⟨h8,h7⟩:=HE.out;subst h8;exact⟨g',c',rfl,h7⟩
def sO (F:Forest):List ByteArray:=(if (F.tr eH).L=[]then []else [eH])++(if (F.tr eL).L=[]then []else [eL])
theorem Rl{F:Forest}{σ :ag}(ho:F.Ok σ)(hR:∀n,F.R n=none)(n:ByteArray):n∈F.main.L.map (·.cell.key)↔(F.tr n).L≠[]:=by
 have h1:=ho.wC n (hR n);have hz:=(ho.each n).zero;constructor
 ·intro hn
  obtain⟨e,he,rfl⟩:=abK.1 hn;have h2:bH F.main.L e.cell.key (ai ⟨e.val.toArray⟩ 0 4):= .inl ⟨e,he,rfl,rfl⟩;have h3:=bH.L3 ho.main.rising h1 h2;have h4:=(ho.names e he).2.1;intro hc;have:=hz.2 hc;omega
 ·intro hc
  rcases h1 with⟨e,he,hk,-⟩|⟨-,h0⟩
  ·exact abK.2 ⟨e,he,hk⟩
  ·exact absurd (hz.1 h0) hc
theorem uP{F:Forest}{σ :ag}(ho:F.Ok σ)(hR:∀n,F.R n=none)(h2:F.Ga):F.main.L.map (·.cell.key)=sO F:=by
 have hm:=Rl ho hR;have dw:∀n∈F.main.L.map (·.cell.key),n=eH\/n=eL:=fun n hn=>h2 n (ho.qy n hn);have hp:(F.main.L.map (·.cell.key)).Pairwise (fun a b=>Nd.lt a b=true):=List.pairwise_map.2 ho.main.rising;obtain⟨ks,ia⟩:∃ks,ks=F.main.L.map (·.cell.key):=⟨_,rfl⟩;rw[<-ia]at hm dw hp |-;have hA:=hm eH;have hB:=hm eL;unfold sO;have bM:∀a:ByteArray,Nd.lt a a=true->False:=fun a h=>by rw[Nd.lt_irrefl]at h;cases h
 match ks,dw,hp,hA,hB with
 | [],_,_,hA,hB=>
  rw[if_pos (by simpa using hA),if_pos (by simpa using hB)];rfl
 | [a],dw,hp,hA,hB=>
  rcases dw a (by simp)with rfl|rfl
  ·rw[if_neg (by simpa using hA),if_pos (Classical.byContradiction fun h=>by have:=hB.2 h;rw[IN]at this;exact ep this.symm)]
   rfl
  ·rw[if_pos (Classical.byContradiction fun h=>by have:=hA.2 h;rw[IN]at this;exact ep this),if_neg (by simpa using hB)]
   rfl
 | a::b::t,dw,hp,hA,hB=>
  obtain⟨p1,p2⟩:=acX.1 hp;have q1:=p1 b (by simp);have ha:a=eH:=by
   rcases dw a (by simp)with h|h
   ·exact h
   ·rcases dw b (by simp)with h9|h9
    ·subst h h9;rw[DM]at q1;cases q1
    ·subst h h9;exact(bM _ q1).elim
  have hb:b=eL:=by
   rcases dw b (by simp)with h9|h9
   ·subst ha h9;exact(bM _ q1).elim
   ·exact h9
  subst ha hb;have ht:t=[]:=by
   cases t with
   | nil=>rfl
   | cons c t=>
    have q2:=(acX.1 p2).1 c (by simp);rcases dw c (by simp)with h9|h9
    ·subst h9;rw[DM]at q2;cases q2
    ·subst h9;exact(bM _ q2).elim
  subst ht;rw[if_neg (by simpa using hA),if_neg (by simpa using hB)];rfl
theorem J0{F:Forest}{σ :ag}(ho:F.Ok σ)(hR:∀n,F.R n=none)(h2:F.Ga):F.dU F.main.L=F.rows:=by
 have e:F.dU F.main.L=(F.main.L.map (·.cell.key)).flatMap fun n=>cr n (F.tr n).L:=by
  unfold Forest.dU cr;rw[List.flatMap_map]
 rw[e,uP ho hR h2];unfold sO Forest.rows;by_cases hA:(F.tr eH).L=[]<;>by_cases hB:(F.tr eL).L=[]<;>simp[hA,hB,cr]
theorem pq(La Lb:List En):∀j,j<=(cr eH La++cr eL Lb).length->namesTo (cr eH La++cr eL Lb) j=(if j=0 then []else if j<=La.length then [eH]else (if La=[]then []else [eH])++[eL])
 | 0,_=>rfl
 | j+1,h=>by
  have ih:=pq La Lb j (by omega);have hl:(cr eH La++cr eL Lb).length=La.length+Lb.length:=by rw[AT,fP,fP]
  rw[hl]at h;have lT:∀i,i<La.length+Lb.length->((cr eH La++cr eL Lb)[i]?).map (·.name)=some (if i<La.length then eH else eL):=fun i hi=>by
   by_cases hc:i<La.length
   ·rw[if_pos hc,acd (by rw[fP];exact hc)]
    unfold cr;rw[acC,aaG hc];rfl
   ·rw[if_neg hc,abU (by rw[fP];omega),fP]
    unfold cr;rw[acC,aaG (by omega)];rfl
  have h1:=lT j (by omega);unfold namesTo;cases hg:(cr eH La++cr eL Lb)[j]? with
  | none=>rw[hg]at h1;cases h1
  | some r=>
   rw[hg]at h1;have h1:r.name=if j<La.length then eH else eL:=by simpa using h1
   simp only;rw[if_neg (Nat.succ_ne_zero j),ih];by_cases h0:j=0
   ·subst h0
    rw[if_pos rfl,h1];by_cases hc:0<La.length
    ·rw[if_pos hc,if_pos (show 0+1<=La.length by omega)]
    ·have:La=[]:=List.eq_nil_of_length_eq_zero (by omega)
     rw[if_neg hc,if_neg (show ¬ (0+1<=La.length)by omega),if_pos this];rfl
   ·have h2:=lT (j-1) (by omega)
    rw[if_neg h0,h2,h1];by_cases hc:j<La.length
    ·rw[if_pos hc,if_pos (show j-1<La.length by omega),if_pos rfl,if_pos (show j<=La.length by omega),if_pos (show j+1<=La.length by omega),if_neg h0]
    ·rw[if_neg hc]
     by_cases hd:j=La.length
     ·have bM:La≠[]:=fun e=>by rw[e]at hd;simp at hd;exact h0 hd
      rw[if_pos (show j-1<La.length by omega),if_neg (show ¬ (some eH=some eL) from fun e=>ep (aek e)),if_pos (show j<=La.length by omega),if_neg (show ¬ (j+1<=La.length)by omega),if_neg bM,if_neg h0]
     ·rw[if_neg (show ¬ j-1<La.length by omega),if_pos rfl,if_neg (show ¬ (j<=La.length)by omega),if_neg (show ¬ (j+1<=La.length)by omega),if_neg h0]
theorem E4{F:Forest}{σ :ag}(ho:F.Ok σ)(hR:∀n,F.R n=none)(h2:F.Ga):namesTo F.rows F.rows.length=F.main.L.map (·.cell.key):=by
 rw[uP ho hR h2];unfold Forest.rows;rw[pq _ _ _ (AS _),AT,fP,fP];unfold sO;by_cases hA:(F.tr eH).L=[]<;>by_cases hB:(F.tr eL).L=[]
 ·rw[hA,hB];simp
 ·have:=acy.2 hB
  rw[hA,if_neg (by simp;exact hB),if_neg (by simp;omega),if_pos rfl,if_neg hB]
 ·have:=acy.2 hA
  rw[hB,if_neg (by simp;exact hA),if_pos (by simp),if_neg hA,if_pos rfl];rfl
 ·have h3:=acy.2 hB
  have h4:=acy.2 hA;rw[if_neg (by omega),if_neg (by omega),if_neg hA,if_neg hB]
end Go.Proofs.YtjbcbnemdhbhbaaGreatDoor
