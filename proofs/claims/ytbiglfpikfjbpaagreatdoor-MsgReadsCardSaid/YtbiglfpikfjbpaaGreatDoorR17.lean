import Derived.Test.YtbiglfpikfjbpaaGreatDoorR12
import Derived.Test.YtbiglfpikfjbpaaGreatDoorR7
import Derived.Test.YtbiglfpikfjbpaaGreatDoorR16
import Derived.Test.YtbiglfpikfjbpaaGreatDoorR3
import Derived.Deep.AppendLies
import Derived.Test.YtbiglfpikfjbpaaGreatDoorR9
import Derived.Test.YtbiglfpikfjbpaaGreatDoorR4
import Derived.Test.YtbiglfpikfjbpaaGreatDoorR5
import Derived.LoopN
import Derived.Test.YtbiglfpikfjbpaaGreatDoorR10
import Derived.Deep.RegionHeld3
namespace Go.Proofs.YtbiglfpikfjbpaaGreatDoor
open Go.RowKit
set_option maxRecDepth 100000
set_option linter.unusedVariables false
set_option linter.unusedSimpArgs false
set_option maxHeartbeats 40000000
def TlL (w : World) (S : Nat -> Prop) (t : Tl) (c : List Value) : Prop:=TlAt w S t c.toArray
theorem tlL_stable : ci TlL:=fun hs hk hT d c h => TlAt.keep hs hk hT d c.toArray h
theorem take_more {α : Type} {l : List α} {j : Nat} {x : α} (h : l[j]? = some x) : l.take (j + 1) = l.take j ++ [x]:=by
 rw [List.take_add_one,h]; rfl
theorem rowOf_ks {w : World} {S : Nat -> Prop} {q : Rw} {ts : List Tl} (h : RowOf 5 TlL w S q ts) : q.n = ts.length /\ (q.n <= q.c /\ q.c <= maxLen) /\ KsAt w S ts q.A 0:=by
 obtain ⟨h1,h2,h3,h4⟩:=h
 refine ⟨h1,⟨h2,h3⟩,KsAt.of ts 0 (fun i hi => ?_)⟩
 obtain ⟨b,o,c,hA,hb,hcl,hc,ht⟩:=h4 i ts[i] (List.getElem?_eq_getElem hi)
 match c,hcl with
 | [c0,c1,c2,c3,c4],_ =>
  refine ⟨b,o,c0,c1,c2,c3,c4,hA,hb,?_,?_,?_,?_,?_,ht⟩
  ·have:=hc 0 c0 rfl; simpa using this
  ·have:=hc 1 c1 rfl; simpa using this
  ·have:=hc 2 c2 rfl; simpa using this
  ·have:=hc 3 c3 rfl; simpa using this
  ·have:=hc 4 c4 rfl; simpa using this
theorem kids_at {w : World} {S : Nat -> Prop} {q : Rw} {ts : List Tl} (c g : Int) (k : Bool) (s : ByteArray) (h : RowOf 5 TlL w S q ts) (hc : (Lit.int .i64 c).wf = true) (hg : (Lit.int .i64 g).wf = true) (hs : s.size <= maxLen) :
  TlAt w S (.mk c k g s ts) #[.int .i64 c,.bool k,.int .i64 g,.string s,.slice q.A q.n q.c]:=by
 obtain ⟨h1,h2,h3⟩:=rowOf_ks h
 unfold TlAt
 rw [h1] at h2 |-
 exact ⟨q.A,q.c,rfl,h2,hc,hg,hs,h3⟩
def tstr (s : ByteArray) : Tl:=.mk 0 false 4 s []
def bX (name : ByteArray) (ss : List ByteArray) : Tl:=aF [tstr name,.mk 0 true 17 ⟨#[]⟩ (ss.map tstr)]
theorem PB.ofNum_done (n : Int) (h1 : -9223372036854775808 <= n) (h2 : n <= 9223372036854775807) : PB.sgn (PB.ofNum n) = n /\ PB.isNum false (PB.ofNum n) = true /\ (PB.ofNum n).length <= 8:=by
 have key : ∀ (k : Nat) (l : List UInt8) (m : Int),PB.OfAt n l m -> 8 - l.length = k -> ∃ l' m',PB.OfAt n l' m' /\ PB.enough l' m':=by
  intro k
  induction k with
  | zero =>
   intro l m h hk
   exact ⟨l,m,h,h.full h1 h2 (by have:=h.2.1; omega)⟩
  | succ k ih =>
   intro l m h hk
   by_cases hs : PB.enough l m
   ·exact ⟨l,m,h,hs⟩
   ·exact ih _ _ (h.next h1 h2 hs) (by simp; omega)
 obtain ⟨l,m,h,hs⟩:=key _ _ _ (PB.OfAt.start n) rfl
 obtain ⟨a,b,c⟩:=h.done hs
 rw [<- c]
 exact ⟨a,b,h.2.1⟩
def town (g : Int) (s : ByteArray) : Tl:=.mk 2 false g s []
def boolB (q : Bool) : ByteArray:=if q then ⟨#[255]⟩ else ⟨#[0]⟩
def bu (q : Bool) : Tl:=.mk 0 false 1 (boolB q) []
def aB (f : ByteArray) (any : List ByteArray) (l : ByteArray) : List Tl:=(if ai f then [town 0 f] else []) ++ (any.map (town 1) ++ (if ai l then [town 2 l] else []))
mutual
def aV : Fl -> Tl
 | .mk k a v f any l kids =>
  if k = 0 \/ k = 1 \/ k = 2 then .mk 2 true k ⟨#[]⟩ (bx kids)
  else if k = 7 then town 7 a
  else if k = 4 then .mk 2 true 4 ⟨#[]⟩ [tstr a,aF (aB f any l)]
  else .mk 2 true k ⟨#[]⟩ [tstr a,tstr v]
def bx : List Fl -> List Tl
 | [] => []
 | k :: ks => aV k :: bx ks
end
theorem ftrees_map : ∀ (l : List Fl),bx l = l.map aV
 | [] => rfl
 | k :: ks => by rw [bx,ftrees_map ks]; rfl
def tctl (c : Co) : Tl:=aF (tstr c.1 :: ((if c.2.1 then [bu true] else []) ++ (if c.2.2.1 then [tstr c.2.2.2] else [])))
def tat (a : At) : Tl:=bX a.1 a.2
def tmod (x : Md) : Tl:=aF [tnum 10 x.1,bX x.2.1 x.2.2]
namespace Ms
def bindT (M : Ms) : List Tl:=[tnum 2 M.version,tstr M.name,if M.sasl then .mk 2 true 3 ⟨#[]⟩ (tstr M.kind :: (if M.has then [tstr M.value] else [])) else town 0 M.secret]
def seaT (M : Ms) : List Tl:=[tstr M.name,tnum 10 M.scope,tnum 10 M.deref,tnum 2 M.size,tnum 2 M.time,bu M.types,aV M.filter,aF (M.attrs.map tstr)]
def entT (M : Ms) : List Tl:=[tstr M.name,aF (M.list.map tat)]
def modT (M : Ms) : List Tl:=[tstr M.name,aF (M.mods.map tmod)]
def renT (M : Ms) : List Tl:=[tstr M.name,tstr M.rdn,bu M.old] ++ M.dest.map (town 0)
def cmpT (M : Ms) : List Tl:=[tstr M.name,aF [tstr M.kind,tstr M.value]]
def extT (M : Ms) : List Tl:=town 0 M.kind :: (if M.has then [town 1 M.value] else [])
def ansT (M : Ms) : List Tl:=[tnum 10 M.code,tstr M.name,tstr M.text] ++ (if M.op == 24 && ai M.kind then [town 10 M.kind] else [])
def partsT (M : Ms) : List Tl :=
 if M.op = 0 then M.bindT else if M.op = 3 then M.seaT else if M.op = 4 \/ M.op = 8 then M.entT else if M.op = 6 then M.modT else if M.op = 12 then M.renT else if M.op = 14 then M.cmpT else if M.op = 23 then M.extT else M.ansT
def opT (M : Ms) : Tl :=
 if M.op = 2 then .mk 1 false 2 ⟨#[]⟩ [] else if M.op = 10 then .mk 1 false 10 M.name [] else if M.op = 16 then .mk 1 false 16 ⟨(PB.ofNum M.other).toArray⟩ [] else .mk 1 true M.op ⟨#[]⟩ M.partsT
def tree (M : Ms) : Tl:=aF ([tnum 2 M.id,M.opT] ++ (if M.controls = [] then [] else [.mk 2 true 0 ⟨#[]⟩ (M.controls.map tctl)]))
end Ms
theorem ax {s : ByteArray} (h : ai s = false) : s = ⟨#[]⟩:=by
 have:=(aC h).2
 obtain ⟨d⟩:=s
 obtain ⟨l⟩:=d
 have e : (⟨⟨l⟩⟩ : ByteArray).toList = l:=by simp [ByteArray.toList_eq]
 rw [e] at this
 rw [this]
theorem aK (c g : Int) (k : Bool) (b : ByteArray) (ks r : List Tl) : headP c g k (.mk c k g b ks :: r) = some (.mk c k g b ks,r):=by
 simp [headP,Tl.isB]
theorem dO {c g c' g' : Int} {k k' : Bool} (b : ByteArray) (ks r : List Tl) (h : c ≠ c' \/ g ≠ g' \/ k ≠ k') : headP c' g' k' (.mk c k g b ks :: r) = none:=by
 have e : (Tl.mk c k g b ks).isB c' g' k' = false:=by
  unfold Tl.isB
  simp
  rcases h with h | h | h
  ·exact fun e => absurd e h
  ·exact fun _ e => absurd e h
  ·exact fun _ _ e => absurd e h
 simp [headP,e]
theorem headP_str (s : ByteArray) (r : List Tl) : headP 0 4 false (tstr s :: r) = some (tstr s,r):=aK 0 4 false s [] r
theorem tstr_body (s : ByteArray) : (tstr s).body = s:=rfl
theorem dg (c g : Int) (k : Bool) : headP c g k [] = none:=rfl
theorem aG (s : ByteArray) (r : List Tl) : aU (tstr s :: r) = some (s,r):=by
 simp [aU,tstr,aK,Tl.body]
theorem bH (g lo hi n : Int) (r : List Tl) (h1 : lo <= n) (h2 : n <= hi) (h3 : -9223372036854775808 <= lo) (h4 : hi <= 9223372036854775807) : numP g lo hi (tnum g n :: r) = some (n,r):=by
 obtain ⟨a,b,-⟩:=PB.ofNum_done n (by omega) (by omega)
 simp [numP,tnum,aK,Tl.body,cS,a,b,inB,h1,h2]
theorem cN (q : Bool) (r : List Tl) : cC (bu q :: r) = some (q,r):=by
 have e : dP false (boolB q) = (q,0):=by cases q <;> simp [dP,boolB,ByteArray.toList_eq]
 simp [cC,bu,aK,Tl.body,e]
theorem br (ks r : List Tl) : aR 16 (aF ks :: r) = some (ks,r):=by
 simp [aR,aF,aK,Tl.kids]
theorem eE : ∀ (ss : List ByteArray),bn (ss.map tstr) = some ss
 | [] => rfl
 | s :: ss => by
  have h:=aG s (ss.map tstr)
  rw [List.map_cons,(eg h).1,eE ss]
  rfl
theorem attrP_at (n : ByteArray) (ss : List ByteArray) : cJ [tstr n,.mk 0 true 17 ⟨#[]⟩ (ss.map tstr)] = some (n,ss):=by
 simp [cJ,aG,aR,aK,Tl.kids,eE]
theorem eN : ∀ (az : List At),ba (az.map tat) = some az
 | [] => rfl
 | (n,ss) :: az => by
  have h : aR 16 (tat (n,ss) :: az.map tat) = some (_,_):=br _ _
  rw [List.map_cons,(attrsP_some h (attrP_at n ss)).2,eN az]
  rfl
theorem oneP_mod (x : Md) (h : inB x.1 0 2 = true) : oneP [tnum 10 x.1,bX x.2.1 x.2.2] = some x:=by
 have h' : 0 <= x.1 /\ x.1 <= 2:=by simpa [inB] using h
 simp [oneP,bH 10 0 2 x.1 _ h'.1 h'.2 (by omega) (by omega),bX,br,attrP_at]
theorem modsP_map : ∀ (az : List Md),(az.all fun x => inB x.1 0 2) = true -> bZ (az.map tmod) = some az
 | [],_ => rfl
 | x :: az,h => by
  simp only [List.all_cons,Bool.and_eq_true] at h
  have hl : aR 16 (tmod x :: az.map tmod) = some (_,_):=br _ _
  rw [List.map_cons,(modsP_some hl (oneP_mod x h.1)).2,modsP_map az h.2]
  rfl
theorem ctlP_ctl (c : Co) (h : (c.2.2.1 || !ai c.2.2.2) = true) : ctlP (tstr c.1 :: ((if c.2.1 then [bu true] else []) ++ (if c.2.2.1 then [tstr c.2.2.2] else []))) = some c:=by
 obtain ⟨a,q,x,v⟩:=c
 simp only at h |-
 have no1 : ∀ (b : ByteArray) (r : List Tl),bP (tstr b :: r) 0 1 false = false:=fun b r => by simp [bP,tstr,Tl.isB]
 have yes1 : ∀ (r : List Tl),bP (bu true :: r) 0 1 false = true:=fun r => by simp [bP,bu,Tl.isB]
 have h4 : ∀ (b : ByteArray) (r : List Tl),headP 0 4 false (tstr b :: r) = some (tstr b,r):=fun b r => aK _ _ _ _ _ _
 cases q <;> cases x
 ·have hv : v = ⟨#[]⟩:=ax (by simpa using h)
  subst hv
  simp [ctlP,aG,crP,bP,headP]
 ·simp [ctlP,aG,crP,no1,h4]
  simp [tstr,Tl.body]
 ·have hv : v = ⟨#[]⟩:=ax (by simpa using h)
  subst hv
  simp [ctlP,aG,crP,yes1,cN,headP]
 ·simp [ctlP,aG,crP,yes1,cN,h4]
  simp [tstr,Tl.body]
theorem ctlsP_map : ∀ (az : List Co),(az.all fun c => c.2.2.1 || !ai c.2.2.2) = true -> bN (az.map tctl) = some az
 | [],_ => rfl
 | x :: az,h => by
  simp only [List.all_cons,Bool.and_eq_true] at h
  have hl : aR 16 (tctl x :: az.map tctl) = some (_,_):=br _ _
  rw [List.map_cons,(ctlsP_some hl (ctlP_ctl x h.1)).2,ctlsP_map az h.2]
  rfl
theorem onceP_own (g : Int) (s : ByteArray) (r : List Tl) : cu g (town g s :: r) = (s,r):=by
 have h : headP 2 g false (town g s :: r) = some (town g s,r):=aK 2 g false s [] r
 rw [dM h]; rfl
theorem anyP_map : ∀ (any : List ByteArray) (r : List Tl),(headP 2 1 false r = none) -> anyP (any.map (town 1) ++ r) = (any,r)
 | [],r,h => fH h
 | s :: any,r,h => by
  have hh : headP 2 1 false ((s :: any).map (town 1) ++ r) = some (town 1 s,any.map (town 1) ++ r):=aK _ _ _ _ _ _
  rw [anyP_some hh,anyP_map any r h]
  rfl
theorem piecesP_tree (f : ByteArray) (any : List ByteArray) (l : ByteArray) : bv (aB f any l) = some (f,any,l):=by
 have hend : ∀ (r : List Tl),r = (if ai l then [town 2 l] else []) -> headP 2 1 false r = none /\ headP 2 0 false r = none /\ cu 2 r = (l,[]):=by
  intro r hr
  subst hr
  cases hl : ai l with
  | true => exact ⟨dO _ _ _ (by simp),dO _ _ _ (by simp),onceP_own _ _ _⟩
  | false => exact ⟨rfl,rfl,by rw [ax hl]; rfl⟩
 obtain ⟨r,hr⟩ : ∃ r,r = (if ai l then [town 2 l] else []):=⟨_,rfl⟩
 obtain ⟨h1,h0,h2⟩:=hend r hr
 have hq:=anyP_map any r h1
 have hp : cu 0 (aB f any l) = (f,any.map (town 1) ++ r):=by
  unfold aB
  rw [<- hr]
  cases hf : ai f with
  | true => exact onceP_own _ _ _
  | false =>
   rw [ax hf]
   refine eb (?_ : headP 2 0 false (any.map (town 1) ++ r) = none)
   cases any with
   | nil => exact h0
   | cons s any => exact dO _ _ _ (by simp)
 unfold bv
 simp only [hp,hq,h2]
 rfl
theorem Fl.cnt_one {k : Int} {a v f : ByteArray} {any : List ByteArray} {l : ByteArray} {kids : List Fl} {d x : Int} (h : 0 <= Fl.cnt (.mk k a v f any l kids) d x) : Fl.one (.mk k a v f any l kids) = true /\ 0 <= Fl.cnts kids (d + 1) (x - 1):=by
 unfold Fl.cnt at h
 by_cases hc : x - 1 < 0 \/ 8 < d \/ Fl.one (.mk k a v f any l kids) = false
 ·rw [if_pos hc] at h; omega
 ·rw [if_neg hc] at h
  exact ⟨by cases ho : Fl.one (.mk k a v f any l kids) <;> simp_all,h⟩
theorem bI {a v f : ByteArray} {q : Nat} {l : ByteArray} {r : Nat} (h : aP a v f q l r = true) : a = ⟨#[]⟩ /\ v = ⟨#[]⟩ /\ f = ⟨#[]⟩ /\ q = 0 /\ l = ⟨#[]⟩ /\ r = 0:=by
 simp [aP] at h
 obtain ⟨h1,h2,h3,h4,h5,h6⟩:=h
 exact ⟨ax h1,ax h2,ax h3,h4,ax h5,h6⟩
mutual
theorem filP_tree : ∀ (f : Fl) (d x : Int),0 <= f.cnt d x -> filP (aV f) = some f
 | .mk k a v f any l kids,d,x,h => by
  obtain ⟨ho,hk⟩:=Fl.cnt_one h
  simp only [Fl.one] at ho
  by_cases h01 : k = 0 \/ k = 1
  ·rw [if_pos h01] at ho
   obtain ⟨rfl,rfl,rfl,hq,rfl,-⟩:=bI ho
   obtain rfl:=List.eq_nil_of_length_eq_zero hq
   have ih:=eL kids _ _ hk
   rcases h01 with rfl | rfl <;> simp [aV,filP,ih]
  rw [if_neg h01] at ho
  by_cases h2 : k = 2
  ·rw [if_pos h2] at ho
   simp only [Bool.and_eq_true] at ho
   obtain ⟨rfl,rfl,rfl,hq,rfl,-⟩:=bI ho.1
   obtain rfl:=List.eq_nil_of_length_eq_zero hq
   have ih:=eL kids _ _ hk
   subst h2
   simp [aV,filP,ih]
  rw [if_neg h2] at ho
  by_cases h3 : k = 3 \/ k = 5 \/ k = 6 \/ k = 8
  ·rw [if_pos h3] at ho
   simp only [Bool.and_eq_true] at ho
   obtain ⟨-,-,rfl,hq,rfl,hr⟩:=bI ho.1
   obtain rfl:=List.eq_nil_of_length_eq_zero hq
   obtain rfl:=List.eq_nil_of_length_eq_zero hr
   rcases h3 with rfl | rfl | rfl | rfl <;> simp [aV,filP,aG]
  rw [if_neg h3] at ho
  by_cases h7 : k = 7
  ·rw [if_pos h7] at ho
   simp only [Bool.and_eq_true] at ho
   obtain ⟨-,rfl,rfl,hq,rfl,hr⟩:=bI ho.1
   obtain rfl:=List.eq_nil_of_length_eq_zero hq
   obtain rfl:=List.eq_nil_of_length_eq_zero hr
   subst h7
   simp [aV,town,filP]
  rw [if_neg h7] at ho
  by_cases h4 : k = 4
  ·rw [if_pos h4] at ho
   simp only [Bool.and_eq_true] at ho
   obtain ⟨-,rfl,-,-,-,hr⟩:=bI ho.2.2.1
   obtain rfl:=List.eq_nil_of_length_eq_zero hr
   subst h4
   simp [aV,filP,aG,br,piecesP_tree]
  ·rw [if_neg h4] at ho
   cases ho
theorem eL : ∀ (ks : List Fl) (d x : Int),0 <= Fl.cnts ks d x -> bK (bx ks) = some ks
 | [],_,_,_ => by simp [bx,bK]
 | k :: ks,d,x,h => by
  unfold Fl.cnts at h
  by_cases hc : k.cnt d x < 0
  ·rw [if_pos hc] at h; omega
  ·rw [if_neg hc] at h
   have h1:=filP_tree k d x (by omega)
   have h2:=eL ks d _ h
   simp [bx,bK,h1,h2]
end
theorem MC.empty_all (b : MC) (h : b.empty = true) : (b.version = 0 /\ b.code = 0 /\ b.scope = 0 /\ b.deref = 0 /\ b.size = 0 /\ b.time = 0 /\ b.other = 0) /\ (b.name = ⟨#[]⟩ /\ b.secret = ⟨#[]⟩ /\ b.kind = ⟨#[]⟩ /\ b.value = ⟨#[]⟩ /\ b.text = ⟨#[]⟩ /\ b.rdn = ⟨#[]⟩) ∧
  (b.sasl = false /\ b.has = false /\ b.types = false /\ b.old = false) /\ (b.attrs.n = 0 /\ b.list.n = 0 /\ b.mods.n = 0 /\ b.dest.n = 0) ∧
  (b.filter.kind = 0 /\ b.filter.attr = ⟨#[]⟩ /\ b.filter.value = ⟨#[]⟩ /\ b.filter.first = ⟨#[]⟩ /\ b.filter.any.n = 0 /\ b.filter.last = ⟨#[]⟩ /\ b.filter.kids.n = 0):=by
 simp only [MC.empty,MC.nums,MC.txts,MC.trus,MC.rows,MC.fils,Bool.and_eq_true,Bool.not_eq_true',Bool.or_eq_false_iff,bne_eq_false_iff_eq,decide_eq_false_iff_not] at h
 obtain ⟨⟨a1,a2,a3,a4,a5,a6,a7⟩,⟨b1,b2,b3,b4,b5,b6⟩,⟨d1,d2,d3,d4⟩,⟨e1,e2,e3,e4⟩,⟨f1,f2,f3,f4,f5,f6,f7⟩⟩:=h
 exact ⟨⟨a1,a2,a3,a4,a5,a6,a7⟩,⟨ax b1,ax b2,ax b3,ax b4,ax b5,ax b6⟩,⟨d1,d2,d3,d4⟩,⟨by omega,by omega,by omega,by omega⟩,⟨f1,ax f2,ax f3,ax f4,by omega,ax f6,by omega⟩⟩
theorem opP_tree (M : Ms) (hr : M.ranged = true) (he : M.lens.bare.empty = true) : Go.Proofs.YtbiglfpikfjbpaaGreatDoor.opP M.id M.opT = some { M with controls:=[] }:=by
 have h:=MC.empty_all _ he
 clear he
 obtain ⟨id,op,version,name,sasl,secret,kind,has,value,code,text,scope,deref,size,time,types,filter,attrs,list,mods,rdn,old,dest,other,controls⟩:=M
 obtain ⟨fk,fa,fv,ff,fany,fl,fkids⟩:=filter
 simp only [Ms.lens,Ms.mc,Fl.lens] at h
 have hin : ∀ {n lo hi : Int},inB n lo hi = true -> lo <= n /\ n <= hi:=fun h => by simpa [inB] using h
 unfold Ms.ranged at hr
 simp only at hr
 unfold Ms.opT
 simp only
 by_cases h0 : op = 0
 ·subst h0
  simp only [if_pos] at hr
  simp only [Bool.and_eq_true] at hr
  obtain ⟨hv1,hv2⟩:=hin hr.1
  simp [MC.bare,Rw.none,rw] at h
  cases sasl with
  | false =>
   simp at h
   simp [opP,Ms.partsT,Ms.bindT,a9,cI,bH 2 1 127 version _ hv1 hv2 (by omega) (by omega),aG,town,aK,Tl.body,Ms.base,Ms.zero,Fl.zero,h]
  | true =>
   simp at h
   cases has with
   | false =>
    have hval : value = ⟨#[]⟩:=ax (by simpa using hr.2)
    simp [opP,Ms.partsT,Ms.bindT,a9,cI,bH 2 1 127 version _ hv1 hv2 (by omega) (by omega),aG,dO,aK,Tl.kids,Tl.body,Ms.base,Ms.zero,Fl.zero,h,hval,dg]
   | true =>
    simp [opP,Ms.partsT,Ms.bindT,a9,cI,bH 2 1 127 version _ hv1 hv2 (by omega) (by omega),aG,dO,aK,headP_str,tstr_body,Tl.kids,Ms.base,Ms.zero,Fl.zero,h]
 rw [if_neg h0] at hr
 by_cases h3 : op = 3
 ·subst h3
  simp only [if_pos,Bool.and_eq_true] at hr
  obtain ⟨r1,r2,r3,r4,r5⟩:=hr
  have hf:=filP_tree _ 1 40 (by simpa [Fl.right] using r5)
  simp [MC.bare,Rw.none,rw,FC.zero] at h
  obtain ⟨a1,a2⟩:=hin r1
  obtain ⟨b1,b2⟩:=hin r2
  obtain ⟨d1,d2⟩:=hin r3
  obtain ⟨e1,e2⟩:=hin r4
  simp [opP,Ms.partsT,Ms.seaT,a9,seaP,aG,bH 10 0 2 scope _ a1 a2 (by omega) (by omega),bH 10 0 3 deref _ b1 b2 (by omega) (by omega),bH 2 0 2147483647 size _ d1 d2 (by omega) (by omega),bH 2 0 2147483647 time _ e1 e2 (by omega) (by omega),cN,hf,br,eE,Ms.base,Ms.zero,Fl.zero,h]
 rw [if_neg h3] at hr
 by_cases h6 : op = 6
 ·subst h6
  simp only [if_pos] at hr
  simp [MC.bare,Rw.none,rw] at h
  simp [opP,Ms.partsT,Ms.modT,a9,modP,aG,br,modsP_map mods hr,Ms.base,Ms.zero,Fl.zero,h]
 rw [if_neg h6] at hr
 by_cases h12 : op = 12
 ·subst h12
  simp only [if_pos,decide_eq_true_eq] at hr
  simp [MC.bare,Rw.none,rw] at h
  match dest,hr with
  | [],_ => simp [opP,Ms.partsT,Ms.renT,a9,renP,aG,cN,dg,Ms.base,Ms.zero,Fl.zero,h]
  | [d],_ => simp [opP,Ms.partsT,Ms.renT,a9,renP,aG,cN,town,aK,Tl.body,Ms.base,Ms.zero,Fl.zero,h]
 rw [if_neg h12] at hr
 by_cases h16 : op = 16
 ·subst h16
  simp only [if_pos] at hr
  obtain ⟨a1,a2⟩:=hin hr
  simp [MC.bare,Rw.none,rw] at h
  obtain ⟨n1,n2,-⟩:=PB.ofNum_done other (by omega) (by omega)
  simp [opP,cS,n1,n2,inB,a1,a2,Ms.base,Ms.zero,Fl.zero,h]
 rw [if_neg h16] at hr
 by_cases h23 : op = 23
 ·subst h23
  simp only [if_pos] at hr
  simp [MC.bare,Rw.none,rw] at h
  cases has with
  | false =>
   have hval : value = ⟨#[]⟩:=ax (by simpa using hr)
   simp [opP,Ms.partsT,Ms.extT,a9,extP,town,aK,dg,Tl.body,Ms.base,Ms.zero,Fl.zero,h,hval]
  | true => simp [opP,Ms.partsT,Ms.extT,a9,extP,town,aK,Tl.body,Ms.base,Ms.zero,Fl.zero,h]
 rw [if_neg h23] at hr
 by_cases h2 : op = 2
 ·subst h2
  simp [MC.bare,Rw.none,rw] at h
  simp [opP,ai,Ms.base,Ms.zero,Fl.zero,h,ByteArray.toList_eq]
 by_cases h4 : op = 4
 ·subst h4
  simp [MC.bare,Rw.none,rw] at h
  simp [opP,Ms.partsT,Ms.entT,a9,entP,aG,br,eN,Ms.base,Ms.zero,Fl.zero,h]
 by_cases h8 : op = 8
 ·subst h8
  simp [MC.bare,Rw.none,rw] at h
  simp [opP,Ms.partsT,Ms.entT,a9,entP,aG,br,eN,Ms.base,Ms.zero,Fl.zero,h]
 by_cases h10 : op = 10
 ·subst h10
  simp [MC.bare,Rw.none,rw] at h
  simp [opP,Ms.base,Ms.zero,Fl.zero,h]
 by_cases h14 : op = 14
 ·subst h14
  simp [MC.bare,Rw.none,rw] at h
  simp [opP,Ms.partsT,Ms.cmpT,a9,cmpP,aG,br,Ms.base,Ms.zero,Fl.zero,h]
 rw [if_neg (by simp [h2,h4,h8,h10,h14])] at hr
 simp only [Bool.and_eq_true] at hr
 obtain ⟨hans,hcode⟩:=hr
 obtain ⟨a1,a2⟩:=hin hcode
 by_cases h24 : op = 24
 ·subst h24
  simp [MC.bare,Rw.none,rw] at h
  cases hk : ai kind with
  | true => simp [opP,Ms.partsT,Ms.ansT,a9,ansP,aD,bH 10 0 127 code _ a1 a2 (by omega) (by omega),aG,town,aK,Tl.body,Ms.base,Ms.zero,Fl.zero,h,hk]
  | false =>
   obtain rfl:=ax hk
   simp [opP,Ms.partsT,Ms.ansT,a9,ansP,aD,bH 10 0 127 code _ a1 a2 (by omega) (by omega),aG,dg,Tl.body,Ms.base,Ms.zero,Fl.zero,h,hk]
 ·simp [MC.bare,Rw.none,rw,h0,h3,h4,h8,h6,h10,h12,h14,h16,h23,h2,h24] at h
  have h24' : (op == 24) = false:=by simpa using h24
  simp [opP,Ms.partsT,Ms.ansT,a9,ansP,hans,h0,h3,h4,h8,h6,h10,h12,h14,h16,h23,h2,h24',bH 10 0 127 code _ a1 a2 (by omega) (by omega),aG,dg,Ms.base,Ms.zero,Fl.zero,h]
theorem Ms.back (M : Ms) (hr : M.right = true) : du M.tree.kids = some M:=by
 have hr':=hr
 unfold Ms.right at hr
 simp only [Bool.and_eq_true] at hr
 obtain ⟨hc,hid,hg,he⟩:=hr
 have hi : 0 <= M.id /\ M.id <= 2147483647:=by simpa [inB] using hid
 have ho:=opP_tree M hg he
 have hn:=bH 2 0 2147483647 M.id (M.opT :: (if M.controls = [] then [] else [.mk 2 true 0 ⟨#[]⟩ (M.controls.map tctl)])) hi.1 hi.2 (by omega) (by omega)
 have hk : M.tree.kids = tnum 2 M.id :: M.opT :: (if M.controls = [] then [] else [.mk 2 true 0 ⟨#[]⟩ (M.controls.map tctl)]):=rfl
 unfold du
 rw [hk,hn]
 simp only [Option.bind_some,ho]
 by_cases hz : M.controls = []
 ·have hM : { M with controls:=[] } = M:=by rw [<- hz]
  rw [if_pos hz,hM]
  simp [dW,dg,hr']
 ·rw [if_neg hz]
  have hM : ({ M with controls:=M.controls } : Ms) = M:=rfl
  simp [dW,aK,Tl.kids,ctlsP_map M.controls hc,hr']
theorem RowOf.cells {α : Type} {k : Nat} {At : World -> (Nat -> Prop) -> α -> List Value -> Prop} {w : World} {S : Nat -> Prop} {q : Rw} {ts : List α} (hk : 0 < k) (h : RowOf k At w S q ts) :
  ∃ css : List (List Value),css.length = ts.length /\ (∀ c ∈ css,c.length = k) /\ (∀ (i : Nat) (t : α) (c : List Value),ts[i]? = some t -> css[i]? = some c -> At w S t c) /\ Sl w q.A css.flatten:=by
 obtain ⟨h1,h2,h3,h4⟩:=h
 have key : ∀ (n : Nat),n <= ts.length -> ∃ css : List (List Value),css.length = n /\ (∀ c ∈ css,c.length = k) /\ (∀ (i : Nat) (t : α) (c : List Value),ts[i]? = some t -> css[i]? = some c -> At w S t c /\ ∃ (b o : Nat),q.A = some ⟨b,o,none⟩ /\ (S b /\ b < w.heap.size) /\ ∀ (j : Nat) (u : Value),c[j]? = some u -> w.cell? ⟨b,o + i * k + j,none⟩ = some u):=by
  intro n
  induction n with
  | zero => intro _; exact ⟨[],rfl,fun c h => by simp at h,fun i t c _ h => by simp at h⟩
  | succ n ih =>
   intro hn
   obtain ⟨css,a1,a2,a3⟩:=ih (by omega)
   obtain ⟨b,o,c,q1,q2,q3,q4,q5⟩:=h4 n ts[n] (List.getElem?_eq_getElem (by omega))
   refine ⟨css ++ [c],by simp [a1],fun x hx => ?_,fun i t x ht hx => ?_⟩
   ·rcases List.mem_append.1 hx with hx | hx
    ·exact a2 x hx
    ·rw [List.mem_singleton.1 hx]; exact q3
   ·by_cases hi : i < n
    ·exact a3 i t x ht (by rwa [List.getElem?_append_left (by omega)] at hx)
    ·have hl : i < (css ++ [c]).length:=(List.getElem?_eq_some_iff.1 hx).1
     simp [a1] at hl
     obtain rfl : i = n:=by omega
     have hx' : c = x:=by rw [List.getElem?_append_right (by omega)] at hx; simpa [a1] using hx
     subst hx'
     have ht' : ts[i] = t:=by rw [List.getElem?_eq_getElem (by omega)] at ht; exact Option.some.inj ht
     subst ht'
     exact ⟨q5,b,o,q1,q2,q4⟩
 obtain ⟨css,a1,a2,a3⟩:=key ts.length (Nat.le_refl _)
 refine ⟨css,a1,a2,fun i t c ht hc => (a3 i t c ht hc).1,fun j u hu => ?_⟩
 have hjl : j < css.flatten.length:=(List.getElem?_eq_some_iff.1 hu).1
 have hfl : css.flatten.length = css.length * k:=by
  clear hu hjl a1 a3
  induction css with
  | nil => simp
  | cons c css ih => rw [List.flatten_cons,List.length_append,ih (fun x hx => a2 x (by simp [hx])),a2 c (by simp),List.length_cons,Nat.add_mul]; omega
 have hi : j / k < css.length:=by
  rw [hfl] at hjl
  exact Nat.div_lt_of_lt_mul (by rw [Nat.mul_comm]; exact hjl)
 have hmod:=Nat.mod_lt j hk
 have hdm : j / k * k + j % k = j:=by rw [Nat.mul_comm]; exact Nat.div_add_mod j k
 have hc : css[j / k]? = some css[j / k]:=List.getElem?_eq_getElem hi
 obtain ⟨-,b,o,q1,q2,q3⟩:=a3 (j / k) ts[j / k] _ (List.getElem?_eq_getElem (by omega)) hc
 have hf:=ej css a2 (j / k) _ hc (j % k) hmod
 rw [hdm,hu] at hf
 have:=q3 (j % k) u hf.symm
 exact ⟨b,o,q1,q2.2,by rw [Nat.add_assoc,hdm] at this; exact this⟩
theorem dz {k : Nat} : ∀ (css : List (List Value)),(∀ c ∈ css,c.length = k) -> css.flatten.length = css.length * k
 | [],_ => by simp
 | c :: css,h => by rw [List.flatten_cons,List.length_append,dz css (fun x hx => h x (by simp [hx])),h c (by simp),List.length_cons,Nat.add_mul]; omega
theorem GRow.app {α : Type} {E : TypeId} {k : Nat} {At : World -> (Nat -> Prop) -> α -> List Value -> Prop} (hA : ci At) {w w3 : World} {B : Nat} {v v' : Value} {ds ts : List α} {css cts : List (List Value)}
  (hcl : css.length = ds.length) (hck : ∀ c ∈ css,c.length = k) (hvlt : ∀ g,v.ownBlock = some g -> B <= g /\ g < w.heap.size) (hall : ∀ (i : Nat) (d : α) (c : List Value),ds[i]? = some d -> css[i]? = some c -> At w (fun b => B <= b /\ v.ownBlock ≠ some b) d c)
  (htl : cts.length = ts.length) (htk : ∀ c ∈ cts,c.length = k) (htall : ∀ (i : Nat) (d : α) (c : List Value),ts[i]? = some d -> cts[i]? = some c -> At w (fun b => B <= b /\ v.ownBlock ≠ some b) d c)
  (hown3 : w3.ownsRow B E k v' (ds.length + ts.length) (css.flatten ++ cts.flatten)) (hgr : w.grownBy w3 v.ownBlock) (hat : v'.ownBlock = v.ownBlock \/ v'.ownBlock = some w.heap.size) : GRow E k At w3 B v' (ds ++ ts):=by
 have hne : ∀ b,b < w.heap.size -> v.ownBlock ≠ some b -> v'.ownBlock ≠ some b:=by
  intro b hb hn e
  rcases hat with h | h
  ·exact hn (h ▸ e)
  ·rw [h] at e; injection e with e; omega
 have hkeep : ∀ (d : α) (c : List Value),At w (fun b => B <= b /\ v.ownBlock ≠ some b) d c -> At w3 (fun b => B <= b /\ v'.ownBlock ≠ some b) d c:=fun d c h =>
  hA hgr.size (fun b hb hbl => hgr.block b hbl (fun e => hb.2 e.symm)) (fun b hb hbl => ⟨hb.1,hne b hbl hb.2⟩) d c h
 refine ⟨css ++ cts,by simp [hcl,htl],fun x hx => ?_,by rw [List.flatten_append,List.length_append]; exact hown3,fun i x y hx hy => ?_⟩
 ·rcases List.mem_append.1 hx with hx | hx
  ·exact hck x hx
  ·exact htk x hx
 ·by_cases hlt : i < ds.length
  ·rw [List.getElem?_append_left hlt] at hx
   rw [List.getElem?_append_left (by omega)] at hy
   exact hkeep x y (hall i x y hx hy)
  ·rw [List.getElem?_append_right (by omega)] at hx
   rw [List.getElem?_append_right (by omega),hcl] at hy
   exact hkeep x y (htall _ x y hx hy)
theorem GRow.lit {w : World} {B blk : Nat} {E : TypeId} {k : Nat} {α : Type} {At : World -> (Nat -> Prop) -> α -> List Value -> Prop} {cs : Array Value} (css : List (List Value)) (ts : List α) (h : Bk w blk E cs) (hcs : cs.toList = css.flatten) (hB : B <= blk) (hl : css.length = ts.length) (hm : ts.length <= maxLen)
  (hk : ∀ c ∈ css,c.length = k) (hA : ∀ (i : Nat) (t : α) (c : List Value),ts[i]? = some t -> css[i]? = some c -> At w (fun b => B <= b /\ b ≠ blk) t c) (hst : ci At) : GRow E k At w B (.slice (some ⟨blk,0,none⟩) ts.length ts.length) ts:=by
 refine ⟨css,hl,hk,⟨by rw [dz css hk,hl],.inr ⟨blk,ts.length,cs,rfl,hB,h,?_,hm,?_,?_⟩⟩,fun i d c hd hc => hst (Nat.le_refl _) (fun _ _ _ => rfl) (fun x hx _ => ⟨hx.1,fun e => hx.2 (by simpa [Value.ownBlock] using e.symm)⟩) d c (hA i d c hd hc)⟩
 ·exact Nat.le_refl _
 ·rw [<- Array.length_toList,hcs,dz css hk,hl]
 ·rw [hcs]; exact List.take_of_length_le (by rw [dz css hk,hl]; exact Nat.le_refl _)
abbrev TGrow (w : World) (B : Nat) (v : Value) (ts : List Tl) : Prop:=GRow 42 5 TlL w B v ts
def Ms.only (m : Ms) : Ms :=
 let b : Ms:={ Ms.zero with id:=m.id,op:=m.op,controls:=m.controls }
 if m.op = 0 then
  if m.sasl then { b with version:=m.version,name:=m.name,sasl:=m.sasl,kind:=m.kind,has:=m.has,value:=m.value } else { b with version:=m.version,name:=m.name,secret:=m.secret }
 else if m.op = 3 then { b with name:=m.name,scope:=m.scope,deref:=m.deref,size:=m.size,time:=m.time,types:=m.types,filter:=m.filter,attrs:=m.attrs }
 else if m.op = 4 \/ m.op = 8 then { b with name:=m.name,list:=m.list }
 else if m.op = 6 then { b with name:=m.name,mods:=m.mods }
 else if m.op = 10 then { b with name:=m.name }
 else if m.op = 12 then { b with name:=m.name,rdn:=m.rdn,old:=m.old,dest:=m.dest }
 else if m.op = 14 then { b with name:=m.name,kind:=m.kind,value:=m.value }
 else if m.op = 16 then { b with other:=m.other }
 else if m.op = 23 then { b with kind:=m.kind,has:=m.has,value:=m.value }
 else if m.op = 2 then b
 else if m.op = 24 then { b with code:=m.code,name:=m.name,text:=m.text,kind:=m.kind }
 else { b with code:=m.code,name:=m.name,text:=m.text }
theorem cH {op : Int} (sasl : Bool) (h : aI op = true) : (op = 0 /\ sasl = true) \/ (op = 0 /\ sasl = false) \/ op = 3 \/ op = 4 \/ op = 8 \/ op = 6 \/ op = 10 \/ op = 12 \/ op = 14 \/ op = 16 \/ op = 23 \/ op = 2 \/ op = 24 \/ op = 1 \/ op = 5 \/ op = 7 \/ op = 9 \/ op = 11 \/ op = 13 \/ op = 15:=by
 have:=known_cases h
 cases sasl <;> simp <;> omega
theorem Ms.only_id (M : Ms) : M.only.id = M.id:=by
 unfold Ms.only
 simp only [apply_ite Ms.id,ite_self]
theorem Ms.only_op (M : Ms) : M.only.op = M.op:=by
 unfold Ms.only
 simp only [apply_ite Ms.op,ite_self]
theorem MsAt.only {w : World} {S : Nat -> Prop} {M : Ms} {m : MC} (h : MsAt w S M m) (hk : aI M.op = true) : MsAt w S M.only m.only:=by
 obtain ⟨f,at',li,mo,de,co,rfl,hfit,hfl,hat,hli,hmo,hde,hco⟩:=h
 obtain ⟨id,op,version,name,sasl,secret,kind,has,value,code,text,scope,deref,size,time,types,filter,attrs,list,mods,rdn,old,dest,other,controls⟩:=M
 unfold Ms.fits at hfit
 simp only at hfit hk hfl hat hli hmo hde hco
 obtain ⟨z1,z2,z3,z4,z5,z6⟩:=hfit
 have z0 : (⟨#[]⟩ : ByteArray).size <= maxLen:=Nat.zero_le _
 have n1 : SRow w S Rw.none []:=RowOf.nil _ _
 have n2 : RowOf 2 dk w S Rw.none []:=RowOf.nil _ _
 have n3 : RowOf 3 ModAt w S Rw.none []:=RowOf.nil _ _
 have n4:=di w S
 rcases cH sasl hk with ⟨h,h'⟩ | ⟨h,h'⟩ | h | h | h | h | h | h | h | h | h | h | h | h | h | h | h | h | h | h
 all_goals
  subst h
  try subst h'
  refine ⟨_,_,_,_,_,_,rfl,?_,?_,?_,?_,?_,?_,?_⟩
 all_goals
  first
  | exact ⟨by first | exact z0 | assumption,by first | exact z0 | assumption,by first | exact z0 | assumption,by first | exact z0 | assumption,by first | exact z0 | assumption,by first | exact z0 | assumption⟩
  | exact hfl
  | exact n4
  | exact hat
  | exact hli
  | exact hmo
  | exact hde
  | exact hco
  | exact n1
  | exact n2
  | exact n3
theorem Ms.only_eq (M : Ms) (hk : aI M.op = true) (he : M.lens.bare.empty = true) : M.only = M:=by
 have h:=MC.empty_all _ he
 clear he
 obtain ⟨id,op,version,name,sasl,secret,kind,has,value,code,text,scope,deref,size,time,types,filter,attrs,list,mods,rdn,old,dest,other,controls⟩:=M
 obtain ⟨fk,fa,fv,ff,fany,fl,fkids⟩:=filter
 simp only [Ms.lens,Ms.mc,Fl.lens] at h
 rcases cH sasl hk with ⟨h0,h'⟩ | ⟨h0,h'⟩ | h0 | h0 | h0 | h0 | h0 | h0 | h0 | h0 | h0 | h0 | h0 | h0 | h0 | h0 | h0 | h0 | h0 | h0
 all_goals
  subst h0
  try subst h'
  simp [MC.bare,Rw.none,rw,FC.zero] at h
  simp [Ms.only,Ms.zero,Fl.zero,h]
theorem Ms.only_lens (M : Ms) (hk : aI M.op = true) (h : M.lens = M.only.lens) : M.lens.bare.empty = true:=by
 obtain ⟨id,op,version,name,sasl,secret,kind,has,value,code,text,scope,deref,size,time,types,filter,attrs,list,mods,rdn,old,dest,other,controls⟩:=M
 obtain ⟨fk,fa,fv,ff,fany,fl,fkids⟩:=filter
 rcases cH sasl hk with ⟨h0,h'⟩ | ⟨h0,h'⟩ | h0 | h0 | h0 | h0 | h0 | h0 | h0 | h0 | h0 | h0 | h0 | h0 | h0 | h0 | h0 | h0 | h0 | h0
 all_goals
  subst h0
  try subst h'
  simp [Ms.only,Ms.lens,Ms.mc,Ms.zero,Fl.lens,Fl.zero,rw] at h
  simp [Ms.lens,Ms.mc,Fl.lens,MC.bare,FC.zero,Rw.none,MC.empty,MC.nums,MC.txts,MC.trus,MC.rows,MC.fils,ai,rw,h]
theorem Ms.only_rows (M : Ms) (hk : aI M.op = true) : (M.only.filter = M.filter \/ M.only.filter = Fl.zero) /\ (M.only.attrs = M.attrs \/ M.only.attrs = []) /\ (M.only.dest = M.dest \/ M.only.dest = []):=by
 obtain ⟨id,op,version,name,sasl,secret,kind,has,value,code,text,scope,deref,size,time,types,filter,attrs,list,mods,rdn,old,dest,other,controls⟩:=M
 rcases cH sasl hk with ⟨h0,h'⟩ | ⟨h0,h'⟩ | h0 | h0 | h0 | h0 | h0 | h0 | h0 | h0 | h0 | h0 | h0 | h0 | h0 | h0 | h0 | h0 | h0 | h0
 all_goals
  subst h0
  try subst h'
  simp [Ms.only,Ms.zero]
def mdOk (l : List Md) : Bool:=l.all fun x => inB x.1 0 2
def Ms.bad14 (M : Ms) : Bool:=(M.op == 0 && (decide (M.version < 1) || decide (127 < M.version))) || (M.op == 3 && !M.filter.right)
def Ms.bad16 (M : Ms) : Bool:=(M.op != 14 && (!M.has && ai M.value)) || decide (1 < M.dest.length)
def Ms.inAll (M : Ms) : Bool:=inB M.scope 0 2 && (inB M.deref 0 3 && (inB M.size 0 2147483647 && (inB M.time 0 2147483647 && (inB M.other 0 2147483647 && inB M.code 0 127))))
def Ms.good2 (M : Ms) : Bool:=aI M.op && (inB M.id 0 2147483647 && M.lens.bare.empty)
def Ms.rright (M : Ms) : Bool:=M.good2 && (M.ctlsOk && (mdOk M.mods && (!M.bad14 && (!M.bad16 && M.inAll))))
theorem inB_iff {n lo hi : Int} : inB n lo hi = true ↔ lo <= n /\ n <= hi:=by simp [inB]
theorem inB_zero {hi : Int} (h : 0 <= hi) : inB 0 0 hi = true:=inB_iff.2 ⟨Int.le_refl _,h⟩
theorem full_zero' : ai ⟨#[]⟩ = false:=by unfold ai; simp [ByteArray.toList_eq]
theorem ver_in (v : Int) : (!decide (v < 1) && !decide (127 < v)) = inB v 1 127:=by
 rw [Bool.eq_iff_iff,inB_iff]
 simp
theorem Ms.known_ranged (M : Ms) (h : M.ranged = true) : aI M.op = true:=by
 unfold Ms.ranged at h
 unfold aI
 by_cases h0 : M.op = 0
 ·simp [h0]
 rw [if_neg h0] at h
 by_cases h3 : M.op = 3
 ·simp [h3]
 rw [if_neg h3] at h
 by_cases h6 : M.op = 6
 ·simp [h6]
 rw [if_neg h6] at h
 by_cases h12 : M.op = 12
 ·simp [h12]
 rw [if_neg h12] at h
 by_cases h16 : M.op = 16
 ·simp [h16]
 rw [if_neg h16] at h
 by_cases h23 : M.op = 23
 ·simp [h23]
 rw [if_neg h23] at h
 by_cases hr : M.op = 2 \/ M.op = 4 \/ M.op = 8 \/ M.op = 10 \/ M.op = 14
 ·rcases hr with h | h | h | h | h <;> simp [h]
 rw [if_neg hr,Bool.and_eq_true] at h
 simp [h.1]
theorem Ms.rest_ranged (M : Ms) (hk : aI M.op = true) (he : M.lens.bare.empty = true) : (mdOk M.mods && (!M.bad14 && (!M.bad16 && M.inAll))) = M.ranged:=by
 have h:=MC.empty_all _ he
 clear he
 obtain ⟨id,op,version,name,sasl,secret,kind,has,value,code,text,scope,deref,size,time,types,filter,attrs,list,mods,rdn,old,dest,other,controls⟩:=M
 obtain ⟨F,hF⟩ : ∃ F,F = filter:=⟨_,rfl⟩
 obtain ⟨fk,fa,fv,ff,fany,fl,fkids⟩:=filter
 simp only [Ms.lens,Ms.mc,Fl.lens] at h
 rcases cH sasl hk with ⟨h0,h'⟩ | ⟨h0,h'⟩ | h0 | h0 | h0 | h0 | h0 | h0 | h0 | h0 | h0 | h0 | h0 | h0 | h0 | h0 | h0 | h0 | h0 | h0
 all_goals
  subst h0
  try subst h'
  simp [MC.bare,Rw.none,rw,FC.zero] at h
  simp [Ms.bad14,Ms.bad16,Ms.inAll,Ms.ranged,mdOk,aD,inB_zero,full_zero',h]
 all_goals first
  | (rw [ver_in])
  | (generalize (Fl.mk fk fa fv ff fany fl fkids).right = a; generalize inB scope 0 2 = b; generalize inB deref 0 3 = c; generalize inB size 0 2147483647 = d; generalize inB time 0 2147483647 = e; cases a <;> cases b <;> cases c <;> cases d <;> cases e <;> rfl)
  | (by_cases hd : dest.length <= 1 <;> first | (rw [ab hd,ae (by omega)]; rfl) | (rw [ae hd,ab (by omega)]; rfl))
theorem Ms.rright_eq (M : Ms) : M.rright = M.right:=by
 unfold Ms.rright Ms.good2 Ms.right
 cases hi : inB M.id 0 2147483647
 ·simp
 cases he : M.lens.bare.empty
 ·simp
 cases hc : M.ctlsOk
 ·simp
 cases hk : aI M.op
 ·cases hr : M.ranged
  ·simp
  ·have:=M.known_ranged hr
   rw [hk] at this
   cases this
 ·have:=M.rest_ranged hk he
  simp [this]
theorem same01_nil (A B : Option Addr) (c d : Nat) (w : World) : Calls Tryz.prog 47 #[.slice A 0 c,.slice B 0 d] w (cQ true w):=by
 go_enter Tryz.func47,Tryz.ntmps47
 go_wp2_with fail
 refine wp_loop_rounds 2 ?_
 repeat any_goals (rw [rounds_succ]; go_wp2_with fail)
 go_ret
 exact ⟨rfl,rfl⟩
theorem same19_zero (A1 A2 B1 B2 : Option Addr) (c1 c2 d1 d2 : Nat) (w : World) : Calls Tryz.prog 46 #[.agg #[.int .i64 0,.string ⟨#[]⟩,.string ⟨#[]⟩,.string ⟨#[]⟩,.slice A1 0 c1,.string ⟨#[]⟩,.slice A2 0 c2],.agg #[.int .i64 0,.string ⟨#[]⟩,.string ⟨#[]⟩,.string ⟨#[]⟩,.slice B1 0 d1,.string ⟨#[]⟩,.slice B2 0 d2]] w (ap true w):=by
 go_enter Tryz.func46,Tryz.ntmps46
 go_wp2_with fail
 refine wp_loop_rounds 2 ?_
 repeat any_goals (rw [rounds_succ]; go_wp2_with fail)
 refine wp_loop_rounds 2 ?_
 repeat any_goals (rw [rounds_succ]; go_wp2_with fail)
 go_ret
 exact ah rfl (((Below.refl _ w).alloc (Nat.le_refl _) _).alloc (by simp) _)
theorem cR {w : World} {S : Nat -> Prop} {f : FC} (h : FlAt w S Fl.zero f.cells) : ∃ (A1 A2 : Option Addr) (c1 c2 : Nat),f = ⟨0,⟨#[]⟩,⟨#[]⟩,⟨#[]⟩,⟨A1,0,c1⟩,⟨#[]⟩,⟨A2,0,c2⟩⟩:=by
 obtain ⟨k,a,v,g,⟨qA,qn,qc⟩,l,⟨rA,rn,rc⟩⟩:=f
 unfold Fl.zero FlAt at h
 obtain ⟨q,r,hc,-,hq,hr,-⟩:=h
 simp only [FC.cells,List.cons.injEq,Value.int.injEq,Value.string.injEq,Value.slice.injEq,and_true,true_and] at hc
 obtain ⟨rfl,rfl,rfl,rfl,⟨rfl,rfl,rfl⟩,rfl,rfl,rfl,rfl⟩:=hc
 have e1 : q.n = 0:=hq.1
 have e2 : r.n = 0:=hr.1
 exact ⟨q.A,r.A,q.c,r.c,by rw [e1,e2]⟩
theorem bk_second (w : World) (cs ds : Array Value) : Bk ((w.alloc (.cells cs 30)).alloc (.cells ds 30)) (w.heap.size + 1) 30 ds:=by
 have h:=Bk.new (w.alloc (.cells cs 30)) 30 ds
 have e : (w.alloc (.cells cs 30)).heap.size = w.heap.size + 1:=by simp
 rwa [e] at h
theorem same_flat (id op : Int) (m1 m2 : MC) (S1 S2 : Nat -> Prop) (w : World) (h1 : MsAt w S1 (Ms.base id op) m1) (h2 : MsAt w S2 (Ms.base id op) m2) :
  Calls Tryz.prog 12 #[.agg m1.cells,.agg m2.cells] w (ap true w):=by
 obtain ⟨f,⟨aA,an,ac⟩,⟨lA,ln,lc⟩,⟨mA,mn,mc⟩,⟨dA,dn,dc⟩,⟨oA,on,oc⟩,rfl,-,hfl,hat,hli,hmo,hde,hco⟩:=h1
 obtain ⟨f',⟨aA',an',ac'⟩,⟨lA',ln',lc'⟩,⟨mA',mn',mc'⟩,⟨dA',dn',dc'⟩,⟨oA',on',oc'⟩,rfl,-,hfl',hat',hli',hmo',hde',hco'⟩:=h2
 obtain ⟨A1,A2,k1,k2,rfl⟩:=cR hfl
 obtain ⟨A1',A2',k1',k2',rfl⟩:=cR hfl'
 obtain rfl : an = 0:=hat.1
 obtain rfl : ln = 0:=hli.1
 obtain rfl : mn = 0:=hmo.1
 obtain rfl : dn = 0:=hde.1
 obtain rfl : on = 0:=hco.1
 obtain rfl : an' = 0:=hat'.1
 obtain rfl : ln' = 0:=hli'.1
 obtain rfl : mn' = 0:=hmo'.1
 obtain rfl : dn' = 0:=hde'.1
 obtain rfl : on' = 0:=hco'.1
 clear hfl hat hli hmo hde hco hfl' hat' hli' hmo' hde' hco'
 have HB:=aa (((Below.refl w.heap.size w).alloc (Nat.le_refl _) (.cells ((Ms.base id op).mc ⟨0,⟨#[]⟩,⟨#[]⟩,⟨#[]⟩,⟨A1,0,k1⟩,⟨#[]⟩,⟨A2,0,k2⟩⟩ ⟨aA,0,ac⟩ ⟨lA,0,lc⟩ ⟨mA,0,mc⟩ ⟨dA,0,dc⟩ ⟨oA,0,oc⟩).cells 30)).alloc (by simp) (.cells ((Ms.base id op).mc ⟨0,⟨#[]⟩,⟨#[]⟩,⟨#[]⟩,⟨A1',0,k1'⟩,⟨#[]⟩,⟨A2',0,k2'⟩⟩ ⟨aA',0,ac'⟩ ⟨lA',0,lc'⟩ ⟨mA',0,mc'⟩ ⟨dA',0,dc'⟩ ⟨oA',0,oc'⟩).cells 30))
 obtain ⟨cs,hcs⟩ : ∃ cs,cs = ((Ms.base id op).mc ⟨0,⟨#[]⟩,⟨#[]⟩,⟨#[]⟩,⟨A1,0,k1⟩,⟨#[]⟩,⟨A2,0,k2⟩⟩ ⟨aA,0,ac⟩ ⟨lA,0,lc⟩ ⟨mA,0,mc⟩ ⟨dA,0,dc⟩ ⟨oA,0,oc⟩).cells:=⟨_,rfl⟩
 obtain ⟨ds,hds⟩ : ∃ ds,ds = ((Ms.base id op).mc ⟨0,⟨#[]⟩,⟨#[]⟩,⟨#[]⟩,⟨A1',0,k1'⟩,⟨#[]⟩,⟨A2',0,k2'⟩⟩ ⟨aA',0,ac'⟩ ⟨lA',0,lc'⟩ ⟨mA',0,mc'⟩ ⟨dA',0,dc'⟩ ⟨oA',0,oc'⟩).cells:=⟨_,rfl⟩
 rw [<- hcs,<- hds] at HB
 rw [<- hcs,<- hds]
 have c0 : cs[0]? = some (.int .i64 id):=by rw [hcs]; rfl
 have c1 : cs[1]? = some (.int .i64 op):=by rw [hcs]; rfl
 have c2 : cs[2]? = some (.int .i64 0):=by rw [hcs]; rfl
 have c3 : cs[3]? = some (.string ⟨#[]⟩):=by rw [hcs]; rfl
 have c4 : cs[4]? = some (.bool false):=by rw [hcs]; rfl
 have c5 : cs[5]? = some (.string ⟨#[]⟩):=by rw [hcs]; rfl
 have c6 : cs[6]? = some (.string ⟨#[]⟩):=by rw [hcs]; rfl
 have c7 : cs[7]? = some (.bool false):=by rw [hcs]; rfl
 have c8 : cs[8]? = some (.string ⟨#[]⟩):=by rw [hcs]; rfl
 have c9 : cs[9]? = some (.int .i64 0):=by rw [hcs]; rfl
 have c10 : cs[10]? = some (.string ⟨#[]⟩):=by rw [hcs]; rfl
 have c11 : cs[11]? = some (.int .i64 0):=by rw [hcs]; rfl
 have c12 : cs[12]? = some (.int .i64 0):=by rw [hcs]; rfl
 have c13 : cs[13]? = some (.int .i64 0):=by rw [hcs]; rfl
 have c14 : cs[14]? = some (.int .i64 0):=by rw [hcs]; rfl
 have c15 : cs[15]? = some (.bool false):=by rw [hcs]; rfl
 have c16 : cs[16]? = some (.int .i64 0):=by rw [hcs]; rfl
 have c17 : cs[17]? = some (.string ⟨#[]⟩):=by rw [hcs]; rfl
 have c18 : cs[18]? = some (.string ⟨#[]⟩):=by rw [hcs]; rfl
 have c19 : cs[19]? = some (.string ⟨#[]⟩):=by rw [hcs]; rfl
 have c20 : cs[20]? = some (.slice A1 0 k1):=by rw [hcs]; rfl
 have c21 : cs[21]? = some (.string ⟨#[]⟩):=by rw [hcs]; rfl
 have c22 : cs[22]? = some (.slice A2 0 k2):=by rw [hcs]; rfl
 have c23 : cs[23]? = some (.slice aA 0 ac):=by rw [hcs]; rfl
 have c24 : cs[24]? = some (.slice lA 0 lc):=by rw [hcs]; rfl
 have c25 : cs[25]? = some (.slice mA 0 mc):=by rw [hcs]; rfl
 have c26 : cs[26]? = some (.string ⟨#[]⟩):=by rw [hcs]; rfl
 have c27 : cs[27]? = some (.bool false):=by rw [hcs]; rfl
 have c28 : cs[28]? = some (.slice dA 0 dc):=by rw [hcs]; rfl
 have c29 : cs[29]? = some (.int .i64 0):=by rw [hcs]; rfl
 have c30 : cs[30]? = some (.slice oA 0 oc):=by rw [hcs]; rfl
 have d0 : ds[0]? = some (.int .i64 id):=by rw [hds]; rfl
 have d1 : ds[1]? = some (.int .i64 op):=by rw [hds]; rfl
 have d2 : ds[2]? = some (.int .i64 0):=by rw [hds]; rfl
 have d3 : ds[3]? = some (.string ⟨#[]⟩):=by rw [hds]; rfl
 have d4 : ds[4]? = some (.bool false):=by rw [hds]; rfl
 have d5 : ds[5]? = some (.string ⟨#[]⟩):=by rw [hds]; rfl
 have d6 : ds[6]? = some (.string ⟨#[]⟩):=by rw [hds]; rfl
 have d7 : ds[7]? = some (.bool false):=by rw [hds]; rfl
 have d8 : ds[8]? = some (.string ⟨#[]⟩):=by rw [hds]; rfl
 have d9 : ds[9]? = some (.int .i64 0):=by rw [hds]; rfl
 have d10 : ds[10]? = some (.string ⟨#[]⟩):=by rw [hds]; rfl
 have d11 : ds[11]? = some (.int .i64 0):=by rw [hds]; rfl
 have d12 : ds[12]? = some (.int .i64 0):=by rw [hds]; rfl
 have d13 : ds[13]? = some (.int .i64 0):=by rw [hds]; rfl
 have d14 : ds[14]? = some (.int .i64 0):=by rw [hds]; rfl
 have d15 : ds[15]? = some (.bool false):=by rw [hds]; rfl
 have d16 : ds[16]? = some (.int .i64 0):=by rw [hds]; rfl
 have d17 : ds[17]? = some (.string ⟨#[]⟩):=by rw [hds]; rfl
 have d18 : ds[18]? = some (.string ⟨#[]⟩):=by rw [hds]; rfl
 have d19 : ds[19]? = some (.string ⟨#[]⟩):=by rw [hds]; rfl
 have d20 : ds[20]? = some (.slice A1' 0 k1'):=by rw [hds]; rfl
 have d21 : ds[21]? = some (.string ⟨#[]⟩):=by rw [hds]; rfl
 have d22 : ds[22]? = some (.slice A2' 0 k2'):=by rw [hds]; rfl
 have d23 : ds[23]? = some (.slice aA' 0 ac'):=by rw [hds]; rfl
 have d24 : ds[24]? = some (.slice lA' 0 lc'):=by rw [hds]; rfl
 have d25 : ds[25]? = some (.slice mA' 0 mc'):=by rw [hds]; rfl
 have d26 : ds[26]? = some (.string ⟨#[]⟩):=by rw [hds]; rfl
 have d27 : ds[27]? = some (.bool false):=by rw [hds]; rfl
 have d28 : ds[28]? = some (.slice dA' 0 dc'):=by rw [hds]; rfl
 have d29 : ds[29]? = some (.int .i64 0):=by rw [hds]; rfl
 have d30 : ds[30]? = some (.slice oA' 0 oc'):=by rw [hds]; rfl
 clear hcs hds
 have t1 : (id != id) = false:=by simp
 have t2 : (op != op) = false:=by simp
 go_enter Tryz.func12,Tryz.ntmps12
 go_wp2_with (first
  | (go_at_call 46; refine (same19_zero A1 A2 A1' A2' k1 k2 k1' k2' _).mono ?_; rintro e w1 ⟨rfl,hb1⟩; have HB1:=aa hb1; have e1:=fun i => (af ((Bk.new w 30 cs).alloc (.cells ds 30)) hb1).cell i; have e2:=fun i => (af (bk_second w cs ds) hb1).cell i; clear hb1)
  | (go_at_call 47; refine (same01_nil _ _ _ _ _).mono ?_; rintro e w1 ⟨rfl,rfl⟩)
  | fail)
 refine wp_loop_rounds 2 ?_
 repeat any_goals (rw [rounds_succ]; go_wp2_with fail)
 refine wp_loop_rounds 2 ?_
 repeat any_goals (rw [rounds_succ]; go_wp2_with fail)
 refine wp_loop_rounds 2 ?_
 repeat any_goals (rw [rounds_succ]; go_wp2_with fail)
 go_ret
 exact ah rfl (HB.out.trans (HB1.out.mono HB.out.size))
theorem db (q q' : Rw) (ss : List ByteArray) (S S' : Nat -> Prop) (w : World) (h : SRow w S q ss) (h' : SRow w S' q' ss) : Calls Tryz.prog 47 #[.slice q.A q.n q.c,.slice q'.A q'.n q'.c] w (ap true w):=by
 obtain ⟨qA,qn,qc⟩:=q
 obtain ⟨rA,rn,rc⟩:=q'
 obtain ⟨h1,h2,h3,h4⟩:=h
 obtain ⟨k1,k2,k3,k4⟩:=h'
 simp only at h1 h2 h3 h4 k1 k2 k3 k4 |-
 subst h1 k1
 have H4:=aa h4
 have K4:=aa k4
 have hcm : qc <= 9223372036854775807:=by unfold maxLen at h3; omega
 have kcm : rc <= 9223372036854775807:=by unfold maxLen at k3; omega
 clear h4 h3 k4 k3
 go_enter Tryz.func47,Tryz.ntmps47
 go_wp2_with fail
 go_loopw [5] (fun i wr => ∃ (j : Nat),i = .int .i64 j /\ j <= ss.length /\ Below w.heap.size w wr) (fun i _ => ss.length - (intOf i).toNat)
 case atStart => exact ⟨0,rfl,Nat.zero_le _,Below.refl _ _⟩
 case round =>
  obtain ⟨j,rfl,hj,hbw⟩:=hrel
  have HBW:=aa hbw
  have HBD:=aa hbw.drew
  by_cases hlt : j < ss.length
  ·have z1 : decide ((j : Int) < (ss.length : Int)) = true:=ab (by omega)
   obtain ⟨b,o,c,rfl,hS,hcl,hc,hat,hsz⟩:=H4.out j ss[j] (List.getElem?_eq_getElem hlt)
   obtain ⟨b',o',c',rfl,hS',hcl',hc',hat',hsz'⟩:=K4.out j ss[j] (List.getElem?_eq_getElem hlt)
   subst hat hat'
   have q0 : wr.cell? ⟨b,o + j,none⟩ = some (.string ss[j]):=by have:=hc 0 _ rfl; rw [Nat.mul_one,Nat.add_zero] at this; exact (hbw.cell (p:=⟨b,o + j,none⟩) hS.2).trans this
   have q1 : wr.cell? ⟨b',o' + j,none⟩ = some (.string ss[j]):=by have:=hc' 0 _ rfl; rw [Nat.mul_one,Nat.add_zero] at this; exact (hbw.cell (p:=⟨b',o' + j,none⟩) hS'.2).trans this
   have hb1 : b < wr.heap.size:=Nat.lt_of_lt_of_le hS.2 hbw.size
   have hb2 : b' < wr.heap.size:=Nat.lt_of_lt_of_le hS'.2 hbw.size
   obtain ⟨s,hs⟩ : ∃ s,s = ss[j]:=⟨_,rfl⟩
   rw [<- hs] at q0 q1
   clear hc hS hs hcl hc' hS' hcl' hbw
   go_wp2_with fail
   go_region_held3 (fun W => W.cell? ⟨b,o + j,none⟩ = some (.string s) /\ W.cell? ⟨b',o' + j,none⟩ = some (.string s)) (exact ⟨q0,q1⟩) (fail)
   all_goals
    go_wp2_with fail
    go_roundw
    case rel => exact ⟨j + 1,by go_num,by omega,HBD.out⟩
    case measure => simp [intOf]; omega
  ·have z1 : decide ((j : Int) < (ss.length : Int)) = false:=ae (by omega)
   clear hbw
   go_wp2_with fail
   go_ret
   exact ah rfl HBW.out
theorem fsame_one (f : Fl) (c c' : List Value) (S S' : Nat -> Prop) (w : World) (h : FlAt w S f c) (h' : FlAt w S' f c')
  (ih : ∀ (k a v g any l kids),f = .mk k a v g any l kids -> ∀ y ∈ kids,∀ (c c' : List Value) (S S' : Nat -> Prop) (w : World),FlAt w S y c -> FlAt w S' y c' -> Calls Tryz.prog 46 #[.agg c.toArray,.agg c'.toArray] w (ap true w)) :
  Calls Tryz.prog 46 #[.agg c.toArray,.agg c'.toArray] w (ap true w):=by
 obtain ⟨k,a,v,g,any,l,kids⟩:=f
 have IH:=aa (ih k a v g any l kids rfl)
 clear ih
 unfold FlAt at h h'
 obtain ⟨⟨qA,qn,qc⟩,⟨rA,rn,rc⟩,rfl,-,⟨hq1,hq2,hq3,hq4⟩,⟨hr1,hr2,hr3⟩,hks⟩:=h
 obtain ⟨⟨qA',qn',qc'⟩,⟨rA',rn',rc'⟩,rfl,-,⟨hq1',hq2',hq3',hq4'⟩,⟨hr1',hr2',hr3'⟩,hks'⟩:=h'
 simp only at hq1 hq2 hq3 hq4 hr1 hr2 hr3 hks hq1' hq2' hq3' hq4' hr1' hr2' hr3' hks' |-
 subst hr1 hq1 hr1' hq1'
 obtain ⟨wa,hwa⟩ : ∃ W,W = w.alloc (.cells #[.int .i64 k,.string a,.string v,.string g,.slice qA any.length qc,.string l,.slice rA kids.length rc] 25):=⟨_,rfl⟩
 have hsa : wa.heap.size = w.heap.size + 1:=by rw [hwa]; simp
 have hba : Below w.heap.size w wa:=by rw [hwa]; exact (Below.refl w.heap.size w).alloc (Nat.le_refl _) _
 have hka : Bk wa w.heap.size 25 #[.int .i64 k,.string a,.string v,.string g,.slice qA any.length qc,.string l,.slice rA kids.length rc]:=by rw [hwa]; exact Bk.new w _ _
 obtain ⟨w1,hw1⟩ : ∃ W,W = wa.alloc (.cells #[.int .i64 k,.string a,.string v,.string g,.slice qA' any.length qc',.string l,.slice rA' kids.length rc'] 25):=⟨_,rfl⟩
 have hb1 : Below w.heap.size w w1:=by rw [hw1]; exact hba.alloc hba.size _
 have hk1 : Bk w1 w.heap.size 25 #[.int .i64 k,.string a,.string v,.string g,.slice qA any.length qc,.string l,.slice rA kids.length rc]:=by rw [hw1]; exact hka.alloc _
 have hg1 : Bk w1 (w.heap.size + 1) 25 #[.int .i64 k,.string a,.string v,.string g,.slice qA' any.length qc',.string l,.slice rA' kids.length rc']:=by rw [hw1,<- hsa]; exact Bk.new wa _ _
 have HB:=aa hb1
 have HK1:=aa hk1
 have HG1:=aa hg1
 have HW1:=aa (show w1 = (w.alloc (.cells #[.int .i64 k,.string a,.string v,.string g,.slice qA any.length qc,.string l,.slice rA kids.length rc] 25)).alloc (.cells #[.int .i64 k,.string a,.string v,.string g,.slice qA' any.length qc',.string l,.slice rA' kids.length rc'] 25) by rw [hw1,hwa])
 have hqm : qc <= 9223372036854775807:=by unfold maxLen at hq3; omega
 have hrm : rc <= 9223372036854775807:=by unfold maxLen at hr3; omega
 have hqm' : qc' <= 9223372036854775807:=by unfold maxLen at hq3'; omega
 have hrm' : rc' <= 9223372036854775807:=by unfold maxLen at hr3'; omega
 have HQ:=aa hq4
 have HK:=aa hks
 have HQ':=aa hq4'
 have HK':=aa hks'
 have t1 : (k != k) = false:=by simp
 clear hwa hsa hba hka hw1 hb1 hk1 hg1 hq4 hks hq3 hr3 hq4' hks' hq3' hr3'
 go_enter Tryz.func46,Tryz.ntmps46
 go_wp2_with fail
 rw [<- HW1.out]
 go_loopw [5] (fun i wr => ∃ (j : Nat),i = .int .i64 j /\ j <= any.length /\ Below w.heap.size w wr /\ Bk wr w.heap.size 25 #[.int .i64 k,.string a,.string v,.string g,.slice qA any.length qc,.string l,.slice rA kids.length rc] /\ Bk wr (w.heap.size + 1) 25 #[.int .i64 k,.string a,.string v,.string g,.slice qA' any.length qc',.string l,.slice rA' kids.length rc']) (fun i _ => any.length - (intOf i).toNat)
 case atStart => exact ⟨0,rfl,Nat.zero_le _,HB.out,HK1.out,HG1.out⟩
 case round =>
  obtain ⟨j,rfl,hj,hbw,hbk,hbg⟩:=hrel
  have HBW:=aa hbw
  have HBK:=aa hbk
  have HBG:=aa hbg
  have HBD:=aa hbw.drew
  have p4 : wr.cell? ⟨w.heap.size,4,none⟩ = some (.slice qA any.length qc):=hbk.cell 4
  have p4' : wr.cell? ⟨w.heap.size + 1,4,none⟩ = some (.slice qA' any.length qc'):=hbg.cell 4
  have p6 : wr.cell? ⟨w.heap.size,6,none⟩ = some (.slice rA kids.length rc):=hbk.cell 6
  have p6' : wr.cell? ⟨w.heap.size + 1,6,none⟩ = some (.slice rA' kids.length rc'):=hbg.cell 6
  have l1:=hbk.lt
  have l2:=hbg.lt
  by_cases hlt : j < any.length
  ·have z1 : decide ((j : Int) < (any.length : Int)) = true:=ab (by omega)
   obtain ⟨b,o,c,rfl,hS,hcl,hc,hat,hsz⟩:=HQ.out j any[j] (List.getElem?_eq_getElem hlt)
   obtain ⟨b',o',c',rfl,hS',hcl',hc',hat',hsz'⟩:=HQ'.out j any[j] (List.getElem?_eq_getElem hlt)
   subst hat hat'
   have q0 : wr.cell? ⟨b,o + j,none⟩ = some (.string any[j]):=by have:=hc 0 _ rfl; rw [Nat.mul_one,Nat.add_zero] at this; exact (hbw.cell (p:=⟨b,o + j,none⟩) hS.2).trans this
   have q1 : wr.cell? ⟨b',o' + j,none⟩ = some (.string any[j]):=by have:=hc' 0 _ rfl; rw [Nat.mul_one,Nat.add_zero] at this; exact (hbw.cell (p:=⟨b',o' + j,none⟩) hS'.2).trans this
   have hb1 : b < wr.heap.size:=Nat.lt_of_lt_of_le hS.2 hbw.size
   have hb2 : b' < wr.heap.size:=Nat.lt_of_lt_of_le hS'.2 hbw.size
   obtain ⟨s,hs⟩ : ∃ s,s = any[j]:=⟨_,rfl⟩
   rw [<- hs] at q0 q1
   clear hc hS hs hcl hc' hS' hcl' hbw hbk hbg
   go_wp2_with fail
   go_region_held3 (fun W => W.cell? ⟨w.heap.size,4,none⟩ = some (.slice (some ⟨b,o,none⟩) any.length qc) /\ W.cell? ⟨w.heap.size + 1,4,none⟩ = some (.slice (some ⟨b',o',none⟩) any.length qc') /\ W.cell? ⟨b,o + j,none⟩ = some (.string s) /\ W.cell? ⟨b',o' + j,none⟩ = some (.string s)) (exact ⟨p4,p4',q0,q1⟩) (fail)
   all_goals
    go_wp2_with fail
    go_roundw
    case rel => exact ⟨j + 1,by go_num,by omega,HBD.out,HBK.out,HBG.out⟩
    case measure => simp [intOf]; omega
  ·have z1 : decide ((j : Int) < (any.length : Int)) = false:=ae (by omega)
   clear hbw hbk hbg
   go_wp2_with fail
   obtain ⟨wx,hwx⟩ : ∃ W,W = wr:=⟨_,rfl⟩
   rw [<- hwx] at HBW HBK HBG |-
   clear HBD p4 p4' p6 p6' l1 l2 hlt hj z1
   go_loopw [6] (fun i wr => ∃ (j : Nat),i = .int .i64 j /\ j <= kids.length /\ Below w.heap.size w wr /\ Bk wr w.heap.size 25 #[.int .i64 k,.string a,.string v,.string g,.slice qA any.length qc,.string l,.slice rA kids.length rc] /\ Bk wr (w.heap.size + 1) 25 #[.int .i64 k,.string a,.string v,.string g,.slice qA' any.length qc',.string l,.slice rA' kids.length rc']) (fun i _ => kids.length - (intOf i).toNat)
   case atStart => exact ⟨0,rfl,Nat.zero_le _,HBW.out,HBK.out,HBG.out⟩
   case round =>
    obtain ⟨j,rfl,hj,hbw,hbk,hbg⟩:=hrel
    have HBW:=aa hbw
    have HBK:=aa hbk
    have HBG:=aa hbg
    have p6 : wr.cell? ⟨w.heap.size,6,none⟩ = some (.slice rA kids.length rc):=hbk.cell 6
    have p6' : wr.cell? ⟨w.heap.size + 1,6,none⟩ = some (.slice rA' kids.length rc'):=hbg.cell 6
    have l1:=hbk.lt
    have l2:=hbg.lt
    by_cases hlt : j < kids.length
    ·have z1 : decide ((j : Int) < (kids.length : Int)) = true:=ab (by omega)
     obtain ⟨b,o,c,rfl,hS,hc1,hcl,hfk⟩:=HK.out.get j kids[j] (List.getElem?_eq_getElem hlt)
     obtain ⟨b',o',c',rfl,hS',hc1',hcl',hfk'⟩:=HK'.out.get j kids[j] (List.getElem?_eq_getElem hlt)
     rw [Nat.zero_add] at hcl hcl'
     obtain ⟨y0,y1,y2,y3,y5,yA,yn,yc,zA,zn,zc,rfl⟩:=bh hfk
     obtain ⟨x0,x1,x2,x3,x5,xA,xn,xc,vA,vn,vc,rfl⟩:=bh hfk'
     have hbl : b < w.heap.size:=hS.2
     have hbl' : b' < w.heap.size:=hS'.2
     have hcw : ∀ o',wr.cell? ⟨b,o',none⟩ = w.cell? ⟨b,o',none⟩:=fun o' => hbw.cell (p:=⟨b,o',none⟩) hbl
     have hcw' : ∀ o,wr.cell? ⟨b',o,none⟩ = w.cell? ⟨b',o,none⟩:=fun o => hbw.cell (p:=⟨b',o,none⟩) hbl'
     have q0 : wr.cell? ⟨b,o + j * 7,none⟩ = some (.int .i64 y0):=(hcw _).trans (hcl 0 _ rfl)
     have q1 : wr.cell? ⟨b,o + j * 7 + 1,none⟩ = some (.string y1):=(hcw _).trans (hcl 1 _ rfl)
     have q2 : wr.cell? ⟨b,o + j * 7 + 2,none⟩ = some (.string y2):=(hcw _).trans (hcl 2 _ rfl)
     have q3 : wr.cell? ⟨b,o + j * 7 + 3,none⟩ = some (.string y3):=(hcw _).trans (hcl 3 _ rfl)
     have q4 : wr.cell? ⟨b,o + j * 7 + 4,none⟩ = some (.slice yA yn yc):=(hcw _).trans (hcl 4 _ rfl)
     have q5 : wr.cell? ⟨b,o + j * 7 + 5,none⟩ = some (.string y5):=(hcw _).trans (hcl 5 _ rfl)
     have q6 : wr.cell? ⟨b,o + j * 7 + 6,none⟩ = some (.slice zA zn zc):=(hcw _).trans (hcl 6 _ rfl)
     have r0 : wr.cell? ⟨b',o' + j * 7,none⟩ = some (.int .i64 x0):=(hcw' _).trans (hcl' 0 _ rfl)
     have r1 : wr.cell? ⟨b',o' + j * 7 + 1,none⟩ = some (.string x1):=(hcw' _).trans (hcl' 1 _ rfl)
     have r2 : wr.cell? ⟨b',o' + j * 7 + 2,none⟩ = some (.string x2):=(hcw' _).trans (hcl' 2 _ rfl)
     have r3 : wr.cell? ⟨b',o' + j * 7 + 3,none⟩ = some (.string x3):=(hcw' _).trans (hcl' 3 _ rfl)
     have r4 : wr.cell? ⟨b',o' + j * 7 + 4,none⟩ = some (.slice xA xn xc):=(hcw' _).trans (hcl' 4 _ rfl)
     have r5 : wr.cell? ⟨b',o' + j * 7 + 5,none⟩ = some (.string x5):=(hcw' _).trans (hcl' 5 _ rfl)
     have r6 : wr.cell? ⟨b',o' + j * 7 + 6,none⟩ = some (.slice vA vn vc):=(hcw' _).trans (hcl' 6 _ rfl)
     have hbr : b < wr.heap.size:=Nat.lt_of_lt_of_le hbl hbw.size
     have hbr' : b' < wr.heap.size:=Nat.lt_of_lt_of_le hbl' hbw.size
     have L1:=aa l1
     have L2:=aa l2
     have HKS:=aa fun (W : World) (hb : Below wr.heap.size wr W) => (show W.cell? ⟨w.heap.size,6,none⟩ = some (.slice (some ⟨b,o,none⟩) kids.length rc) /\ W.cell? ⟨w.heap.size + 1,6,none⟩ = some (.slice (some ⟨b',o',none⟩) kids.length rc') /\ W.cell? ⟨b,o + j * 7,none⟩ = some (.int .i64 y0) /\ W.cell? ⟨b,o + j * 7 + 1,none⟩ = some (.string y1) /\ W.cell? ⟨b,o + j * 7 + 2,none⟩ = some (.string y2) /\ W.cell? ⟨b,o + j * 7 + 3,none⟩ = some (.string y3) /\ W.cell? ⟨b,o + j * 7 + 4,none⟩ = some (.slice yA yn yc) /\ W.cell? ⟨b,o + j * 7 + 5,none⟩ = some (.string y5) /\ W.cell? ⟨b,o + j * 7 + 6,none⟩ = some (.slice zA zn zc) /\ W.cell? ⟨b',o' + j * 7,none⟩ = some (.int .i64 x0) /\ W.cell? ⟨b',o' + j * 7 + 1,none⟩ = some (.string x1) /\ W.cell? ⟨b',o' + j * 7 + 2,none⟩ = some (.string x2) /\ W.cell? ⟨b',o' + j * 7 + 3,none⟩ = some (.string x3) /\ W.cell? ⟨b',o' + j * 7 + 4,none⟩ = some (.slice xA xn xc) /\ W.cell? ⟨b',o' + j * 7 + 5,none⟩ = some (.string x5) /\ W.cell? ⟨b',o' + j * 7 + 6,none⟩ = some (.slice vA vn vc) /\ Below wr.heap.size wr W from ⟨(hb.cell (p:=⟨w.heap.size,6,none⟩) L1.out).trans p6,(hb.cell (p:=⟨w.heap.size + 1,6,none⟩) L2.out).trans p6',(hb.cell (p:=⟨b,o + j * 7,none⟩) hbr).trans q0,(hb.cell (p:=⟨b,o + j * 7 + 1,none⟩) hbr).trans q1,(hb.cell (p:=⟨b,o + j * 7 + 2,none⟩) hbr).trans q2,(hb.cell (p:=⟨b,o + j * 7 + 3,none⟩) hbr).trans q3,(hb.cell (p:=⟨b,o + j * 7 + 4,none⟩) hbr).trans q4,(hb.cell (p:=⟨b,o + j * 7 + 5,none⟩) hbr).trans q5,(hb.cell (p:=⟨b,o + j * 7 + 6,none⟩) hbr).trans q6,(hb.cell (p:=⟨b',o' + j * 7,none⟩) hbr').trans r0,(hb.cell (p:=⟨b',o' + j * 7 + 1,none⟩) hbr').trans r1,(hb.cell (p:=⟨b',o' + j * 7 + 2,none⟩) hbr').trans r2,(hb.cell (p:=⟨b',o' + j * 7 + 3,none⟩) hbr').trans r3,(hb.cell (p:=⟨b',o' + j * 7 + 4,none⟩) hbr').trans r4,(hb.cell (p:=⟨b',o' + j * 7 + 5,none⟩) hbr').trans r5,(hb.cell (p:=⟨b',o' + j * 7 + 6,none⟩) hbr').trans r6,hb⟩)
     have HBR:=aa (Below.refl wr.heap.size wr).drew
     have HC:=aa fun (W : World) (hb : Below wr.heap.size wr W) => IH.out kids[j] (List.getElem_mem hlt) _ _ S S' W (FlAt.keep (T:=S) (hbw.trans (hb.mono hbw.size)).size (fun x _ hlt => (hbw.trans (hb.mono hbw.size)).block x hlt) (fun _ h _ => h) _ _ hfk) (FlAt.keep (T:=S') (hbw.trans (hb.mono hbw.size)).size (fun x _ hlt => (hbw.trans (hb.mono hbw.size)).block x hlt) (fun _ h _ => h) _ _ hfk')
     clear hS hc1 hcl hfk hcw hS' hc1' hcl' hfk' hcw' hbw hbk hbg
     go_wp2_with fail
     go_region_held3 (fun W => W.cell? ⟨w.heap.size,6,none⟩ = some (.slice (some ⟨b,o,none⟩) kids.length rc) /\ W.cell? ⟨w.heap.size + 1,6,none⟩ = some (.slice (some ⟨b',o',none⟩) kids.length rc') /\ W.cell? ⟨b,o + j * 7,none⟩ = some (.int .i64 y0) /\ W.cell? ⟨b,o + j * 7 + 1,none⟩ = some (.string y1) /\ W.cell? ⟨b,o + j * 7 + 2,none⟩ = some (.string y2) /\ W.cell? ⟨b,o + j * 7 + 3,none⟩ = some (.string y3) /\ W.cell? ⟨b,o + j * 7 + 4,none⟩ = some (.slice yA yn yc) /\ W.cell? ⟨b,o + j * 7 + 5,none⟩ = some (.string y5) /\ W.cell? ⟨b,o + j * 7 + 6,none⟩ = some (.slice zA zn zc) /\ W.cell? ⟨b',o' + j * 7,none⟩ = some (.int .i64 x0) /\ W.cell? ⟨b',o' + j * 7 + 1,none⟩ = some (.string x1) /\ W.cell? ⟨b',o' + j * 7 + 2,none⟩ = some (.string x2) /\ W.cell? ⟨b',o' + j * 7 + 3,none⟩ = some (.string x3) /\ W.cell? ⟨b',o' + j * 7 + 4,none⟩ = some (.slice xA xn xc) /\ W.cell? ⟨b',o' + j * 7 + 5,none⟩ = some (.string x5) /\ W.cell? ⟨b',o' + j * 7 + 6,none⟩ = some (.slice vA vn vc) /\ Below wr.heap.size wr W) (first | (with_reducible exact HKS.out _ HBR.out) | (with_reducible exact HKS.out _ (by assumption)))
      (first
       | (go_at_call 46; refine (HC.out _ HBR.out).mono ?_; rintro e w2 ⟨rfl,hb2⟩; have hn2:=aj HBR.out hb2)
       | fail)
     all_goals
      have hbw2:=HBW.out.trans (hn2.mono HBW.out.size)
      have hbk2:=af HBK.out hn2
      have hbg2:=af HBG.out hn2
      go_wp2_with fail
      go_roundw
      case rel => exact ⟨j + 1,by go_num,by omega,hbw2,hbk2,hbg2⟩
      case measure => simp [intOf]; omega
    ·have z1 : decide ((j : Int) < (kids.length : Int)) = false:=ae (by omega)
     clear hbw hbk hbg
     go_wp2_with fail
     go_ret
     exact ah rfl HBW.out
mutual
theorem ex : ∀ (f : Fl) (c c' : List Value) (S S' : Nat -> Prop) (w : World),FlAt w S f c -> FlAt w S' f c' -> Calls Tryz.prog 46 #[.agg c.toArray,.agg c'.toArray] w (ap true w)
 | .mk k a v g any l kids,c,c',S,S',w,h,h' => fsame_one _ c c' S S' w h h' fun k2 a2 v2 g2 any2 l2 kids2 e => by
  have h7 : kids = kids2:=by injection e
  have ih:=fsames_any kids
  rw [<- h7]
  exact ih
theorem fsames_any : ∀ (ks : List Fl),∀ y ∈ ks,∀ (c c' : List Value) (S S' : Nat -> Prop) (w : World),FlAt w S y c -> FlAt w S' y c' -> Calls Tryz.prog 46 #[.agg c.toArray,.agg c'.toArray] w (ap true w)
 | [],y,hy,_,_,_,_,_,_,_ => by cases hy
 | k :: ks,y,hy,c,c',S,S',w,h,h' => by
  have h1:=ex k
  have h2:=fsames_any ks
  rcases List.mem_cons.1 hy with rfl | hy
  ·exact h1 c c' S S' w h h'
  ·exact h2 y hy c c' S S' w h h'
end
end Go.Proofs.YtbiglfpikfjbpaaGreatDoor
