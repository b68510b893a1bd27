import Derived.Test.YtbiglfpikfjbpaaGreatDoorR34
import Derived.Test.YtbiglfpikfjbpaaGreatDoorR31
import Derived.Test.YtbiglfpikfjbpaaGreatDoorR17
import Derived.Deep.CutBlock
import Derived.Test.YtbiglfpikfjbpaaGreatDoorChecked
import Derived.Test.YtbiglfpikfjbpaaGreatDoorR2
import Derived.StillTailTactics
import Derived.Deep.RegionWith
namespace Go.Proofs.YtbiglfpikfjbpaaGreatDoor
open Go.RowKit
set_option maxRecDepth 100000
set_option linter.unusedVariables false
set_option linter.unusedSimpArgs false
set_option maxHeartbeats 40000000
theorem lenB_pos (n : Nat) : 1 <= (PB.lenB n).length:=by
 unfold PB.lenB; repeat' split
 all_goals simp
theorem eP (c g : Int) (s : ByteArray) (ks : List Tl) : 2 + s.size <= (PB.enc (.mk c false g s ks)).length:=by
 unfold PB.enc
 have:=lenB_pos s.size
 have e : s.data.toList.length = s.size:=rfl
 simp only [Bool.false_eq_true,if_false,List.length_cons,List.length_append,e]
 omega
theorem dx (c g : Int) (b : ByteArray) (ks : List Tl) : 2 + (PB.encs ks).length <= (PB.enc (.mk c true g b ks)).length:=by
 unfold PB.enc
 have:=lenB_pos (PB.encs ks).length
 simp only [if_true,List.length_cons,List.length_append]
 omega
theorem ce (s : ByteArray) : 2 + s.size <= (PB.enc (tstr s)).length:=eP 0 4 s []
theorem dv (g : Int) (s : ByteArray) : 2 + s.size <= (PB.enc (town g s)).length:=eP 2 g s []
theorem cy (ks : List Tl) : 2 + (PB.encs ks).length <= (PB.enc (aF ks)).length:=dx 0 16 _ ks
theorem map_ge {α : Type} (f : α -> Tl) (wt : α -> Nat) (h : ∀ a,wt a <= (PB.enc (f a)).length) : ∀ (l : List α),(l.map wt).sum <= (PB.encs (l.map f)).length
 | [] => by simp
 | a :: l => by
  have:=map_ge f wt h l
  have:=h a
  rw [List.map_cons,List.map_cons,List.sum_cons,ag]
  omega
theorem tstrs_ge (l : List ByteArray) : wS l <= (PB.encs (l.map tstr)).length:=map_ge tstr (fun s => 1 + s.size) (fun s => by have:=ce s; omega) l
theorem towns_ge (g : Int) (l : List ByteArray) : wS l <= (PB.encs (l.map (town g))).length:=map_ge (town g) (fun s => 1 + s.size) (fun s => by have:=dv g s; omega) l
theorem tattr_ge (n : ByteArray) (ss : List ByteArray) : 1 + n.size + wS ss <= (PB.enc (bX n ss)).length:=by
 unfold bX
 have h1:=cy [tstr n,.mk 0 true 17 ⟨#[]⟩ (ss.map tstr)]
 have h2:=ce n
 have h3:=dx 0 17 ⟨#[]⟩ (ss.map tstr)
 have h4:=tstrs_ge ss
 rw [ag,ag] at h1
 omega
theorem tat_ge (l : List At) : (l.map atW).sum <= (PB.encs (l.map tat)).length:=map_ge tat atW (fun a => tattr_ge a.1 a.2) l
theorem tmod_ge (l : List Md) : (l.map mdW).sum <= (PB.encs (l.map tmod)).length:=map_ge tmod mdW (fun x => by
 have h1:=cy [tnum 10 x.1,bX x.2.1 x.2.2]
 have h2:=tattr_ge x.2.1 x.2.2
 rw [ag,ag] at h1
 unfold tmod mdW
 omega) l
theorem tctl_ge : ∀ (l : List Co),(l.all fun c => c.2.2.1 || !ai c.2.2.2) = true -> (l.map coW).sum <= (PB.encs (l.map tctl)).length
 | [],_ => by simp
 | c :: l,h => by
  rw [List.all_cons,Bool.and_eq_true] at h
  have ih:=tctl_ge l h.2
  rw [List.map_cons,List.map_cons,List.sum_cons,ag]
  suffices hc : coW c <= (PB.enc (tctl c)).length by omega
  unfold tctl coW
  have h1:=cy (tstr c.1 :: ((if c.2.1 then [bu true] else []) ++ (if c.2.2.1 then [tstr c.2.2.2] else [])))
  have h2:=ce c.1
  have h3:=ce c.2.2.2
  rw [ag,aL] at h1
  cases hv : c.2.2.1 with
  | true => rw [hv,if_pos rfl,ag] at h1; rw [if_pos rfl]; omega
  | false =>
   have h4:=h.1
   rw [hv,Bool.false_or,Bool.not_eq_true'] at h4
   rw [ax h4]
   have : (⟨#[]⟩ : ByteArray).size = 0:=rfl
   rw [ax h4,hv] at h1
   omega
theorem tpieces_ge (f : ByteArray) (any : List ByteArray) (l : ByteArray) : f.size + wS any + l.size <= (PB.encs (aB f any l)).length:=by
 unfold aB
 rw [aL,aL]
 have h1:=towns_ge 1 any
 have h2:=dv 0 f
 have h3:=dv 2 l
 have z : (⟨#[]⟩ : ByteArray).size = 0:=rfl
 have e1 : f.size <= (PB.encs (if ai f then [town 0 f] else [])).length:=by
  cases hf : ai f with
  | true => rw [if_pos rfl,ag]; omega
  | false => rw [ax hf,z]; omega
 have e2 : l.size <= (PB.encs (if ai l then [town 2 l] else [])).length:=by
  cases hf : ai l with
  | true => rw [if_pos rfl,ag]; omega
  | false => rw [ax hf,z]; omega
 omega
mutual
theorem ftree_ge : ∀ (f : Fl) (d x : Int),0 <= f.cnt d x -> f.wt <= (PB.enc (aV f)).length
 | .mk k a v f any l kids,d,x,h => by
  obtain ⟨ho,hk⟩:=Fl.cnt_one h
  simp only [Fl.one] at ho
  have z : (⟨#[]⟩ : ByteArray).size = 0:=rfl
  have ih:=ftrees_ge kids _ _ hk
  have hn:=dx 2 k ⟨#[]⟩ (bx kids)
  have hz : wS [] = 0:=rfl
  have hw : Fl.wts [] = 0:=by simp [Fl.wts]
  unfold aV Fl.wt
  by_cases h01 : k = 0 \/ k = 1
  ·rw [if_pos h01] at ho
   obtain ⟨rfl,rfl,rfl,hq,rfl,-⟩:=bI ho
   obtain rfl:=List.eq_nil_of_length_eq_zero hq
   rw [if_pos (by omega),z,hz]
   omega
  rw [if_neg h01] at ho
  by_cases h2 : k = 2
  ·rw [if_pos h2] at ho
   simp only [Bool.and_eq_true] at ho
   obtain ⟨rfl,rfl,rfl,hq,rfl,-⟩:=bI ho.1
   obtain rfl:=List.eq_nil_of_length_eq_zero hq
   rw [if_pos (by omega),z,hz]
   omega
  rw [if_neg h2] at ho
  rw [if_neg (by omega)]
  by_cases h3 : k = 3 \/ k = 5 \/ k = 6 \/ k = 8
  ·rw [if_pos h3] at ho
   simp only [Bool.and_eq_true] at ho
   obtain ⟨-,-,rfl,hq,rfl,hr⟩:=bI ho.1
   obtain rfl:=List.eq_nil_of_length_eq_zero hq
   obtain rfl:=List.eq_nil_of_length_eq_zero hr
   rw [if_neg (by omega),if_neg (by omega),z,hz,hw]
   have h1:=dx 2 k ⟨#[]⟩ [tstr a,tstr v]
   have h2:=ce a
   have h3:=ce v
   rw [ag,ag] at h1
   omega
  rw [if_neg h3] at ho
  by_cases h7 : k = 7
  ·rw [if_pos h7] at ho
   simp only [Bool.and_eq_true] at ho
   obtain ⟨-,rfl,rfl,hq,rfl,hr⟩:=bI ho.1
   obtain rfl:=List.eq_nil_of_length_eq_zero hq
   obtain rfl:=List.eq_nil_of_length_eq_zero hr
   rw [if_pos h7,z,hz,hw]
   have h2:=dv 7 a
   omega
  rw [if_neg h7] at ho
  by_cases h4 : k = 4
  ·rw [if_pos h4] at ho
   simp only [Bool.and_eq_true] at ho
   obtain ⟨-,rfl,-,-,-,hr⟩:=bI ho.2.2.1
   obtain rfl:=List.eq_nil_of_length_eq_zero hr
   rw [if_neg h7,if_pos h4,z,hw]
   have h1:=dx 2 4 ⟨#[]⟩ [tstr a,aF (aB f any l)]
   have h2:=ce a
   have h3:=cy (aB f any l)
   have h4:=tpieces_ge f any l
   rw [ag,ag] at h1
   omega
  ·rw [if_neg h4] at ho
   cases ho
theorem ftrees_ge : ∀ (ks : List Fl) (d x : Int),0 <= Fl.cnts ks d x -> Fl.wts ks <= (PB.encs (bx ks)).length
 | [],_,_,_ => by simp [Fl.wts]
 | k :: ks,d,x,h => by
  unfold Fl.cnts at h
  by_cases hc : k.cnt d x < 0
  ·rw [if_pos hc] at h; omega
  ·rw [if_neg hc] at h
   have h1:=ftree_ge k d x (by omega)
   have h2:=ftrees_ge ks d _ h
   unfold Fl.wts bx
   rw [ag]
   omega
end
theorem Ms.wt_le (M : Ms) (hr : M.right = true) : M.wt <= (PB.enc M.tree).length /\ M.filter.wt <= (PB.enc M.tree).length:=by
 unfold Ms.right at hr
 simp only [Bool.and_eq_true] at hr
 obtain ⟨hc,hid,hg,he⟩:=hr
 have hk:=M.known_ranged hg
 have ht : 2 + ((PB.enc (tnum 2 M.id)).length + ((PB.enc M.opT).length + (PB.encs (if M.controls = [] then [] else [.mk 2 true 0 ⟨#[]⟩ (M.controls.map tctl)])).length)) <= (PB.enc M.tree).length:=by
  unfold Ms.tree
  have h1:=cy ([tnum 2 M.id,M.opT] ++ (if M.controls = [] then [] else [.mk 2 true 0 ⟨#[]⟩ (M.controls.map tctl)]))
  rw [aL,ag,ag,aq] at h1
  omega
 have hcc : wC M.controls <= (PB.encs (if M.controls = [] then [] else [.mk 2 true 0 ⟨#[]⟩ (M.controls.map tctl)])).length:=by
  have h1:=tctl_ge M.controls hc
  by_cases h0 : M.controls = []
  ·rw [h0]; simp [wC]
  ·rw [if_neg h0,ag]
   have h2:=dx 2 0 ⟨#[]⟩ (M.controls.map tctl)
   unfold wC
   omega
 suffices hh : M.name.size + M.secret.size + M.kind.size + M.value.size + M.text.size + M.rdn.size + wS M.attrs + wS M.dest + wA M.list + wM M.mods <= (PB.enc M.opT).length /\ M.filter.wt <= (PB.enc M.opT).length by
  unfold Ms.wt
  omega
 clear ht hcc hc hid
 have hE:=M.only_eq hk he
 clear he
 have z : (⟨#[]⟩ : ByteArray).size = 0:=rfl
 have z2 : wS [] = 0:=rfl
 have z3 : wA [] = 0:=rfl
 have z4 : wM [] = 0:=rfl
 have z5 : Fl.zero.wt = 1:=by simp [Fl.zero,Fl.wt,wS,Fl.wts]; rfl
 have t1:=ce M.name
 have t2:=ce M.kind
 have t3:=ce M.value
 have t4:=ce M.text
 have t5:=ce M.rdn
 have t6:=dv 0 M.secret
 have t7:=dv 0 M.kind
 have t8:=dv 1 M.value
 have t9:=dv 10 M.kind
 have hop : M.op ≠ 2 -> M.op ≠ 10 -> M.op ≠ 16 -> 2 + (PB.encs M.partsT).length <= (PB.enc M.opT).length:=fun a b c => by
  unfold Ms.opT
  rw [if_neg a,if_neg b,if_neg c]
  exact dx 1 M.op ⟨#[]⟩ M.partsT
 have hv : M.has = true \/ M.value = ⟨#[]⟩ \/ M.sasl = false \/ M.op ≠ 0:=by
  unfold Ms.ranged at hg
  by_cases h0 : M.op = 0
  ·rw [if_pos h0] at hg
   cases h1 : M.has with
   | true => exact .inl rfl
   | false => cases h2 : M.sasl with
    | false => exact .inr (.inr (.inl rfl))
    | true =>
     rw [h1,h2] at hg
     simp at hg
     exact .inr (.inl (ax hg.2))
  ·exact .inr (.inr (.inr h0))
 have hx : M.has = true \/ M.value = ⟨#[]⟩ \/ M.op ≠ 23:=by
  unfold Ms.ranged at hg
  by_cases h0 : M.op = 23
  ·rw [if_neg (by omega),if_neg (by omega),if_neg (by omega),if_neg (by omega),if_neg (by omega),if_pos h0] at hg
   cases h1 : M.has with
   | true => exact .inl rfl
   | false =>
    rw [h1] at hg
    simp at hg
    exact .inr (.inl (ax hg))
  ·exact .inr (.inr h0)
 have hfr : M.op = 3 -> M.filter.wt <= (PB.enc (aV M.filter)).length:=fun h3 => by
  unfold Ms.ranged at hg
  rw [if_neg (by omega),if_pos h3] at hg
  simp only [Bool.and_eq_true] at hg
  have:=hg.2.2.2.2
  unfold Fl.right at this
  exact ftree_ge _ _ _ (of_decide_eq_true this)
 have a1:=tstrs_ge M.attrs
 have a2:=cy (M.attrs.map tstr)
 have a3:=tat_ge M.list
 have a4:=cy (M.list.map tat)
 have a5:=tmod_ge M.mods
 have a6:=cy (M.mods.map tmod)
 have a7:=towns_ge 0 M.dest
 have a8:=cy [tstr M.kind,tstr M.value]
 rw [ag,ag] at a8
 have hM : M.name.size + M.secret.size + M.kind.size + M.value.size + M.text.size + M.rdn.size + wS M.attrs + wS M.dest + wA M.list + wM M.mods = M.only.name.size + M.only.secret.size + M.only.kind.size + M.only.value.size + M.only.text.size + M.only.rdn.size + wS M.only.attrs + wS M.only.dest + wA M.only.list + wM M.only.mods /\ M.filter.wt = M.only.filter.wt:=by rw [hE]; exact ⟨rfl,rfl⟩
 rw [hM.1,hM.2]
 clear hM hE
 have e1:=ag
 have e2:=aq
 have e3:=aL
 rcases cH M.sasl hk with ⟨h0,h'⟩ | ⟨h0,h'⟩ | h0 | h0 | h0 | h0 | h0 | h0 | h0 | h0 | h0 | h0 | h0 | h0 | h0 | h0 | h0 | h0 | h0 | h0
 all_goals try have hq:=hop (by omega) (by omega) (by omega)
 all_goals try clear hop
 ·unfold Ms.partsT Ms.bindT at hq
  simp only [Ms.only,h0,h',if_true,e1,e2] at hq |-
  have n1:=dx 2 3 ⟨#[]⟩ (tstr M.kind :: (if M.has then [tstr M.value] else []))
  rw [e1] at n1
  rcases hv with hv | hv | hv | hv
  ·rw [hv] at hq n1
   simp only [if_true,e1,e2] at n1 hq
   simp only [Ms.zero,z,z2,z3,z4,z5]
   omega
  ·simp only [Ms.zero,z,z2,z3,z4,z5,hv]
   omega
  ·rw [h'] at hv; cases hv
  ·exact absurd h0 hv
 ·simp [Ms.partsT,Ms.bindT,h',Ms.only,Ms.zero,h0,e1,e2,e3,z,z2,z3,z4,z5] at hq |-
  omega
 ·have hf:=hfr h0
  simp [Ms.partsT,Ms.seaT,Ms.only,Ms.zero,h0,e1,e2,e3,z,z2,z3,z4,z5] at hq |-
  omega
 ·simp [Ms.partsT,Ms.entT,Ms.only,Ms.zero,h0,e1,e2,e3,z,z2,z3,z4,z5] at hq |-
  unfold wA
  omega
 ·simp [Ms.partsT,Ms.entT,Ms.only,Ms.zero,h0,e1,e2,e3,z,z2,z3,z4,z5] at hq |-
  unfold wA
  omega
 ·simp [Ms.partsT,Ms.modT,Ms.only,Ms.zero,h0,e1,e2,e3,z,z2,z3,z4,z5] at hq |-
  unfold wM
  omega
 ·have:=eP 1 10 M.name []
  simp [Ms.opT,Ms.only,Ms.zero,h0,e1,e2,e3,z,z2,z3,z4,z5] at this |-
  omega
 ·simp [Ms.partsT,Ms.renT,Ms.only,Ms.zero,h0,e1,e2,e3,z,z2,z3,z4,z5] at hq |-
  omega
 ·simp [Ms.partsT,Ms.cmpT,Ms.only,Ms.zero,h0,e1,e2,e3,z,z2,z3,z4,z5] at hq |-
  omega
 ·have:=eP 1 16 ⟨(PB.ofNum M.other).toArray⟩ []
  simp [Ms.opT,Ms.only,Ms.zero,h0,e1,e2,e3,z,z2,z3,z4,z5] at this |-
  omega
 ·rcases hx with hx | hx | hx
  ·simp [Ms.partsT,Ms.extT,hx,Ms.only,Ms.zero,h0,e1,e2,e3,z,z2,z3,z4,z5] at hq |-
   omega
  ·simp [Ms.partsT,Ms.extT,hx,Ms.only,Ms.zero,h0,e1,e2,e3,z,z2,z3,z4,z5] at hq |-
   omega
  ·exact absurd h0 hx
 ·have:=eP 1 2 ⟨#[]⟩ []
  simp [Ms.opT,Ms.only,Ms.zero,h0,e1,e2,e3,z,z2,z3,z4,z5] at this |-
  omega
 ·cases hk2 : ai M.kind with
  | true =>
   simp [Ms.partsT,Ms.ansT,hk2,Ms.only,Ms.zero,h0,e1,e2,e3,z,z2,z3,z4,z5] at hq |-
   omega
  | false =>
   have hk3:=ax hk2
   simp [Ms.partsT,Ms.ansT,hk3,full_e,Ms.only,Ms.zero,h0,e1,e2,e3,z,z2,z3,z4,z5] at hq |-
   omega
 all_goals
  simp [Ms.partsT,Ms.ansT,Ms.only,Ms.zero,h0,e1,e2,e3,z,z2,z3,z4,z5] at hq |-
  omega
namespace PB
theorem lenB_head {l : List UInt8} (h : (head l).2.2 = 0) : 1 + (lenB (head l).2.1).length <= (head l).1:=by
 unfold head at h |-
 by_cases a1 : l.length = 0
 ·rw [if_pos a1] at h; simp at h
 rw [if_neg a1] at h |-
 by_cases a2 : byt l 0 % 32 = 31
 ·rw [if_pos a2] at h; simp at h
 rw [if_neg a2] at h |-
 by_cases a3 : l.length < 2
 ·rw [if_pos a3] at h; simp at h
 rw [if_neg a3] at h |-
 by_cases a4 : byt l 1 < 128
 ·rw [if_pos a4]
  unfold lenB
  rw [if_pos a4]
  simp
 rw [if_neg a4] at h |-
 by_cases a5 : byt l 1 = 128 \/ 132 < byt l 1
 ·rw [if_pos a5] at h; simp at h
 rw [if_neg a5] at h |-
 by_cases a6 : l.length < 2 + (byt l 1 - 128)
 ·rw [if_pos a6] at h; simp at h
 rw [if_neg a6]
 have hn:=num_lt ((l.drop 2).take (byt l 1 - 128))
 have hl : ((l.drop 2).take (byt l 1 - 128)).length = byt l 1 - 128:=by rw [List.length_take,List.length_drop]; omega
 rw [hl] at hn
 simp only
 generalize num ((l.drop 2).take (byt l 1 - 128)) = n at hn
 have hk : byt l 1 - 128 = 1 \/ byt l 1 - 128 = 2 \/ 3 <= byt l 1 - 128:=by omega
 unfold lenB
 rcases hk with hk | hk | hk
 ·rw [hk] at hn |-
  have : n < 256:=by simpa using hn
  split
  ·simp
  ·simp [this]
 ·rw [hk] at hn |-
  have : n < 65536:=by simpa using hn
  split
  ·simp
  ·split
   ·simp
   ·simp [this]
 ·repeat' split
  all_goals (simp only [List.length_cons,List.length_nil]; omega)
def Okl (l : List UInt8) (t : Tl) : Prop:=t.okT /\ (enc t).length <= l.length
theorem kids_is {f : Option (List UInt8 -> Except Nat Tl)} (hf : ∀ g,f = some g -> ∀ l t,g l = .ok t -> Okl l t) : ∀ (fu : Nat) (l : List UInt8) (ts : List Tl),kidsOf f fu l = .ok ts -> Tl.oksT ts /\ (encs ts).length <= l.length
 | 0,l,ts,h => by
  simp only [kidsOf] at h
  injection h with h
  subst h
  exact ⟨by unfold Tl.oksT; trivial,by simp [encs]⟩
 | fu + 1,l,ts,h => by
  simp only [kidsOf] at h
  by_cases h0 : l = []
  ·rw [if_pos h0] at h
   injection h with h
   subst h
   exact ⟨by unfold Tl.oksT; trivial,by simp [encs]⟩
  rw [if_neg h0] at h
  cases f with
  | none => simp at h
  | some g =>
   simp only at h
   by_cases h1 : (head l).2.2 ≠ 0 \/ l.length < span l
   ·rw [if_pos h1] at h; simp at h
   rw [if_neg h1] at h
   cases h2 : g (l.take (span l)) with
   | error e => rw [h2] at h; simp at h
   | ok t =>
    rw [h2] at h
    simp only at h
    cases h3 : kidsOf (some g) fu (l.drop (span l)) with
    | error e => rw [h3] at h; simp at h
    | ok ts2 =>
     rw [h3] at h
     simp only at h
     injection h with h
     subst h
     have a:=hf g rfl _ _ h2
     have b:=kids_is hf fu _ _ h3
     have c:=a.2
     have d:=b.2
     rw [List.length_take] at c
     rw [List.length_drop] at d
     refine ⟨by unfold Tl.oksT; exact ⟨a.1,b.1⟩,?_⟩
     rw [encs,List.length_append]
     omega
theorem valOf_is {f : Option (List UInt8 -> Except Nat Tl)} (hf : ∀ g,f = some g -> ∀ l t,g l = .ok t -> Okl l t) (l : List UInt8) (t : Tl) (h : valOf f l = .ok t) : Okl l t:=by
 unfold valOf at h
 by_cases h1 : (head l).2.2 ≠ 0 \/ span l ≠ l.length
 ·rw [if_pos h1] at h; simp at h
 rw [if_neg h1] at h
 have hh:=lenB_head (l:=l) (by omega)
 have hs : span l = l.length:=by omega
 unfold span at hs
 by_cases h2 : byt l 0 / 32 % 2 = 0
 ·rw [if_pos h2] at h
  injection h with h
  subst h
  constructor
  ·unfold Tl.okT
   exact ⟨by omega,(fun h => by cases h),fun _ => rfl,by unfold Tl.oksT; trivial⟩
  ·have e : (⟨(l.drop (head l).1).toArray⟩ : ByteArray).size = (head l).2.1:=by
    show (l.drop (head l).1).toArray.size = _
    rw [List.size_toArray,List.length_drop]; omega
   unfold enc
   simp only [Bool.false_eq_true,if_false,List.length_cons,List.length_append,e,List.length_drop]
   omega
 ·rw [if_neg h2] at h
  cases h3 : kidsOf f l.length (l.drop (head l).1) with
  | error e => rw [h3] at h; simp at h
  | ok ts =>
   rw [h3] at h
   simp only at h
   injection h with h
   subst h
   have a:=kids_is hf _ _ _ h3
   have b:=a.2
   rw [List.length_drop] at b
   constructor
   ·unfold Tl.okT
    exact ⟨by omega,fun _ => rfl,(fun h => by cases h),a.1⟩
   ·have:=lenB_mono (m:=(encs ts).length) (n:=(head l).2.1) (by omega)
    unfold enc
    simp only [if_true,List.length_cons,List.length_append]
    omega
theorem val_is : ∀ (k : Nat) (l : List UInt8) (t : Tl),val k l = .ok t -> Okl l t
 | 0,l,t,h => valOf_is (f:=none) (fun g h => by cases h) l t (by simpa only [val] using h)
 | k + 1,l,t,h => valOf_is (f:=some (val k)) (fun g h => by cases h; exact val_is k) l t (by simpa only [val] using h)
theorem dec_is {l : List UInt8} (h : (dec l).2.2 = 0) (hn : (dec l).2.1 = l.length) : (dec l).1.okT /\ (enc (dec l).1).length <= 8192:=by
 unfold dec at h hn |-
 by_cases h1 : (total l).2 ≠ 0
 ·rw [if_pos h1] at h; exact absurd h h1
 rw [if_neg h1] at h hn |-
 by_cases h2 : l.length < (total l).1
 ·rw [if_pos h2] at h; simp at h
 rw [if_neg h2] at h hn |-
 cases h3 : val 15 (l.take (total l).1) with
 | error e =>
  rw [h3] at hn
  simp only at hn
  obtain rfl : l = []:=List.eq_nil_of_length_eq_zero hn.symm
  exact absurd (by decide) h1
 | ok t =>
  rw [h3] at h hn
  simp only at h hn |-
  have a:=val_is _ _ _ h3
  have b:=a.2
  rw [List.length_take] at b
  have c : (total l).1 <= 8192:=by
   unfold total
   split
   ·exact Nat.zero_le _
   ·split
    ·exact Nat.zero_le _
    ·omega
  exact ⟨a.1,by omega⟩
end PB
theorem tail_right {M N : Ms} {r : List Tl} (h : dW N r = some M) : M.right = true:=by
 unfold dW at h
 split at h
 ·simp only [Option.bind_eq_some_iff] at h
  obtain ⟨az,h1,h2⟩:=h
  split at h2
  ·next e => simp at h2; subst h2; exact e.2
  ·simp at h2
 ·split at h
  ·next e => simp at h; subst h; exact e.2
  ·simp at h
theorem body_right {ks : List Tl} {M : Ms} (h : du ks = some M) : M.right = true /\ 2 <= ks.length:=by
 unfold du at h
 simp only [Option.bind_eq_some_iff] at h
 obtain ⟨⟨n,r1⟩,h1,h2⟩:=h
 have hk : ∃ k,ks = k :: r1:=by
  unfold numP at h1
  simp only [Option.bind_eq_some_iff,Option.map_eq_some_iff] at h1
  obtain ⟨⟨t,r⟩,h3,x,h4,h5⟩:=h1
  have:=aX h3
  simp at h5
  exact ⟨t,by rw [this.1,h5.2]⟩
 obtain ⟨k,rfl⟩:=hk
 simp only at h2
 split at h2
 ·simp at h2
 ·simp only [Option.bind_eq_some_iff] at h2
  obtain ⟨N,h3,h4⟩:=h2
  exact ⟨tail_right h4,by simp⟩
theorem dec_read {s : ByteArray} {M : Ms} (h : decP s = some M) : ∃ t : Tl,PB.dec s.data.toList = (t,s.size,0) /\ M.right = true /\ 2 <= t.kids.length /\ t.kids.length <= 8192 /\ (oddM t.kids = false -> M.tree = t /\ (PB.enc M.tree).length <= 8192):=by
 have hfew:=dec_few s.data.toList
 unfold decP at h
 split at h
 ·simp at h
 ·next hc =>
  have c1 : (PB.dec s.data.toList).2.2 = 0:=by by_cases e : (PB.dec s.data.toList).2.2 = 0; exact e; exact absurd (.inl e) hc
  have c2 : (PB.dec s.data.toList).2.1 = s.size:=by by_cases e : (PB.dec s.data.toList).2.1 = s.size; exact e; exact absurd (.inr (.inl e)) hc
  have c3 : (PB.dec s.data.toList).1.isB 0 16 true = true:=by by_cases e : (PB.dec s.data.toList).1.isB 0 16 true = true; exact e; exact absurd (.inr (.inr (by simpa using e))) hc
  have d:=PB.dec_is c1 (by rw [c2]; rfl)
  have hr:=body_right h
  obtain ⟨t,ht⟩ : ∃ t,t = (PB.dec s.data.toList).1:=⟨_,rfl⟩
  refine ⟨t,?_,hr.1,by rw [ht]; exact hr.2,?_,fun ho => ?_⟩
  ·rw [ht,<- c1,<- c2]
  ·rw [ht]; generalize (PB.dec s.data.toList).1 = t at hfew; obtain ⟨c,k,g,b,ks⟩:=t; unfold Tl.few at hfew; exact hfew.1
  ·rw [<- ht] at c3 d h
   obtain ⟨c,k,g,b,ks⟩:=t
   unfold Tl.isB at c3
   simp only [Bool.and_eq_true,beq_iff_eq] at c3
   obtain ⟨rfl,rfl,rfl⟩:=c3
   have o:=okT_mk d.1
   have e:=body_is h o.2.2 ho
   have e2 : M.tree = Tl.mk 0 true 16 b ks:=by rw [e,o.1 rfl]; rfl
   exact ⟨e2,by rw [e2]; exact d.2⟩
def ownOdd (q : Bool) (c : Int) (k : Bool) (t : Int) (b : ByteArray) : Bool:=(c == 2 && (t == 9 || (!k && (!ai b && decide (t <= 2))))) || (q && (c == 0 && (t == 1 && b.toList == [0])))
def OwnWays (q : Bool) (c : Int) (k : Bool) (t : Int) (b : ByteArray) (r : Bool) : Prop :=
 ((c == 2) = true /\ (t == 9) = true /\ r = true) ∨
 ((c == 2) = true /\ (t == 9) = false /\ k = false /\ b.toList.isEmpty = true /\ b.toList = [] /\ decide (t <= 2) = true /\ r = true) ∨
 ((c == 2) = true /\ (c == 0) = false /\ (t == 9) = false /\ k = true /\ q = false /\ r = false) ∨
 ((c == 2) = true /\ (c == 0) = false /\ (t == 9) = false /\ k = true /\ q = true /\ r = false) ∨
 ((c == 2) = true /\ (c == 0) = false /\ (t == 9) = false /\ k = false /\ b.toList.isEmpty = false /\ q = false /\ r = false) ∨
 ((c == 2) = true /\ (c == 0) = false /\ (t == 9) = false /\ k = false /\ b.toList.isEmpty = false /\ q = true /\ r = false) ∨
 ((c == 2) = true /\ (c == 0) = false /\ (t == 9) = false /\ k = false /\ b.toList.isEmpty = true /\ b.toList = [] /\ decide (t <= 2) = false /\ q = false /\ r = false) ∨
 ((c == 2) = true /\ (c == 0) = false /\ (t == 9) = false /\ k = false /\ b.toList.isEmpty = true /\ b.toList = [] /\ decide (t <= 2) = false /\ q = true /\ r = false) ∨
 ((c == 2) = false /\ q = false /\ r = false) ∨
 ((c == 2) = false /\ q = true /\ (c == 0) = false /\ r = false) ∨
 ((c == 2) = false /\ q = true /\ (c == 0) = true /\ (t == 1) = false /\ r = false) ∨
 ((c == 2) = false /\ q = true /\ (c == 0) = true /\ (t == 1) = true /\ (b.toList == [0]) = false /\ r = false) ∨
 ((c == 2) = false /\ q = true /\ (c == 0) = true /\ (t == 1) = true /\ (b.toList == [0]) = true /\ r = true)
theorem own_ways (q : Bool) (c : Int) (k : Bool) (t : Int) (b : ByteArray) : OwnWays q c k t b (ownOdd q c k t b):=by
 unfold OwnWays ownOdd
 have e0 : (c == 2) = true -> (c == 0) = false:=by intro h; simp at h; subst h; rfl
 have hf : ai b = false -> b.toList.isEmpty = true /\ b.toList = []:=fun h => aC h
 have hy : ai b = true -> b.toList.isEmpty = false:=fun h => aQ h
 cases h2 : (c == 2)
 ·cases q
  ·simp
  ·cases h0 : (c == 0)
   ·simp
   ·cases h1 : (t == 1)
    ·simp
    ·cases hz : (b.toList == [0]) <;> simp
 ·rw [e0 h2]
  cases h9 : (t == 9)
  ·cases k
   ·cases hb : ai b
    ·rw [(hf hb).1,(hf hb).2]
     cases hl : decide (t <= 2)
     ·cases q <;> simp
     ·simp
    ·rw [hy hb]
     cases q <;> simp
   ·cases q <;> simp
  ·simp
theorem odd_one (q : Bool) (t : Tl) (cs : Array Value) (S : Nat -> Prop) (w : World) (h : TlAt w S t cs)
  (ih : ∀ (c k g b ks),t = .mk c k g b ks -> ∀ y ∈ ks,∀ (cs : Array Value) (w : World),TlAt w S y cs -> Calls Tryz.prog 14 #[.agg cs,.bool q] w (ap (y.oddB q) w)) :
  Calls Tryz.prog 14 #[.agg cs,.bool q] w (ap (t.oddB q) w):=by
 obtain ⟨c,k,g,b,ks⟩:=t
 have IH:=aa (ih c k g b ks rfl)
 clear ih
 unfold TlAt at h
 obtain ⟨A,cap,rfl,⟨hk1,hk2⟩,-,-,hbs,hks⟩:=h
 obtain ⟨r,hr⟩ : ∃ r,r = (Tl.mk c k g b ks).oddB q:=⟨_,rfl⟩
 rw [<- hr]
 have hr2 : r = (ownOdd q c k g b || Tl.oddsB q ks):=by rw [hr]; unfold Tl.oddB ownOdd; rfl
 clear hr
 have hw:=own_ways q c k g b
 obtain ⟨o,ho⟩ : ∃ o,o = ownOdd q c k g b:=⟨_,rfl⟩
 rw [<- ho] at hw hr2
 have HR:=aa hr2
 have HWY:=aa hw
 clear hr2 ho hw
 obtain ⟨w1,hw1⟩ : ∃ W,W = w.alloc (.cells #[.int .i64 c,.bool k,.int .i64 g,.string b,.slice A ks.length cap] 42):=⟨_,rfl⟩
 have hb1 : Below w.heap.size w w1:=by rw [hw1]; exact (Below.refl w.heap.size w).alloc (Nat.le_refl _) _
 have hx1 : Bk w1 w.heap.size 42 #[.int .i64 c,.bool k,.int .i64 g,.string b,.slice A ks.length cap]:=by rw [hw1]; exact Bk.new w _ _
 have HB:=aa hb1
 have HX:=aa hx1
 have HW1:=aa hw1
 have HKS:=aa hks
 have hcm : cap <= 9223372036854775807:=by unfold maxLen at hk2; omega
 have p0 : w1.cell? ⟨w.heap.size,0,none⟩ = some (.int .i64 c):=hx1.cell 0
 have p1 : w1.cell? ⟨w.heap.size,1,none⟩ = some (.bool k):=hx1.cell 1
 have p2 : w1.cell? ⟨w.heap.size,2,none⟩ = some (.int .i64 g):=hx1.cell 2
 have p3 : w1.cell? ⟨w.heap.size,3,none⟩ = some (.string b):=hx1.cell 3
 have p4 : w1.cell? ⟨w.heap.size,4,none⟩ = some (.slice A ks.length cap):=hx1.cell 4
 have hlt1:=hx1.lt
 clear hw1 hb1 hx1 hks hk2 hbs
 go_enter Tryz.func14,Tryz.ntmps14
 go_upto_region 1 with fail
 rw [<- HW1.out]
 go_cut [46] from 6 to 45 (fun v wx => v = .bool o /\ wx = w1)
 case first =>
  have hw:=HWY.out
  unfold OwnWays at hw
  clear HKS HR IH
  rcases hw with ⟨y1,y2,rfl⟩ | ⟨y1,y2,rfl,y3,y4,y5,rfl⟩ | ⟨y1,y2,y3,rfl,rfl,rfl⟩ | ⟨y1,y2,y3,rfl,rfl,rfl⟩ | ⟨y1,y2,y3,rfl,y4,rfl,rfl⟩ | ⟨y1,y2,y3,rfl,y4,rfl,rfl⟩ | ⟨y1,y2,y3,rfl,y4,y5,y6,rfl,rfl⟩ | ⟨y1,y2,y3,rfl,y4,y5,y6,rfl,rfl⟩ | ⟨y1,rfl,rfl⟩ | ⟨y1,rfl,y2,rfl⟩ | ⟨y1,rfl,y2,y3,rfl⟩ | ⟨y1,rfl,y2,y3,y4,rfl⟩ | ⟨y1,rfl,y2,y3,y4,rfl⟩
  all_goals
   go_wp2_with fail
   go_meet
   exact ⟨rfl,rfl⟩
 case rest =>
  obtain ⟨rfl,rfl⟩:=hcut
  cases o with
  | true =>
   have HV:=aa (show r = true by rw [HR.out]; rfl)
   go_wp2_with fail
   go_ret
   exact ah HV.out HB.out
  | false =>
   have HV:=aa (show r = Tl.oddsB q ks by rw [HR.out]; rfl)
   go_wp2_with fail
   go_loopw [5] (fun i wr => ∃ (j : Nat),i = .int .i64 j /\ j <= ks.length /\ Hid (r = Tl.oddsB q (ks.drop j)) /\ Below w.heap.size w wr /\ Bk wr w.heap.size 42 #[.int .i64 c,.bool k,.int .i64 g,.string b,.slice A ks.length cap]) (fun i _ => ks.length - (intOf i).toNat)
   case atStart => exact ⟨0,rfl,Nat.zero_le _,by rw [List.drop_zero]; exact HV,HB.out,HX.out⟩
   case round =>
    obtain ⟨j,rfl,hj,HS,hbw,hbk⟩:=hrel
    have HBW:=aa hbw
    have HBK:=aa hbk
    have r4 : wr.cell? ⟨w.heap.size,4,none⟩ = some (.slice A ks.length cap):=hbk.cell 4
    have hltr:=hbk.lt
    by_cases hlt : j < ks.length
    ·have z1 : decide ((j : Int) < (ks.length : Int)) = true:=ab (by omega)
     obtain ⟨bb,oo,c0,c1,c2,c3,c4,rfl,hS,q0,q1,q2,q3,q4,ht⟩:=(KsAt.below hbw ks A 0 HKS.out).get j hlt
     rw [Nat.zero_add] at q0 q1 q2 q3 q4
     have HC:=aa (IH.out ks[j] (List.getElem_mem hlt) _ wr ht)
     have hbl:=hS.2
     have HD:=aa (show ks.drop j = ks[j] :: ks.drop (j + 1) from List.drop_eq_getElem_cons hlt)
     obtain ⟨y,hy⟩ : ∃ y,y = ks[j]:=⟨_,rfl⟩
     rw [<- hy] at HC HD
     obtain ⟨x,hx⟩ : ∃ x,x = y.oddB q:=⟨_,rfl⟩
     rw [<- hx] at HC
     have HXV:=aa (show r = (x || Tl.oddsB q (ks.drop (j + 1))) by rw [HS.out,HD.out,hx,Tl.oddsB])
     clear hS ht hbw hbk hy hx
     cases x with
     | true =>
      have HV3:=aa (show r = true by rw [HXV.out]; rfl)
      go_wp2_with (first
       | (go_at_call 14; go_must (refine HC.out.mono ?_); rintro e w2 ⟨rfl,hb2⟩; have HB2:=aa (HBW.out.trans (hb2.mono HBW.out.size)); clear hb2)
       | fail)
      go_ret
      exact ah HV3.out HB2.out
     | false =>
      have HV3:=aa (show r = Tl.oddsB q (ks.drop (j + 1)) by rw [HXV.out]; rfl)
      go_wp2_with (first
       | (go_at_call 14; go_must (refine HC.out.mono ?_); rintro e w2 ⟨rfl,hb2⟩; have HB2:=aa (HBW.out.trans (hb2.mono HBW.out.size)); have HK2:=aa (af HBK.out hb2); clear hb2)
       | fail)
      go_roundw
      case rel => first | exact ⟨j + 1,by go_num,by omega,HV3,HB2.out,HK2.out⟩ | ((repeat apply Exists.intro); exact ⟨⟨j + 1,by go_num,by omega,HV3,HB2.out,HK2.out⟩,rfl⟩)
      case measure => simp [intOf]; omega
    ·have z1 : decide ((j : Int) < (ks.length : Int)) = false:=ae (by omega)
     have HV3:=aa (show r = false by rw [HS.out,List.drop_of_length_le (by omega)]; simp [Tl.oddsB])
     clear hbw hbk
     go_wp2_with fail
     go_ret
     exact ah HV3.out HBW.out
mutual
theorem odd_any (q : Bool) : ∀ (t : Tl) (cs : Array Value) (S : Nat -> Prop) (w : World),TlAt w S t cs -> Calls Tryz.prog 14 #[.agg cs,.bool q] w (ap (t.oddB q) w)
 | .mk c k g b ks,cs,S,w,h => odd_one q _ cs S w h fun c2 k2 g2 b2 ks2 e y hy cs w hat => by
  have h7 : ks = ks2:=by injection e
  subst h7
  exact odds_any q ks y hy cs S w hat
theorem odds_any (q : Bool) : ∀ (ks : List Tl),∀ y ∈ ks,∀ (cs : Array Value) (S : Nat -> Prop) (w : World),TlAt w S y cs -> Calls Tryz.prog 14 #[.agg cs,.bool q] w (ap (y.oddB q) w)
 | [],y,hy,_,_,_,_ => by cases hy
 | k :: ks,y,hy,cs,S,w,h => by
  have h1:=odd_any q k
  have h2:=odds_any q ks
  rcases List.mem_cons.1 hy with rfl | hy
  ·exact h1 cs S w h
  ·exact h2 y hy cs S w h
end
theorem sameT_any (n : Nat) : ∀ (S T : Nat -> Prop) (t : Tl) (cs ds : Array Value) (w : World),t.rank <= n -> TlAt w S t cs -> TlAt w T t ds →
  Calls Tryz.prog 15 #[.agg cs,.agg ds] w (Holds w):=by
 induction n with
 | zero =>
  intro S T t cs ds w hr
  obtain ⟨c,k,g,b,ks⟩:=t
  unfold Tl.rank at hr
  omega
 | succ n ih =>
  intro S T t cs ds w hr ht hu
  obtain ⟨c,k,g,b,ks⟩:=t
  unfold TlAt at ht hu
  obtain ⟨A,cap,rfl,hks,hc,hg,hb,hk⟩:=ht
  obtain ⟨A2,cap2,rfl,-,-,-,-,hk2⟩:=hu
  unfold Tl.rank at hr
  unfold maxLen at hb hks
  have IH:=aa ih
  have HK:=aa hk
  have HK2:=aa hk2
  clear ih hk hk2 hc hg
  have hwk : Bk ((w.alloc (.cells #[.int .i64 c,.bool k,.int .i64 g,.string b,.slice A ks.length cap] 42)).alloc (.cells #[.int .i64 c,.bool k,.int .i64 g,.string b,.slice A2 ks.length cap2] 42)) w.heap.size 42 #[.int .i64 c,.bool k,.int .i64 g,.string b,.slice A ks.length cap]:=(Bk.new _ _ _).alloc _
  have hwk2 : Bk ((w.alloc (.cells #[.int .i64 c,.bool k,.int .i64 g,.string b,.slice A ks.length cap] 42)).alloc (.cells #[.int .i64 c,.bool k,.int .i64 g,.string b,.slice A2 ks.length cap2] 42)) (w.heap.size + 1) 42 #[.int .i64 c,.bool k,.int .i64 g,.string b,.slice A2 ks.length cap2]:=by simpa using Bk.new (w.alloc (.cells #[.int .i64 c,.bool k,.int .i64 g,.string b,.slice A ks.length cap] 42)) 42 #[.int .i64 c,.bool k,.int .i64 g,.string b,.slice A2 ks.length cap2]
  have hbw : Below w.heap.size w ((w.alloc (.cells #[.int .i64 c,.bool k,.int .i64 g,.string b,.slice A ks.length cap] 42)).alloc (.cells #[.int .i64 c,.bool k,.int .i64 g,.string b,.slice A2 ks.length cap2] 42)):=((Below.refl _ _).alloc (Nat.le_refl _) _).alloc (by simp) _
  obtain ⟨w1,hw1⟩ : ∃ w1,w1 = (w.alloc (.cells #[.int .i64 c,.bool k,.int .i64 g,.string b,.slice A ks.length cap] 42)).alloc (.cells #[.int .i64 c,.bool k,.int .i64 g,.string b,.slice A2 ks.length cap2] 42):=⟨_,rfl⟩
  rw [<- hw1] at hwk hwk2 hbw
  have HW1:=aa hw1
  have HWK:=aa hwk
  have HWK2:=aa hwk2
  have HBW:=aa hbw
  clear hw1 hwk hwk2 hbw
  go_enter Tryz.func15,Tryz.ntmps15
  go_wp2_with fail
  rw [<- HW1.out]
  go_loopw [5] (fun i wr => ∃ (j : Nat),i = .int .i64 j /\ j <= ks.length /\ Below w1.heap.size w1 wr) (fun i _ => ks.length - (intOf i).toNat)
  case atStart => exact ⟨0,rfl,Nat.zero_le _,Below.refl _ _⟩
  case round =>
   obtain ⟨j,rfl,hj,hbel⟩:=hrel
   have hcell:=(af HWK.out hbel).cell 4
   have hcell2:=(af HWK2.out hbel).cell 4
   simp at hcell hcell2
   have HB:=aa hbel
   have HR:=aa (HBW.out.trans (hbel.mono HBW.out.size))
   clear hbel
   by_cases hlt : j < ks.length
   ·obtain ⟨b1,o1,c0,c1,c2,c3,c4,rfl,⟨_,hb1⟩,q0,q1,q2,q3,q4,ht⟩:=(KsAt.below HR.out ks A 0 HK.out).get j hlt
    obtain ⟨b2,o2,d0,d1,d2,d3,d4,rfl,⟨_,hb2⟩,r0,r1,r2,r3,r4,hu⟩:=(KsAt.below HR.out ks A2 0 HK2.out).get j hlt
    have hrk:=Tl.rank_mem (List.getElem_mem hlt)
    have HC:=aa (IH.out S T ks[j] _ _ wr.drew (by omega) (TlAt.below (Below.refl _ _).drew _ _ ht) (TlAt.below (Below.refl _ _).drew _ _ hu))
    rw [Nat.zero_add] at q0 q1 q2 q3 q4 r0 r1 r2 r3 r4
    clear ht hu
    go_wp2_with fail
    go_region_with (go_at_call 15; refine HC.out.mono ?_; rintro e w3 ⟨rfl,hb3⟩)
    all_goals
     go_wp2_with fail
     have hb4 : Below w1.heap.size w1 w3:=HB.out.drew.trans (hb3.mono HB.out.drew.size)
     go_roundw
     case rel => exact ⟨j + 1,by go_num,by omega,hb4⟩
     case measure => simp [intOf]; omega
   ·go_wp2_with fail
    go_ret
    exact ⟨rfl,HR.out⟩
theorem zero_at (w : World) (S : Nat -> Prop) : MsAt w S (Ms.base 0 0) (MC.base 0 0) :=
 MsAt.flat rfl rfl rfl rfl rfl rfl ⟨by decide,by decide,by decide,by decide,by decide,by decide⟩
theorem zero_same (W : World) : Calls Tryz.prog 12 #[.agg MC.zero.cells,.agg MC.zero.cells] W (ap true W) :=
 same_flat 0 0 (MC.base 0 0) (MC.base 0 0) (fun _ => True) (fun _ => True) W (zero_at W _) (zero_at W _)
theorem reads_long (s : ByteArray) (w : World) (hs : 20000 < s.size) (hm : s.size <= maxLen) (ha : AnsAt w) : Calls Tryz.prog 4 #[.string s] w (Holds w):=by
 have H1:=aa (awake26 w ha)
 unfold maxLen at hm
 have z1 : decide ((20000 : Int) < (s.size : Int)) = true:=ab (by omega)
 clear ha
 go_enter Tryz.func4,Tryz.ntmps4
 go_wp2_with (first
  | (go_at_call 5; refine H1.out.mono ?_; rintro e w1 ⟨rfl,hb1⟩; have HB1:=aa hb1; clear hb1)
  | fail)
 go_ret
 exact ⟨rfl,HB1.out⟩
theorem reads_none (s : ByteArray) (w : World) (hs : s.size <= 20000) (ha : AnsAt w) (hd : decP s = none) : Calls Tryz.prog 4 #[.string s] w (Holds w):=by
 have H1:=aa (awake26 w ha)
 have HD:=aa fun (W : World) (hb : Below w.heap.size w W) => (show Calls Tryz.prog 11 #[.string s] W (fun e w' => Below W.heap.size W w' /\ e = .returned (.tuple #[.agg MC.zero.cells,.int .i64 4])) from
  (ei s W (by omega) (ha.below hb)).mono fun e w' ⟨h1,h2⟩ => ⟨h1,by
   rcases h2 with ⟨-,h⟩ | ⟨M,m,h,-⟩
   ·exact h
   ·rw [hd] at h; cases h⟩)
 have z1 : decide ((20000 : Int) < (s.size : Int)) = false:=ae (by omega)
 have HZ:=aa zero_same
 have HSZ0 : Hid (MC.zero.cells.size = 31):=ca MC.zero
 have HON0 : Hid (MC.zero.cells.all (·.oneCell') = true):=cf MC.zero
 obtain ⟨ms,hms⟩ : ∃ ms,ms = MC.zero.cells:=⟨_,rfl⟩
 have HMS:=aa hms
 rw [<- hms] at HD
 have HSZ : Hid (ms.size = 31):=by rw [hms]; exact HSZ0
 have HON : Hid (ms.all (·.oneCell') = true):=by rw [hms]; exact HON0
 have HS:=aa bd
 clear ha hd hms
 go_enter Tryz.func4,Tryz.ntmps4
 go_wp2_with (first
  | (go_at_call 5; refine H1.out.mono ?_; rintro e w1 ⟨rfl,hb1⟩; have HB1:=aa hb1; clear hb1)
  | (go_at_call 11; refine (HD.out _ HB1.out).mono ?_; rintro e w2 ⟨hb2,rfl⟩; have HB2:=aa (HB1.out.trans (hb2.mono HB1.out.size)); clear hb2)
  | (refine au rfl 30 (.tmp 3) (.tmp 21) rfl w2.heap.size rfl ms rfl 30 MC.zero.cells ?_ ?_ ?_ HON.out (fun w3 hbk3 hof3 => ?_); (exact Bk.new w2 _ _); (exact HSZ.out.symm); (rw [HSZ.out]; exact HS.out); have HBK3:=aa hbk3; have HB3:=aa ((HB2.out.alloc HB2.out.size mzero).trans (hof3.below (B:=w.heap.size) (by simpa using Nat.le_succ_of_le HB2.out.size) (by simpa using HB2.out.size))); clear hbk3 hof3)
  | (refine aZ rfl 30 (.tmp 3) rfl w2.heap.size rfl 30 ms (0,0) _ HBK3.out Tryz.underlying30 rfl ?_ ?_; (rw [HSZ.out]; exact HS.out))
  | (go_at_call 12; rw [HMS.out]; refine (HZ.out _).mono ?_; rintro e w8 ⟨rfl,hb8⟩; have HB8:=aa (HB3.out.trans (hb8.mono HB3.out.size)); clear hb8)
  | fail)
 go_ret
 exact ⟨rfl,HB8.out⟩
theorem reads_some (s : ByteArray) (M : Ms) (w : World) (hs : s.size <= 20000) (ha : AnsAt w) (hd : decP s = some M) : Calls Tryz.prog 4 #[.string s] w (Holds w):=by
 have H1:=aa (awake26 w ha)
 have HD:=aa fun (W : World) (hb : Below w.heap.size w W) => (show Calls Tryz.prog 11 #[.string s] W (fun e w' => Below W.heap.size W w' /\ ∃ m : MC,e = .returned (.tuple #[.agg m.cells,.int .i64 0]) /\ MsAt w' (fun x => W.heap.size <= x) M m) from
  (ei s W (by omega) (ha.below hb)).mono fun e w' ⟨h1,h2⟩ => ⟨h1,by
   rcases h2 with ⟨h,-⟩ | ⟨M',m,h,he,hm⟩
   ·rw [hd] at h; cases h
   ·rw [hd] at h; obtain rfl:=Option.some.inj h; exact ⟨m,he,hm⟩⟩)
 obtain ⟨t,hdec,hright,hk2,hk8,hodd⟩:=dec_read hd
 have HRD:=aa fun (W : World) => (show Calls Tryz.prog 13 #[.string s] W (cV (t,s.size,0) W) by rw [<- hdec]; exact rdecode_any s W (by omega))
 have z1 : decide ((20000 : Int) < (s.size : Int)) = false:=ae (by omega)
 obtain ⟨c,k,g,b,ks⟩:=t
 have HRG:=aa hright
 simp only [Tl.kids] at hk2 hk8
 have HOD:=aa (show oddM ks = false -> M.tree = .mk c k g b ks /\ (PB.enc M.tree).length <= 8192 from hodd)
 have HS:=aa bd
 clear ha hd hright hdec hodd
 go_enter Tryz.func4,Tryz.ntmps4
 go_wp2_with (first
  | (go_at_call 5; refine H1.out.mono ?_; rintro e w1 ⟨rfl,hb1⟩; have HB1:=aa hb1; clear hb1)
  | fail)
 (go_at_call 11)
 refine (HD.out _ HB1.out).mono ?_
 rintro e w2 ⟨hb2,m,rfl,hm⟩
 have HB2:=aa (HB1.out.trans (hb2.mono HB1.out.size))
 have hMS : ∀ W,Below w2.heap.size w2 W -> MsAt W (fun x => w1.heap.size <= x) M m:=fun W hb => hm.keep (T:=fun x => w1.heap.size <= x) hb.size (fun x _ hlt => hb.block x hlt) (fun _ h _ => h)
 obtain ⟨ms,hms⟩ : ∃ ms,ms = m.cells:=⟨_,rfl⟩
 rw [<- hms]
 have HSZ : Hid (ms.size = 31):=by rw [hms]; exact ca m
 have HON : Hid (ms.all (·.oneCell') = true):=by rw [hms]; exact cf m
 have HRT:=aa fun (W : World) (hb : Below w2.heap.size w2 W) => (show Calls Tryz.prog 10 #[.agg ms] W (ap true W) by
  rw [hms,<- HRG.out]; exact ft M m _ W (hMS W hb))
 have HRE:=aa fun (W : World) (hb : Below w2.heap.size w2 W) (hw : M.wt <= 40000) (hf : M.filter.wt <= 10000) => (show Calls Tryz.prog 8 #[.agg ms] W (MEncPost M W) by
  rw [hms]; exact rencode_any M m _ W (hMS W hb) hw hf)
 clear hm hMS hms hb2
 go_wp2_with (first
  | (refine au rfl 30 (.tmp 3) (.tmp 21) rfl w2.heap.size rfl ms rfl 30 MC.zero.cells ?_ ?_ ?_ HON.out (fun w3 hbk3 hof3 => ?_); (exact Bk.new w2 _ _); (exact HSZ.out.symm); (rw [HSZ.out]; exact HS.out); have HBK3:=aa hbk3; have HN3:=aa ((((Below.refl w2.heap.size w2).alloc (Nat.le_refl _) mzero).trans (hof3.below (B:=w2.heap.size) (by simp) (by simp)))); clear hbk3 hof3)
  | fail)
 (go_at_call 13)
 refine (HRD.out _).mono ?_
 rintro e w4 ⟨hb4,cs,rfl,ht⟩
 unfold TlAt at ht
 obtain ⟨A,cap,rfl,⟨hc1,hc2⟩,hc3,hc4,hc5,hks⟩:=ht
 have HN4:=aa (HN3.out.trans (hb4.mono HN3.out.size))
 have HBK4:=aa (af HBK3.out hb4)
 have hcm : cap <= 9223372036854775807:=by unfold maxLen at hc2; omega
 have HKS:=aa hks
 simp only
 have l4:=HBK4.out.lt
 clear hb4 hks hc2
 obtain ⟨w5,hw5⟩ : ∃ W,W = w4.alloc (.cells #[.int .i64 c,.bool k,.int .i64 g,.string b,.slice A ks.length cap] 42):=⟨_,rfl⟩
 have hb5 : Below w4.heap.size w4 w5:=by rw [hw5]; exact (Below.refl _ w4).alloc (Nat.le_refl _) _
 have HX5:=aa (show Bk w5 w4.heap.size 42 #[.int .i64 c,.bool k,.int .i64 g,.string b,.slice A ks.length cap] by rw [hw5]; exact Bk.new w4 _ _)
 have HN5:=aa (HN4.out.trans (hb5.mono HN4.out.size))
 have HBK5:=aa (af HBK4.out hb5)
 have HKS5:=aa (KsAt.below hb5 ks A 0 HKS.out)
 have HW5:=aa hw5
 clear hw5 hb5 HKS HBK4 HN4 l4
 go_upto_region 9 with fail
 rw [<- HW5.out]
 have y1 : ((s.size : Int) != (s.size : Int)) = false:=by simp
 have y2 : decide ((ks.length : Int) < 2) = false:=ae (by omega)
 have y4 : decide ((1 : Int) < (ks.length : Int)) = true:=ab (by omega)
 go_wp2_with (first
  | (refine aZ rfl 30 (.tmp 3) rfl w2.heap.size rfl 30 ms (0,0) _ HBK5.out Tryz.underlying30 rfl ?_ ?_; (rw [HSZ.out]; exact HS.out))
  | fail)
 (go_at_call 10)
 refine (HRT.out _ HN5.out).mono ?_
 rintro e w6 ⟨rfl,hb6⟩
 have hx6:=af HX5.out hb6
 have p4 : w6.cell? ⟨w4.heap.size,4,none⟩ = some (.slice A ks.length cap):=hx6.cell 4
 have l6:=hx6.lt
 have hks6:=KsAt.below hb6 ks A 0 HKS5.out
 have HN6:=aa (HN5.out.trans (hb6.mono HN5.out.size))
 have HBK6:=aa (af HBK5.out hb6)
 have HX6:=aa hx6
 obtain ⟨bb,oo,c0,c1,c2,c3,c4,hA,hS,q0,q1,q2,q3,q4,ht1⟩:=hks6.get 1 (by omega)
 rw [Nat.zero_add,Nat.one_mul] at q0 q1 q2 q3 q4
 have HKS6:=aa hks6
 have HO1:=aa fun (W : World) (hb : Below w6.heap.size w6 W) => odd_any false ks[1] _ _ W (TlAt.below hb _ _ ht1)
 subst hA
 have hbl:=hS.2
 clear hb6 hx6 hks6 ht1 hS
 go_upto_region 11 with fail
 go_cut [83] from 57 to 82 (fun v wx => ∃ o : Bool,v = .bool o /\ Hid (o = false -> oddM ks = false) /\ Below w6.heap.size w6 wx)
 case first =>
  obtain ⟨o1,ho1⟩ : ∃ o,o = ks[1].oddB false:=⟨_,rfl⟩
  rw [<- ho1] at HO1
  go_wp2_with fail
  (go_at_call 14)
  refine (HO1.out _ (Below.refl _ _)).mono ?_
  rintro e w7 ⟨rfl,hb7⟩
  have HN7:=aa hb7
  have hx7:=af HX6.out hb7
  have r4 : w7.cell? ⟨w4.heap.size,4,none⟩ = some (.slice (some ⟨bb,oo,none⟩) ks.length cap):=hx7.cell 4
  have l7:=hx7.lt
  have hks7:=KsAt.below hb7 ks _ 0 HKS6.out
  have HX7:=aa hx7
  have HKS7:=aa hks7
  have HO:=aa ho1
  clear hx7 hks7 hb7 ho1 q0 q1 q2 q3 q4 p4
  cases o1 with
  | true =>
   go_wp2_with fail
   go_meet
   exact ⟨true,rfl,(fun h => by cases h),HN7.out⟩
  | false =>
   by_cases h2 : 2 < ks.length
   rotate_left
   ·have y5 : decide ((2 : Int) < (ks.length : Int)) = false:=ae (by omega)
    have HF : Hid (oddM ks = false):=by
     have h3:=HO.out
     rcases ks with _ | ⟨k0,_ | ⟨k1,_ | ⟨k2,r⟩⟩⟩
     ·simp at hk2
     ·simp at hk2
     ·show _ = _; simp only [oddM,Bool.or_false]; exact h3.symm
     ·simp at h2
    go_wp2_with fail
    go_meet
    exact ⟨false,rfl,fun _ => HF.out,HN7.out⟩
   ·have y5 : decide ((2 : Int) < (ks.length : Int)) = true:=ab (by omega)
    obtain ⟨b2,o2,d0,d1,d2,d3,d4,hA,hS,q0,q1,q2,q3,q4,ht2⟩:=HKS7.out.get 2 (by omega)
    obtain ⟨rfl,rfl⟩ : bb = b2 /\ oo = o2:=by injection hA with hA; injection hA with h1 h2; exact ⟨h1,h2⟩
    rw [Nat.zero_add] at q0 q1 q2 q3 q4
    have HO2:=aa (odd_any true ks[2] _ _ w7 ht2)
    obtain ⟨x,hx⟩ : ∃ x,x = ks[2]:=⟨_,rfl⟩
    have HXX:=aa hx
    rw [<- hx] at HO2 ht2
    obtain ⟨xc,xk,xg,xb,xks⟩:=x
    unfold TlAt at ht2
    obtain ⟨xA,xcap,hxe,⟨hx1,hx2⟩,-,-,-,-⟩:=ht2
    simp only [Array.mk.injEq,List.cons.injEq,and_true] at hxe
    obtain ⟨rfl,rfl,rfl,rfl,rfl⟩:=hxe
    obtain ⟨p,hp⟩ : ∃ p,p = (Tl.mk xc xk xg xb xks).oddB true:=⟨_,rfl⟩
    rw [<- hp] at HO2
    have HP:=aa hp
    have hxm : xcap <= 9223372036854775807:=by unfold maxLen at hx2; omega
    have hbb:=hS.2
    clear hA hS hx hp hx2
    rw [show 2 * 5 = 10 from rfl] at q0 q1 q2 q3 q4
    have HQ4:=aa q4
    go_wp2_with fail
    (go_at_call 14)
    refine HO2.out.mono ?_
    rintro e w8 ⟨rfl,hb8⟩
    have u4 : w8.cell? ⟨w4.heap.size,4,none⟩ = some (.slice (some ⟨bb,oo,none⟩) ks.length cap):=(af HX7.out hb8).cell 4
    have l8:=(af HX7.out hb8).lt
    have v4 : w8.cell? ⟨bb,oo + 10 + 4,none⟩ = some (.slice xA xks.length xcap):=(hb8.cell (p:=⟨bb,oo + 10 + 4,none⟩) hbb).trans HQ4.out
    have lbb : bb < w8.heap.size:=Nat.lt_of_lt_of_le hbb hb8.size
    have HN8:=aa (HN7.out.trans (hb8.mono HN7.out.size))
    clear hb8 q0 q1 q2 q3 q4
    cases p with
    | true =>
     go_wp2_with fail
     go_meet
     exact ⟨true,rfl,(fun h => by cases h),HN8.out⟩
    | false =>
     by_cases hz : xks.length = 0
     ·have y6 : ((xks.length : Int) == 0) = true:=by rw [beq_iff_eq]; omega
      have y7 : (xks.length == 0) = true:=by rw [beq_iff_eq]; omega
      clear hz
      go_wp2_with fail
      go_meet
      exact ⟨true,rfl,(fun h => by cases h),HN8.out⟩
     ·have y6 : ((xks.length : Int) == 0) = false:=by rw [beq_eq_false_iff_ne]; omega
      have y7 : (xks.length == 0) = false:=by rw [beq_eq_false_iff_ne]; omega
      have HF : Hid (oddM ks = false):=by
       have h3:=HO.out
       have h4:=HXX.out
       have h5:=HP.out
       rcases ks with _ | ⟨k0,_ | ⟨k1,_ | ⟨k2,r⟩⟩⟩
       ·simp at hk2
       ·simp at hk2
       ·simp at h2
       ·have h6 : k2 = Tl.mk xc xk xg xb xks:=h4.symm
        subst h6
        show _ = _
        have h7 : k1.oddB false = false:=h3.symm
        have h8 : xks.isEmpty = false:=by cases xks; exact absurd rfl hz; rfl
        simp only [oddM,Tl.kids]
        rw [h7,<- h5,h8]
        rfl
      clear hz
      go_wp2_with fail
      go_meet
      exact ⟨false,rfl,fun _ => HF.out,HN8.out⟩
 case rest =>
  obtain ⟨o,rfl,HOO,hbc⟩:=hcut
  have HNC:=aa (HN6.out.trans (hbc.mono HN6.out.size))
  have HBKC:=aa (af HBK6.out hbc)
  have HXC:=aa (af HX6.out hbc)
  have HKSC:=aa (KsAt.below hbc ks _ 0 HKS6.out)
  clear hbc
  cases o with
  | true =>
   go_wp2_with fail
   go_ret
   exact ⟨rfl,HB2.out.trans (HNC.out.mono HB2.out.size)⟩
  | false =>
   obtain ⟨hT,hL⟩:=HOD.out (HOO.out rfl)
   have hwt:=M.wt_le HRG.out
   have hrg : M.ranged = true:=by
    have:=HRG.out
    unfold Ms.right at this
    simp only [Bool.and_eq_true] at this
    exact this.2.2.1
   have hE : encE M.tree = 0:=by rw [M.encE_tree hrg,if_neg (by omega)]
   have hS : encS M.tree = ⟨(PB.enc M.tree).toArray⟩:=by unfold encS; rw [if_pos hE]
   have HEN:=aa fun (W : World) (hb : Below w2.heap.size w2 W) => (show Calls Tryz.prog 8 #[.agg ms] W (fun e w' => Below W.heap.size W w' /\ e = .returned (.tuple #[.string ⟨(PB.enc M.tree).toArray⟩,.int .i64 0])) from
    (HRE.out W hb (by omega) (by omega)).mono fun e w' ⟨h1,h2⟩ => ⟨h1,by
     rcases h2 with ⟨-,h⟩ | ⟨h,-⟩
     ·rw [hE,hS] at h; exact h
     ·rw [HRG.out] at h; cases h⟩)
   have hdc:=PB.dec_enc M.tree (M.tree_right hrg) hL []
   rw [List.append_nil] at hdc
   have HR2:=aa fun (W : World) => (show Calls Tryz.prog 13 #[.string ⟨(PB.enc M.tree).toArray⟩] W (cV (M.tree,(PB.enc M.tree).length,0) W) by
    have h:=rdecode_any ⟨(PB.enc M.tree).toArray⟩ W (by show (PB.enc M.tree).toArray.size <= _; rw [List.size_toArray]; omega)
    rwa [show (⟨(PB.enc M.tree).toArray⟩ : ByteArray).data.toList = PB.enc M.tree from rfl,hdc] at h)
   rw [hT] at HR2
   obtain ⟨u,hu⟩ : ∃ u : ByteArray,u = ⟨(PB.enc M.tree).toArray⟩:=⟨_,rfl⟩
   obtain ⟨n,hn⟩ : ∃ n,n = (PB.enc (Tl.mk c k g b ks)).length:=⟨_,rfl⟩
   rw [<- hu] at HEN
   rw [hT] at hu
   rw [<- hu,<- hn] at HR2
   have HKK:=aa (show (encS M.tree).size <= 8192 \/ True from .inr trivial)
   clear hT hL hwt hrg hE hS hdc hu hn
   go_wp2_with (first
    | (refine aZ rfl 30 (.tmp 3) rfl w2.heap.size rfl 30 ms (0,0) _ HBKC.out Tryz.underlying30 rfl ?_ ?_; (rw [HSZ.out]; exact HS.out))
    | fail)
   (go_at_call 8)
   refine (HEN.out _ HNC.out).mono ?_
   rintro e w9 ⟨hb9,rfl⟩
   have HX9:=aa (af HXC.out hb9)
   have HKS9:=aa (KsAt.below hb9 ks _ 0 HKSC.out)
   have HN9:=aa (HNC.out.trans (hb9.mono HNC.out.size))
   clear hb9
   go_wp2_with fail
   (go_at_call 13)
   refine (HR2.out _).mono ?_
   rintro e w10 ⟨hb10,cs,rfl,ht⟩
   have HTT:=aa ht
   unfold TlAt at ht
   obtain ⟨A2,cap2,rfl,⟨hc1',hc2'⟩,-,-,hc5',hks'⟩:=ht
   have hks10:=KsAt.below hb10 ks _ 0 HKS9.out
   have HX10:=aa (af HX9.out hb10)
   have HN10:=aa (HN9.out.trans (hb10.mono HN9.out.size))
   have HT1:=aa (show TlAt w10 (fun b => w3.heap.size <= b) (.mk c k g b ks) #[.int .i64 c,.bool k,.int .i64 g,.string b,.slice (some ⟨bb,oo,none⟩) ks.length cap] by
    unfold TlAt; exact ⟨_,_,rfl,⟨hc1,by unfold maxLen; omega⟩,hc3,hc4,hc5,hks10⟩)
   have HSS:=aa fun (W : World) (hb : Below w10.heap.size w10 W) => sameT_any (Tl.mk c k g b ks).rank _ _ (.mk c k g b ks) _ _ W (Nat.le_refl _) (TlAt.below hb _ _ HTT.out) (TlAt.below hb _ _ HT1.out)
   have s0 : w10.cell? ⟨w4.heap.size,0,none⟩ = some (.int .i64 c):=HX10.out.cell 0
   have s1 : w10.cell? ⟨w4.heap.size,1,none⟩ = some (.bool k):=HX10.out.cell 1
   have s2 : w10.cell? ⟨w4.heap.size,2,none⟩ = some (.int .i64 g):=HX10.out.cell 2
   have s3 : w10.cell? ⟨w4.heap.size,3,none⟩ = some (.string b):=HX10.out.cell 3
   have s4 : w10.cell? ⟨w4.heap.size,4,none⟩ = some (.slice (some ⟨bb,oo,none⟩) ks.length cap):=HX10.out.cell 4
   have l10:=HX10.out.lt
   have HBA:=aa (((Below.refl w10.heap.size w10).alloc (Nat.le_refl _) (.cells #[.int .i64 c,.bool k,.int .i64 g,.string b,.slice A2 ks.length cap2] 42)))
   clear hb10 hks10 hks' hc1' hc2' hc5' HTT HT1
   go_wp2_with (first
    | (go_at_call 15; go_must (refine (HSS.out _ HBA.out).mono ?_); rintro e w11 ⟨rfl,hb11⟩; have HN11:=aa (HN10.out.trans ((HBA.out.trans (hb11.mono HBA.out.size)).mono HN10.out.size)); clear hb11)
    | fail)
   go_ret
   exact ⟨rfl,HB2.out.trans (HN11.out.mono HB2.out.size)⟩
theorem msgReads_any (s : ByteArray) (w : World) (hm : s.size <= maxLen) (ha : AnsAt w) : Calls Tryz.prog 4 #[.string s] w (Holds w):=by
 by_cases h : 20000 < s.size
 ·exact reads_long s w h hm ha
 cases hd : decP s with
 | none => exact reads_none s w (by omega) ha hd
 | some M => exact reads_some s M w (by omega) ha hd
end Go.Proofs.YtbiglfpikfjbpaaGreatDoor
