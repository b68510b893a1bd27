import Derived.Test.YtbiglfpikfjbpaaGreatDoorM12
import Derived.Test.YtbiglfpikfjbpaaGreatDoorM15
import Derived.Test.YtbiglfpikfjbpaaGreatDoorM10
import Derived.Deep.DeepCutAuto
namespace Go.Proofs.YtbiglfpikfjbpaaGreatDoor
open Go.RowKit
open Go.PlainAid
set_option maxRecDepth 100000
set_option linter.unusedVariables false
set_option linter.unusedSimpArgs false
set_option maxHeartbeats 40000000
theorem kidsOf_few (f : Option (List UInt8 -> Except Nat Tl)) (hf : ∀ g,f = some g -> ∀ l t,l.length <= 8192 -> g l = .ok t -> t.few) : ∀ (fu : Nat) (l : List UInt8) (ts : List Tl),l.length <= 8192 -> PB.kidsOf f fu l = .ok ts -> ts.length <= fu /\ Tl.fews ts
 | 0,l,ts,hl,h => by
  simp only [PB.kidsOf] at h
  cases h
  exact ⟨Nat.le_refl _,by unfold Tl.fews; trivial⟩
 | fu + 1,l,ts,hl,h => by
  simp only [PB.kidsOf] at h
  by_cases h0 : l = []
  ·rw [if_pos h0] at h
   cases h
   exact ⟨Nat.zero_le _,by unfold Tl.fews; trivial⟩
  rw [if_neg h0] at h
  cases f with
  | none => cases h
  | some g =>
   simp only at h
   by_cases h1 : (PB.head l).2.2 ≠ 0 \/ l.length < PB.span l
   ·rw [if_pos h1] at h; cases h
   rw [if_neg h1] at h
   cases hg : g (l.take (PB.span l)) with
   | error e => rw [hg] at h; cases h
   | ok t =>
    rw [hg] at h
    simp only at h
    cases hk : PB.kidsOf (some g) fu (l.drop (PB.span l)) with
    | error e => rw [hk] at h; cases h
    | ok ks =>
     rw [hk] at h
     simp only at h
     cases h
     have hi:=kidsOf_few (some g) hf fu _ ks (by rw [List.length_drop]; omega) hk
     refine ⟨by simp; exact hi.1,?_⟩
     unfold Tl.fews
     exact ⟨hf g rfl _ t (by rw [List.length_take]; omega) hg,hi.2⟩
theorem valOf_few (f : Option (List UInt8 -> Except Nat Tl)) (hf : ∀ g,f = some g -> ∀ l t,l.length <= 8192 -> g l = .ok t -> t.few) (l : List UInt8) (t : Tl) (hl : l.length <= 8192) (h : PB.valOf f l = .ok t) : t.few:=by
 unfold PB.valOf at h
 by_cases h1 : (PB.head l).2.2 ≠ 0 \/ PB.span l ≠ l.length
 ·rw [if_pos h1] at h; cases h
 rw [if_neg h1] at h
 by_cases h2 : PB.byt l 0 / 32 % 2 = 0
 ·rw [if_pos h2] at h
  cases h
  unfold Tl.few
  exact ⟨by simp,by unfold Tl.fews; trivial⟩
 rw [if_neg h2] at h
 cases hk : PB.kidsOf f l.length (l.drop (PB.head l).1) with
 | error e => rw [hk] at h; cases h
 | ok ts =>
  rw [hk] at h
  cases h
  have:=kidsOf_few f hf _ _ ts (by rw [List.length_drop]; omega) hk
  unfold Tl.few
  exact ⟨by omega,this.2⟩
theorem val_few : ∀ (k : Nat) (l : List UInt8) (t : Tl),l.length <= 8192 -> PB.val k l = .ok t -> t.few
 | 0,l,t,hl,h => valOf_few none (fun g hg => by cases hg) l t hl h
 | k + 1,l,t,hl,h => valOf_few (some (PB.val k)) (fun g hg l t hl h => by cases hg; exact val_few k l t hl h) l t hl h
theorem total_le (l : List UInt8) : (PB.total l).1 <= 8192:=by
 unfold PB.total
 split
 ·exact Nat.zero_le _
 ·split
  ·exact Nat.zero_le _
  ·dsimp only; omega
theorem dec_few (l : List UInt8) : (PB.dec l).1.few:=by
 have hz : (Tl.mk 0 false 0 ByteArray.empty []).few:=by unfold Tl.few; exact ⟨by simp,by unfold Tl.fews; trivial⟩
 unfold PB.dec
 split
 ·exact hz
 split
 ·exact hz
 split
 ·rename_i t ht
  exact val_few 15 _ t (by rw [List.length_take]; have:=total_le l; omega) ht
 ·exact hz
theorem Tl.few_kids {t : Tl} (h : t.few) : Few t.kids:=by
 obtain ⟨c,k,t,b,ks⟩:=t
 unfold Tl.few at h
 exact h
def fd (M : Ms) (r : List Tl) : Option Ms:=match headP 2 0 true r with
 | some (c,rest) => (cD c.kids).bind fun az => if rest = [] /\ ({ M with controls:=az } : Ms).right = true then some { M with controls:=az } else none
 | none => if r = [] /\ M.right = true then some M else none
def eP (ks : List Tl) : Option Ms:=(numP 2 0 2147483647 ks).bind fun a => match a.2 with
 | [] => none
 | k :: r => (opP a.1 k).bind fun M => fd M r
def decP (s : ByteArray) : Option Ms :=
 if (PB.dec s.data.toList).2.2 ≠ 0 \/ (PB.dec s.data.toList).2.1 ≠ s.size \/ (PB.dec s.data.toList).1.isB 0 16 true = false then none else eP (PB.dec s.data.toList).1.kids
def DecM (r : Option Ms) (w : World) (e : Ending) (w' : World) : Prop :=
 Below w.heap.size w w' /\ ((r = none /\ e = .returned (.tuple #[.agg MC.zero.cells,.int .i64 4])) \/ ∃ (M : Ms) (m : MC),r = some M /\ e = .returned (.tuple #[.agg m.cells,.int .i64 0]) /\ MsAt w' (fun x => w.heap.size <= x) M m)
abbrev mzero : Obj:=.cells MC.zero.cells 30
abbrev ezero : Obj:=.cells #[.int .i64 0] 33
theorem a9 (w : World) : Two ((w.alloc mzero).alloc ezero) w.heap.size MC.zero.cells 0 /\ Below w.heap.size w ((w.alloc mzero).alloc ezero) /\ ((w.alloc mzero).alloc ezero).heap.size = w.heap.size + 2:=by
 refine ⟨⟨(Bk.new w _ _).alloc _,?_⟩,((Below.refl _ w).alloc (Nat.le_refl _) _).alloc (by simp) _,by simp⟩
 have h:=Bk.new (w.alloc mzero) 33 #[.int .i64 0]
 have e : (w.alloc mzero).heap.size = w.heap.size + 1:=by simp
 rwa [e] at h
theorem Two.below {w w' : World} {b : Nat} {cs : Array Value} {er : Int} (h : Two w b cs er) (hb : Below w.heap.size w w') : Two w' b cs er:=⟨af h.1 hb,af h.2 hb⟩
theorem Two.er {w : World} {b : Nat} {cs : Array Value} {e0 : Int} (h : Two w b cs e0) (er : Int) : Two (w.setCell ⟨b + 1,0,none⟩ (.int .i64 er)) b cs er:=by
 refine ⟨h.1.far (p:=⟨b + 1,0,none⟩) (by simp) _,?_⟩
 have:=h.2.put 0 (.int .i64 er)
 simpa using this
theorem is_no {x0 x2 : Int} {x1 : Bool} {t : Tl} {w : World} {S : Nat -> Prop} {x3 : ByteArray} {A : Option Addr} {n c : Nat} (ht : TlAt w S t #[.int .i64 x0,.bool x1,.int .i64 x2,.string x3,.slice A n c]) : t.isB 0 16 true = (x0 == 0 && (x2 == 16 && x1 == true)):=by
 obtain ⟨a1,a2,a3,a4,a5⟩:=t
 unfold TlAt at ht
 obtain ⟨yA,yc,he,-⟩:=ht
 simp only [Array.mk.injEq,List.cons.injEq,and_true,Value.int.injEq,Value.bool.injEq,true_and] at he
 obtain ⟨rfl,rfl,rfl,-⟩:=he
 rfl
theorem mdecode_early (s : ByteArray) (t : Tl) (n er : Nat) (w : World) (hd : ∀ W : World,Calls Tryz.prog 38 #[.string s] W (ez (t,n,er) W)) (h : er ≠ 0 \/ n ≠ s.size \/ t.isB 0 16 true = false) :
  Calls Tryz.prog 11 #[.string s] w (DecM none w):=by
 have HS:=aa aT
 have HD:=aa hd
 obtain ⟨z,hz⟩ : ∃ z,z = MC.zero.cells:=⟨_,rfl⟩
 have HZ : Hid (z.all (·.oneCell') = true):=by rw [hz]; exact cF _
 have HZSZ : Hid (z.size = 31):=by rw [hz]; rfl
 have HZE:=aa hz
 have hcs : (er ≠ 0) \/ (er = 0 /\ n ≠ s.size) \/ (er = 0 /\ n = s.size /\ t.isB 0 16 true = false):=by
  by_cases h1 : er = 0
  ·by_cases h2 : n = s.size
   ·exact .inr (.inr ⟨h1,h2,by rcases h with h | h | h; exact absurd h1 h; exact absurd h2 h; exact h⟩)
   ·exact .inr (.inl ⟨h1,h2⟩)
  ·exact .inl h1
 clear hd h hz
 rcases hcs with h1 | ⟨rfl,h2⟩ | ⟨rfl,rfl,h3⟩
 ·have t1 : ((er : Int) != 0) = true:=by simp; omega
  have t2 : ((er : Int) == 0) = false:=by simp; omega
  go_enter_defers Tryz.func11,Tryz.ntmps11
  go_wp2_with (first
   | (go_at_call 38; refine (HD.out _).mono ?_; rintro e w1 ⟨hb1,cs,rfl,ht⟩; obtain ⟨x0,x1,x2,x3,xA,xn,xc,rfl⟩:=ak ht; have htw:=(a9 w).1.below hb1; have HB1:=aa ((a9 w).2.1.trans (hb1.mono (a9 w).2.1.size)); have HT:=aa (htw.1.alloc (.cells #[.int .i64 x0,.bool x1,.int .i64 x2,.string x3,.slice xA xn xc] 42)); have HT2:=aa (htw.2.alloc (.cells #[.int .i64 x0,.bool x1,.int .i64 x2,.string x3,.slice xA xn xc] 42)); clear hb1 ht htw)
   | (refine ap rfl 30 (.tmp 2) (.tmp 29) rfl w.heap.size rfl z (by rw [HZE.out]; rfl) 30 _ HT.out (by rw [HZSZ.out]; rfl) (by rw [HZSZ.out]; exact HS.out) HZ.out ?_; intro w3 hb3 ho3; have HB3:=aa hb3; have HO3:=aa ho3; have y3 : w3.cell? ⟨w.heap.size + 1,0,none⟩ = some (.int .i64 0):=(ho3.bk HT2.out (by simp)).cell 0; have f3:=(ho3.bk HT2.out (by simp)).frozen 0; have HY3:=aa (ho3.bk HT2.out (by simp)); clear hb3 ho3)
   | fail)
  refine ⟨_,aQ rfl rfl ⟨HB3.out.far (p:=⟨w.heap.size + 1,0,none⟩) (by simp) _,by have:=HY3.out.put 0 (.int .i64 4); simpa using this⟩ HZSZ.out,?_,.inl ⟨rfl,by rw [HZE.out]⟩⟩
  exact ((HB1.out.alloc HB1.out.size _).trans (HO3.out.below (B:=w.heap.size) (Nat.le_trans HB1.out.size (by simp)) (by simp))).setCell (by simp) _
 ·have t1 : (n != s.size) = true:=by simpa using h2
  have t2 : (n == s.size) = false:=by simpa using h2
  have t3 : ((n : Int) != (s.size : Int)) = true:=by simp; omega
  have t4 : ((n : Int) == (s.size : Int)) = false:=by simp; omega
  clear h2
  go_enter_defers Tryz.func11,Tryz.ntmps11
  go_wp2_with (first
   | (go_at_call 38; refine (HD.out _).mono ?_; rintro e w1 ⟨hb1,cs,rfl,ht⟩; obtain ⟨x0,x1,x2,x3,xA,xn,xc,rfl⟩:=ak ht; have htw:=(a9 w).1.below hb1; have HB1:=aa ((a9 w).2.1.trans (hb1.mono (a9 w).2.1.size)); have HT:=aa (htw.1.alloc (.cells #[.int .i64 x0,.bool x1,.int .i64 x2,.string x3,.slice xA xn xc] 42)); have HT2:=aa (htw.2.alloc (.cells #[.int .i64 x0,.bool x1,.int .i64 x2,.string x3,.slice xA xn xc] 42)); clear hb1 ht htw)
   | (refine ap rfl 30 (.tmp 2) (.tmp 29) rfl w.heap.size rfl z (by rw [HZE.out]; rfl) 30 _ HT.out (by rw [HZSZ.out]; rfl) (by rw [HZSZ.out]; exact HS.out) HZ.out ?_; intro w3 hb3 ho3; have HB3:=aa hb3; have HO3:=aa ho3; have y3 : w3.cell? ⟨w.heap.size + 1,0,none⟩ = some (.int .i64 0):=(ho3.bk HT2.out (by simp)).cell 0; have f3:=(ho3.bk HT2.out (by simp)).frozen 0; have HY3:=aa (ho3.bk HT2.out (by simp)); clear hb3 ho3)
   | fail)
  refine ⟨_,aQ rfl rfl ⟨HB3.out.far (p:=⟨w.heap.size + 1,0,none⟩) (by simp) _,by have:=HY3.out.put 0 (.int .i64 4); simpa using this⟩ HZSZ.out,?_,.inl ⟨rfl,by rw [HZE.out]⟩⟩
  exact ((HB1.out.alloc HB1.out.size _).trans (HO3.out.below (B:=w.heap.size) (Nat.le_trans HB1.out.size (by simp)) (by simp))).setCell (by simp) _
 ·have t1 : (s.size != s.size) = false:=by simp
  have t2 : (s.size == s.size) = true:=by simp
  have t3 : ((s.size : Int) != (s.size : Int)) = false:=by simp
  go_enter_defers Tryz.func11,Tryz.ntmps11
  go_wp2_with (first
   | (go_at_call 38; refine (HD.out _).mono ?_; rintro e w1 ⟨hb1,cs,rfl,ht⟩; obtain ⟨x0,x1,x2,x3,xA,xn,xc,rfl⟩:=ak ht; have htw:=(a9 w).1.below hb1; have HB1:=aa ((a9 w).2.1.trans (hb1.mono (a9 w).2.1.size)); have HT:=aa (htw.1.alloc (.cells #[.int .i64 x0,.bool x1,.int .i64 x2,.string x3,.slice xA xn xc] 42)); have HIS:=aa ((is_no ht).symm.trans h3); have HT2:=aa (htw.2.alloc (.cells #[.int .i64 x0,.bool x1,.int .i64 x2,.string x3,.slice xA xn xc] 42)); clear hb1 ht htw)
   | (go_at_call 39; refine (dK x0 x2 x1 _ _ 0 16 true _).mono ?_; rw [HIS.out]; rintro e w2 ⟨rfl,hb2⟩; have HU:=aa (af HT.out hb2); have HU2:=aa (af HT2.out hb2); have HB2:=aa ((HB1.out.alloc HB1.out.size (.cells #[.int .i64 x0,.bool x1,.int .i64 x2,.string x3,.slice xA xn xc] 42)).trans (hb2.mono (Nat.le_trans HB1.out.size (by simp)))); clear hb2)
   | (refine ap rfl 30 (.tmp 2) (.tmp 29) rfl w.heap.size rfl z (by rw [HZE.out]; rfl) 30 _ HU.out (by rw [HZSZ.out]; rfl) (by rw [HZSZ.out]; exact HS.out) HZ.out ?_; intro w3 hb3 ho3; have HB3:=aa hb3; have HO3:=aa ho3; have y3 : w3.cell? ⟨w.heap.size + 1,0,none⟩ = some (.int .i64 0):=(ho3.bk HU2.out (by simp)).cell 0; have f3:=(ho3.bk HU2.out (by simp)).frozen 0; have HY3:=aa (ho3.bk HU2.out (by simp)); clear hb3 ho3)
   | fail)
  refine ⟨_,aQ rfl rfl ⟨HB3.out.far (p:=⟨w.heap.size + 1,0,none⟩) (by simp) _,by have:=HY3.out.put 0 (.int .i64 4); simpa using this⟩ HZSZ.out,?_,.inl ⟨rfl,by rw [HZE.out]⟩⟩
  exact (HB2.out.trans (HO3.out.below (B:=w.heap.size) HB2.out.size (by simp))).setCell (by simp) _
theorem br {w W wX w9 : World} {b : Nat} (h3 : Below w.heap.size w W) (ho : Off [b,w.heap.size] W wX) (hb : w.heap.size + 1 < b) (h9 : Off [w.heap.size,w.heap.size + 1] wX w9) : Below w.heap.size w w9 :=
 (h3.trans (ho.below (B:=w.heap.size) h3.size (by simp; omega))).trans (h9.below (B:=w.heap.size) (Nat.le_trans h3.size ho.size) (by simp))
theorem KsAt.of {w : World} {S : Nat -> Prop} {A : Option Addr} : ∀ (ks : List Tl) (j : Nat),(∀ (i : Nat) (h : i < ks.length),∃ (b o : Nat) (c0 c1 c2 c3 c4 : Value),A = some ⟨b,o,none⟩ /\ (S b /\ b < w.heap.size) /\ w.cell? ⟨b,o + (j + i) * 5,none⟩ = some c0 /\ w.cell? ⟨b,o + (j + i) * 5 + 1,none⟩ = some c1 /\ w.cell? ⟨b,o + (j + i) * 5 + 2,none⟩ = some c2 /\ w.cell? ⟨b,o + (j + i) * 5 + 3,none⟩ = some c3 /\ w.cell? ⟨b,o + (j + i) * 5 + 4,none⟩ = some c4 /\ TlAt w S ks[i] #[c0,c1,c2,c3,c4]) -> KsAt w S ks A j
 | [],_,_ => by unfold KsAt; trivial
 | k :: ks,j,h => by
  unfold KsAt
  refine ⟨by have:=h 0 (by simp); simp only [Nat.add_zero,List.getElem_cons_zero] at this; exact this,KsAt.of ks (j + 1) fun i hi => ?_⟩
  have:=h (i + 1) (by simp; omega)
  rw [show j + (i + 1) = j + 1 + i by omega] at this
  simpa using this
theorem TRow.kids {w : World} {S : Nat -> Prop} {A : Option Addr} {n cap : Nat} {ks : List Tl} (h : TRow w S (.slice A n cap) ks) : n = ks.length /\ (ks.length <= cap /\ cap <= maxLen) /\ KsAt w S ks A 0:=by
 obtain ⟨A',cap',hv,h1,h2,h3⟩:=h
 injection hv with e1 e2 e3
 subst e1 e3
 refine ⟨e2,⟨h1,h2⟩,KsAt.of ks 0 fun i hi => ?_⟩
 have:=h3 i hi
 rw [Nat.zero_add]
 exact this
theorem numP_few {ks r : List Tl} {n : Int} (h : Few ks) (hp : numP 2 0 2147483647 ks = some (n,r)) : Few r:=h.num hp
theorem MsAt.ctls {w : World} {S : Nat -> Prop} {M : Ms} {m : MC} {az : List Co} {q : Rw} (h : MsAt w S M m) (hq : RowOf 4 CoAt w S q az) : MsAt w S { M with controls:=az } { m with controls:=q }:=by
 obtain ⟨f,a,l,mo,d,c,rfl,hf,h1,h2,h3,h4,h5,h6⟩:=h
 exact ⟨f,a,l,mo,d,q,rfl,hf,h1,h2,h3,h4,h5,hq⟩
theorem tailP_no {M : Ms} {r : List Tl} (h : headP 2 0 true r = none) : fd M r = if r = [] /\ M.right = true then some M else none:=by unfold fd; rw [h]
theorem fO {M : Ms} {r rest : List Tl} {c : Tl} {az : List Co} (h : headP 2 0 true r = some (c,rest)) (hc : cD c.kids = some az) : fd M r = if rest = [] /\ ({ M with controls:=az } : Ms).right = true then some { M with controls:=az } else none:=by unfold fd; rw [h]; simp only [hc,Option.bind_some]
theorem dO {ks r : List Tl} {n : Int} {k : Tl} {M : Ms} (h : numP 2 0 2147483647 ks = some (n,k :: r)) (h2 : opP n k = some M) : eP ks = fd M r:=by unfold eP; rw [h]; simp only [Option.bind_some,h2]
theorem few_kids {c t : Int} {kk : Bool} {s : ByteArray} {ks l rest : List Tl} (h : Few ks) (hp : headP c t kk ks = some (.mk c kk t s l,rest)) : Few l:=by
 obtain ⟨rfl,-⟩:=bi hp
 exact h.kids
theorem mdecode_body (s : ByteArray) (sb : ByteArray) (ks : List Tl) (w : World) (hd : ∀ W : World,Calls Tryz.prog 38 #[.string s] W (ez (.mk 0 true 16 sb ks,s.size,0) W)) (hf : Few ks) (ha : AnsAt w) :
  Calls Tryz.prog 11 #[.string s] w (DecM (eP ks) w):=by
 have HS:=aa aT
 have HD:=aa hd
 have HF0:=aa hf
 have HA:=aa ha
 have halt : 0 < w.heap.size:=block_lt_of_cell (ha 0 (by omega))
 have HAL:=aa halt
 have t1 : (s.size != s.size) = false:=by simp
 have t2 : (s.size == s.size) = true:=by simp
 have t3 : ((s.size : Int) != (s.size : Int)) = false:=by simp
 have hmf : ∀ (fn : Fn) (first cap : Array Value) (w : World),(Instr.makeFunc fn first cap).run Tryz.prog w = .ok (.func fn first cap) w:=fun _ _ _ _ => rfl
 clear hd hf ha halt
 go_enter_defers Tryz.func11,Tryz.ntmps11
 go_wp2_with (first
  | (go_at_call 38; refine (HD.out _).mono ?_; rintro e w1 ⟨hb1,cs,rfl,ht⟩; have ht : TlAt w1 _ (.mk 0 true 16 sb ks) cs:=ht; unfold TlAt at ht; obtain ⟨xA,xc,rfl,hxl,-,-,-,hxk⟩:=ht; have htw:=(a9 w).1.below hb1; have HB1:=aa ((a9 w).2.1.trans (hb1.mono (a9 w).2.1.size)); have HTW:=aa htw; have HXK:=aa (show KsAt w1 (fun x => w.heap.size + 2 <= x) ks xA 0 from KsAt.keep (Nat.le_refl _) (fun _ _ _ => rfl) (fun x hx _ => by have:=(a9 w).2.2; have h : ((w.alloc mzero).alloc ezero).heap.size <= x:=hx; show w.heap.size + 2 <= x; omega) ks xA 0 hxk); have HXL:=aa hxl; have hs1:=hb1.size; have hs1' : w.heap.size + 2 <= w1.heap.size:=(by have:=(a9 w).2.2; have h : ((w.alloc mzero).alloc ezero).heap.size <= w1.heap.size:=hs1; omega); clear hb1 hxl hxk htw hs1)
  | (go_at_call 39; refine (dK 0 16 true _ _ 0 16 true _).mono ?_; rintro e w2 ⟨rfl,hb2⟩; have HB2:=aa hb2; have hs2:=hb2.size; have hx4 : w2.cell? ⟨w1.heap.size,4,none⟩ = some (.slice xA ks.length xc):=(af (Bk.new w1 42 #[.int .i64 0,.bool true,.int .i64 16,.string sb,.slice xA ks.length xc]) hb2).cell 4; clear hb2)
  | fail)
 have hs2' : w1.heap.size + 1 <= w2.heap.size:=by simpa using hs2
 have hba : Below w1.heap.size w1 w2:=((Below.refl _ w1).alloc (Nat.le_refl _) (.cells #[.int .i64 0,.bool true,.int .i64 16,.string sb,.slice xA ks.length xc] 42)).trans (HB2.out.mono (by simp))
 have hba3 : Below w1.heap.size w1 (w2.alloc (.cells #[.slice xA ks.length xc] 76)):=hba.alloc (by omega) _
 have HB3:=aa (show Below w.heap.size w (w2.alloc (.cells #[.slice xA ks.length xc] 76)) from HB1.out.trans (hba3.mono HB1.out.size))
 have htw3:=HTW.out.below hba3
 have HER:=aa htw3.2
 have HBG:=aa (show w.heap.size + 1 < w2.heap.size by omega)
 have HF:=aa (show Fix (fun x => w.heap.size + 2 <= x /\ x < w1.heap.size) w2.heap.size w.heap.size (w2.alloc (.cells #[.slice xA ks.length xc] 76)).heap.size from ⟨by omega,by simp,by simp; omega,fun x hx => ⟨by have:=hx.2; omega,by have:=hx.1; omega,by have:=hx.2; simp; omega⟩⟩)
 have HS0:=aa (show St (w2.alloc (.cells #[.slice xA ks.length xc] 76)) (fun x => w.heap.size + 2 <= x /\ x < w1.heap.size) w2.heap.size w.heap.size 30 (w2.alloc (.cells #[.slice xA ks.length xc] 76)) (.slice xA ks.length xc) ks MC.zero.cells from
  ⟨Off.refl _ _,Bk.new _ _ _,(TRow.of_kids HXL.out HXK.out).keep hba3.size (fun x _ hlt => hba3.block x hlt) (fun x hx hlt => ⟨hx,hlt⟩),htw3.1⟩)
 have HAN:=aa (fun (W : World) (ho : Off [w2.heap.size,w.heap.size] (w2.alloc (.cells #[.slice xA ks.length xc] 76)) W) => ((HA.out.below HB3.out).off ho (by have:=HAL.out; simp; omega)))
 clear hba hba3 htw3 hs2
 (go_at_call 41)
 refine (dz 2 0 2147483647 w2.heap.size _ ks _ _ HS0.out.row HS0.out.tr HF.out.nb).mono ?_
 rintro e w4 ⟨ho4,hcs⟩
 have hof4:=HS0.out.off.trans (ho4.mono (T:=[w2.heap.size,w.heap.size]) (by simp))
 rcases hcs with ⟨hn,rfl⟩ | ⟨n4,rest4,v4,hn,rfl,hb4,hr4⟩
 ·refine leaves_cons (f:=40) (args:=#[.pointer (some ⟨w.heap.size,0,none⟩),.pointer (some ⟨w.heap.size + 1,0,none⟩)]) (by simp) (by simp [go_sem]) ?_
  refine (bU w.heap.size MC.zero.cells 0 _ ⟨ho4.bk HS0.out.ms (by have:=HBG.out; simp; omega),hof4.bk HER.out (by have:=HBG.out; simp; omega)⟩ rfl).mono ?_
  rintro e u' w9 ⟨rfl,rfl,h9,off9⟩
  exact ⟨_,aQ rfl rfl h9 rfl,br HB3.out hof4 HBG.out off9,.inl ⟨by simp [eP,hn],rfl⟩⟩
 have HN4:=aa hn
 have HF4:=aa (numP_few HF0.out hn)
 have hs4:=HS0.out.rd HF.out ho4 hb4 hr4
 have q0 : w4.cell? ⟨w.heap.size,0,none⟩ = some (.int .i64 0):=hs4.cell 0
 have f0:=hs4.frozen 0
 have hp4:=hs4.put HF.out 0 (.int .i64 n4)
 rw [MC.put_id] at hp4
 have HP4:=aa (show St _ _ _ _ _ _ _ _ (MC.base n4 0).cells from hp4)
 obtain ⟨A7,cap7,hv7,hlc7,hcm7,hel7⟩:=_root_.id hr4
 subst hv7
 have c7 : w4.cell? ⟨w2.heap.size,0,none⟩ = some (.slice A7 rest4.length cap7):=hb4.cell 0
 have fr7 : w4.frozen? ⟨w2.heap.size,0,none⟩ = false:=hb4.frozen 0
 have hbg : ¬ (w2.heap.size = w.heap.size):=HF.out.ne
 have hgb : ¬ (w.heap.size = w2.heap.size):=fun e => HF.out.ne e.symm
 clear ho4 hof4 hb4 hr4 hn hs4 hp4
 cases rest4 with
 | nil =>
  clear hel7
  go_wp2_with fail
  refine leaves_cons (f:=40) (args:=#[.pointer (some ⟨w.heap.size,0,none⟩),.pointer (some ⟨w.heap.size + 1,0,none⟩)]) (by simp) (by simp [go_sem]) ?_
  refine (bU w.heap.size (MC.base n4 0).cells 0 _ ⟨HP4.out.ms,HP4.out.off.bk HER.out (by have:=HBG.out; simp; omega)⟩ rfl).mono ?_
  rintro e u' w9 ⟨rfl,rfl,h9,off9⟩
  exact ⟨_,aQ rfl rfl h9 rfl,br HB3.out HP4.out.off HBG.out off9,.inl ⟨by simp [eP,HN4.out],rfl⟩⟩
 | cons k rest7 =>
  obtain ⟨b0,o,k0,k1,k2,k3,k4,hA,hS,q0',q1,q2,q3,q4,ht⟩:=hel7 0 (by simp)
  subst hA
  obtain ⟨x0,x1,x2,x3,yA,yn,yc,he⟩:=ak ht
  simp only [Array.mk.injEq,List.cons.injEq,and_true] at he
  obtain ⟨rfl,rfl,rfl,rfl,rfl⟩:=he
  simp only [Nat.zero_mul,Nat.add_zero] at q0' q1 q2 q3 q4
  simp only [List.getElem_cons_zero] at ht
  have hb0g : ¬ (b0 = w.heap.size):=(HF.out.apart _ hS.1).2.1
  have hgb0 : ¬ (w.heap.size = b0):=fun e => hb0g e.symm
  have hb0b : ¬ (b0 = w2.heap.size):=(HF.out.apart _ hS.1).1
  have hbb0 : ¬ (w2.heap.size = b0):=fun e => hb0b e.symm
  have HT:=aa (TlAt.keep (T:=fun x => w.heap.size + 2 <= x /\ x < w1.heap.size) (w':=w4.setCell ⟨w.heap.size,0,none⟩ (.int .i64 n4)) (by simp [World.setCell]) (fun x hx _ => Below.heap_setCell w4 ⟨w.heap.size,0,none⟩ (.int .i64 n4) x (HF.out.apart x hx).2.1) (fun _ h _ => h) _ _ ht)
  have hcc : cap7 <= 9223372036854775807:=by unfold maxLen at hcm7; omega
  have hlc : rest7.length + 1 <= cap7:=by simpa using hlc7
  obtain ⟨mm,hm⟩ : ∃ m,m = rest7.length:=⟨_,rfl⟩
  have c7' : w4.cell? ⟨w2.heap.size,0,none⟩ = some (.slice (some ⟨b0,o,none⟩) (mm + 1) cap7):=by rw [hm]; exact c7
  rw [<- hm] at hlc
  have HM:=aa hm
  have z1 : (((mm : Nat) : Int) + 1 == 0) = false:=by simp; omega
  have z2 : ((((mm + 1 : Nat)) : Int) == 0) = false:=by simp; omega
  have z3 : 0 < mm + 1:=by omega
  have z4 : (0 : Int) < (mm : Int) + 1:=by omega
  clear hel7 ht hS hcm7 hlc7 c7 hm
  go_wp2_with fail
  (go_at_call 42)
  refine (oper_any n4 k _ _ w.heap.size _ HP4.out.ms HT.out HF4.out.head (fun x hx => (HF.out.apart x hx).2.1) (HAN.out _ HP4.out.off) (by have:=HAL.out; omega)).mono ?_
  rintro e w5 ⟨ho5,hcs⟩
  have hof5:=HP4.out.off.trans (ho5.mono (T:=[w2.heap.size,w.heap.size]) (by simp))
  rcases hcs with ⟨hn,rfl,hold⟩ | ⟨M,m,hn,rfl,hbm,hms⟩
  ·obtain ⟨old,hbo,hszo⟩:=hold
   refine leaves_cons (f:=40) (args:=#[.pointer (some ⟨w.heap.size,0,none⟩),.pointer (some ⟨w.heap.size + 1,0,none⟩)]) (by simp) (by simp [go_sem]) ?_
   refine (bU w.heap.size old 0 _ ⟨hbo,hof5.bk HER.out (by have:=HBG.out; simp; omega)⟩ hszo).mono ?_
   rintro e u' w9 ⟨rfl,rfl,h9,off9⟩
   exact ⟨_,aQ rfl rfl h9 rfl,br HB3.out hof5 HBG.out off9,.inl ⟨by simp [eP,HN4.out,hn],rfl⟩⟩
  have HN5:=aa hn
  have hmk : MsAt w5 (fun x => w.heap.size + 2 <= x /\ x ≠ w2.heap.size) M m:=by
   refine hms.keep (Nat.le_refl _) (fun _ _ _ => rfl) (fun x hx _ => ?_)
   have h2 : w2.heap.size + 1 <= w4.heap.size:=by simpa [World.setCell] using HP4.out.off.size
   have h3 : w4.heap.size <= x:=by simpa [World.setCell] using hx
   have h4:=HBG.out
   exact ⟨by omega,by omega⟩
  have HMS5:=aa hmk
  clear hmk
  have hs5 : St (w2.alloc (.cells #[.slice xA ks.length xc] 76)) (fun x => w.heap.size + 2 <= x /\ x < w1.heap.size) w2.heap.size w.heap.size 30 w5 (.slice (some ⟨b0,o,none⟩) (mm + 1) cap7) (k :: rest7) m.cells:=by
   rw [HM.out]
   exact ⟨hof5,ho5.bk HP4.out.row (by simpa using hbg),HP4.out.tr.keep ho5.size (fun x hx hlt => ho5.block x hlt (by have:=(HF.out.apart x hx).2.1; simpa using this)) (fun _ h _ => h),hbm⟩
  have c8 : w5.cell? ⟨w2.heap.size,0,none⟩ = some (.slice (some ⟨b0,o,none⟩) (mm + 1) cap7):=hs5.row.cell 0
  have fr8 : w5.frozen? ⟨w2.heap.size,0,none⟩ = false:=hs5.row.frozen 0
  have htl : TRow w5 (fun x => w.heap.size + 2 <= x /\ x < w1.heap.size) _ rest7:=(show TRow w5 _ (.slice (some ⟨b0,o,none⟩) (rest7.length + 1) cap7) (k :: rest7) from by rw [<- HM.out]; exact hs5.tr).tail
  rw [<- HM.out] at htl
  have HS5:=aa hs5
  have HTL:=aa htl
  clear ho5 hof5 hn hbm hms hs5 htl c7' q0 f0 fr7 q0' q1 q2 q3 q4 HP4 HT
  go_upto_region 10 with fail
  go_cut [57] from 53 to 60 (fun _ wx => ∃ v8 : Value,St (w2.alloc (.cells #[.slice xA ks.length xc] 76)) (fun x => w.heap.size + 2 <= x /\ x < w1.heap.size) w2.heap.size w.heap.size 30 wx v8 rest7 m.cells /\ Off [w2.heap.size] w5 wx)
  case first =>
   by_cases hc1 : cap7 = 1
   ·subst hc1
    obtain rfl : mm = 0:=by omega
    simp only [Nat.zero_add] at c8 z1 z2 z3 z4
    have HAD:=aa (HS5.out.adv HF.out (by have:=HTL.out; rw [if_pos rfl] at this; exact this))
    have HOO:=aa ((Off.refl [w2.heap.size] w5).setCell (p:=⟨w2.heap.size,0,none⟩) (.inl (by simp)) (.slice (some ⟨b0,o,none⟩) 0 0))
    clear z1 z2 z3 z4
    go_wp2_with fail
    go_meet
    exact ⟨_,HAD.out,HOO.out⟩
   ·have z5 : ¬ (cap7 = 1):=hc1
    have HAD:=aa (HS5.out.adv HF.out (by have:=HTL.out; rw [if_neg hc1] at this; exact this))
    have HOO:=aa ((Off.refl [w2.heap.size] w5).setCell (p:=⟨w2.heap.size,0,none⟩) (.inl (by simp)) (.slice (some ⟨b0,o + 5,none⟩) mm (cap7 - 1)))
    clear hc1
    go_wp2_with fail
    go_meet
    exact ⟨_,HAD.out,HOO.out⟩
  case rest =>
   obtain ⟨v8,hs8,ho8⟩:=hcut
   have HS8:=aa hs8
   have HM8:=aa (show MsAt wc (fun x => w.heap.size + 2 <= x /\ x ≠ w2.heap.size) M m from HMS5.out.keep ho8.size (fun x hx hlt => ho8.block x hlt (by simpa using hx.2)) (fun _ h _ => h))
   clear hs8 ho8 HS5 HTL HMS5 c8 fr8
   go_wp2_with fail
   (go_at_call 43)
   refine (ed w2.heap.size _ rest7 _ 2 0 true _ HS8.out.row HS8.out.tr HF.out.nb).mono ?_
   rintro e w6 ⟨ho6,hcs⟩
   rcases hcs with ⟨hn,rfl,hb6,hr6⟩ | ⟨s6,l6,rest6,A6,cap6,v6,hn,hz6,rfl,hb6,hr6,hk6⟩
   ·have HN6:=aa hn
    have hs6:=(HS8.out.rd HF.out ho6 hb6 hr6).new (.cells #[.int .i64 0,.bool false,.int .i64 0,.string ⟨#[]⟩,.slice none 0 0] 42)
    have HS6:=aa hs6
    have HM6:=aa (show MsAt (w6.alloc (.cells #[.int .i64 0,.bool false,.int .i64 0,.string ⟨#[]⟩,.slice none 0 0] 42)) (fun x => w.heap.size + 2 <= x /\ x ≠ w2.heap.size) M m from (HM8.out.keep ho6.size (fun x hx hlt => ho6.block x hlt (by simpa using hx.2)) (fun _ h _ => h)).keep (T:=fun x => w.heap.size + 2 <= x /\ x ≠ w2.heap.size) (by simp) (fun x _ hlt => Below.heap_alloc w6 _ x hlt) (fun _ h _ => h))
    clear hn ho6 hb6 hr6 hs6 HS8 HM8
    obtain ⟨A8,cap8,hv8,-⟩:=_root_.id HS6.out.tr
    subst hv8
    have HE:=aa (bw w2.heap.size rest7.length A8 cap8 _ HS6.out.row)
    go_wp2_with fail
    (go_at_call 45)
    refine HE.out.mono ?_
    rintro e w9 ⟨ho9,hcs⟩
    have hs9:=HS6.out.quiet HF.out ho9 (by simp)
    rcases hcs.symm with ⟨hn,rfl⟩ | ⟨hn,rfl⟩
    ·have hl : rest7 ≠ []:=by intro h; rw [h] at hn; simp at hn
     refine leaves_cons (f:=40) (args:=#[.pointer (some ⟨w.heap.size,0,none⟩),.pointer (some ⟨w.heap.size + 1,0,none⟩)]) (by simp) (by simp [go_sem]) ?_
     refine (bU w.heap.size (m : MC).cells 0 _ ⟨hs9.ms,hs9.off.bk HER.out (by have:=HBG.out; simp; omega)⟩ rfl).mono ?_
     rintro e u' w9 ⟨rfl,rfl,h9,off9⟩
     exact ⟨_,aQ rfl rfl h9 rfl,br HB3.out hs9.off HBG.out off9,.inl ⟨by rw [dO HN4.out HN5.out,tailP_no HN6.out]; exact if_neg (fun h => hl h.1),rfl⟩⟩
    have hl : rest7 = []:=by simpa using hn
    have HL:=aa hl
    have HM9:=aa (HM6.out.keep ho9.size (fun x _ hlt => ho9.block x hlt (by simp)) (fun _ h _ => h))
    obtain ⟨zs,hzs⟩ : ∃ zs,zs = (m : MC).cells:=⟨_,rfl⟩
    rw [<- hzs] at hs9
    have HZS:=aa hzs
    have HZSZ : Hid (zs.size = 31):=by rw [hzs]; rfl
    have HZ1 : Hid (zs.all (·.oneCell') = true):=by rw [hzs]; exact cF _
    have HS9:=aa hs9
    have HG9:=aa hs9.ms
    have HRT:=aa (show Calls Tryz.prog 9 #[.agg zs] w9 (aq (M : Ms).right w9) by rw [hzs]; exact ca _ _ _ w9 HM9.out (HAN.out _ hs9.off))
    clear ho9 hs9 hzs hn hl HE HS6 HM6
    go_wp2_with (first
     | (refine wpList_load_row rfl 30 (.tmp 2) rfl w.heap.size rfl 30 zs (0,0) _ HG9.out Tryz.underlying30 rfl (by rw [HZSZ.out]; exact HS.out) ?_)
     | fail)
    (go_at_call 9)
    refine HRT.out.mono ?_
    cases hq : (M : Ms).right with
    | false =>
     rintro e w10 ⟨rfl,hb10⟩
     have HQ:=aa hq
     have HG10:=aa (af HG9.out hb10)
     have HO10:=aa (HS9.out.off.trans ((Off.of_below hb10 []).mono (T:=[w2.heap.size,w.heap.size]) (by simp)))
     clear hq hb10 HRT
     go_wp2_with fail
     obtain ⟨old,hbo,hszo⟩:=(show OldM w10 w.heap.size from ⟨zs,HG10.out,HZSZ.out⟩)
     refine leaves_cons (f:=40) (args:=#[.pointer (some ⟨w.heap.size,0,none⟩),.pointer (some ⟨w.heap.size + 1,0,none⟩)]) (by simp) (by simp [go_sem]) ?_
     refine (bU w.heap.size old 0 _ ⟨hbo,HO10.out.bk HER.out (by have:=HBG.out; simp; omega)⟩ hszo).mono ?_
     rintro e u' w9 ⟨rfl,rfl,h9,off9⟩
     exact ⟨_,aQ rfl rfl h9 rfl,br HB3.out HO10.out HBG.out off9,.inl ⟨by rw [dO HN4.out HN5.out,tailP_no HN6.out]; exact if_neg (fun h => by rw [HQ.out] at h; cases h.2),rfl⟩⟩
    | true =>
     rintro e w10 ⟨rfl,hb10⟩
     have HQ:=aa hq
     have HG10:=aa (af HG9.out hb10)
     have HO10:=aa (HS9.out.off.trans ((Off.of_below hb10 []).mono (T:=[w2.heap.size,w.heap.size]) (by simp)))
     have HM10:=aa (HM9.out.keep hb10.size (fun x _ hlt => hb10.block x hlt) (fun _ h _ => h))
     clear hq hb10 HRT
     go_wp2_with (first
      | (refine wpList_load_row rfl 30 (.tmp 2) rfl w.heap.size rfl 30 zs (0,0) _ HG10.out Tryz.underlying30 rfl (by rw [HZSZ.out]; exact HS.out) ?_)
      | (refine ap rfl 30 (.tmp 2) (.tmp 77) rfl w.heap.size rfl zs rfl 30 _ HG10.out rfl (by rw [HZSZ.out]; exact HS.out) HZ1.out ?_; intro w11 hb11 ho11; have HB11:=aa hb11; have HO11:=aa ho11; have hbe:=ho11.bk (HO10.out.bk HER.out (by have:=HBG.out; simp; omega)) (by simp); have y11 : w11.cell? ⟨w.heap.size + 1,0,none⟩ = some (.int .i64 0):=hbe.cell 0; have f11:=hbe.frozen 0; have HE11:=aa hbe; clear hb11 ho11 hbe)
      | fail)
     refine leaves_cons (f:=40) (args:=#[.pointer (some ⟨w.heap.size,0,none⟩),.pointer (some ⟨w.heap.size + 1,0,none⟩)]) (by simp) (by simp [go_sem]) ?_
     refine (mdec_idle _ _ _).mono ?_
     rintro e u' w12 ⟨rfl,rfl,rfl⟩
     refine ⟨_,aQ rfl rfl ⟨HB11.out.far (p:=⟨w.heap.size + 1,0,none⟩) (by simp) (.int .i64 0),by have:=HE11.out.put 0 (.int .i64 0); simpa using this⟩ HZSZ.out,?_,.inr ⟨_,m,by rw [dO HN4.out HN5.out,tailP_no HN6.out]; exact if_pos ⟨HL.out,HQ.out⟩,by rw [HZS.out],?_⟩⟩
     ·exact br HB3.out HO10.out HBG.out ((HO11.out.mono (by simp)).setCell (.inl (by simp)) _)
     ·have hof:=(HO11.out.mono (T:=[w.heap.size,w.heap.size + 1]) (by simp)).setCell (p:=⟨w.heap.size + 1,0,none⟩) (.inl (by simp)) (.int .i64 0)
      exact HM10.out.keep hof.size (fun x hx hlt => hof.block x hlt (by have:=hx.1; simp; omega)) (fun x hx _ => by have:=hx.1; omega)
   ·have HN6:=aa hn
    have hs6:=(HS8.out.rd HF.out ho6 hb6 hr6).new (.cells #[.int .i64 2,.bool true,.int .i64 0,.string s6,.slice A6 l6.length cap6] 42)
    have HS6:=aa hs6
    have hm6 : MsAt (w6.alloc (.cells #[.int .i64 2,.bool true,.int .i64 0,.string s6,.slice A6 l6.length cap6] 42)) (fun x => w.heap.size + 2 <= x /\ x ≠ w2.heap.size) M m:=(HM8.out.keep ho6.size (fun x hx hlt => ho6.block x hlt (by simpa using hx.2)) (fun _ h _ => h)).keep (T:=fun x => w.heap.size + 2 <= x /\ x ≠ w2.heap.size) (by simp) (fun x _ hlt => Below.heap_alloc w6 _ x hlt) (fun _ h _ => h)
    have HM6:=aa hm6
    obtain ⟨-,hkl,hkk⟩:=(hk6.below ((Below.refl _ w6).alloc (Nat.le_refl _) (.cells #[.int .i64 2,.bool true,.int .i64 0,.string s6,.slice A6 l6.length cap6] 42))).kids
    have hw6 : w2.heap.size + 1 <= w6.heap.size:=by have:=hs6.off.size; have h2:=(HS8.out.off.trans (ho6.mono (T:=[w2.heap.size,w.heap.size]) (by simp))).size; simpa using h2
    have HCT:=aa (controls_any 2 0 true l6 _ A6 s6 cap6 _ (few_kids HF4.out.tail hn) hkl hkk)
    clear hn ho6 hb6 hr6 hs6 hm6 hk6 hkl hkk HS8 HM8
    go_wp2_with fail
    (go_at_call 44)
    refine HCT.out.mono ?_
    rintro e w7 ⟨hb7,hcs⟩
    have hs7:=HS6.out.quiet HF.out (Off.of_below hb7 []) (by simp)
    rcases hcs with ⟨hn,rfl⟩ | ⟨az,q,hn,rfl,hq7⟩
    ·refine leaves_cons (f:=40) (args:=#[.pointer (some ⟨w.heap.size,0,none⟩),.pointer (some ⟨w.heap.size + 1,0,none⟩)]) (by simp) (by simp [go_sem]) ?_
     refine (bU w.heap.size m.cells 0 _ ⟨hs7.ms,hs7.off.bk HER.out (by have:=HBG.out; simp; omega)⟩ rfl).mono ?_
     rintro e u' w9 ⟨rfl,rfl,h9,off9⟩
     exact ⟨_,aQ rfl rfl h9 rfl,br HB3.out hs7.off HBG.out off9,.inl ⟨by simp [eP,HN4.out,HN5.out,fd,HN6.out,Tl.kids,hn],rfl⟩⟩
    have HN7:=aa hn
    have q30 : w7.cell? ⟨w.heap.size,30,none⟩ = some (.slice m.controls.A m.controls.n m.controls.c):=hs7.cell 30
    have f30:=hs7.frozen 30
    have hp7:=hs7.put HF.out 30 (.slice q.A q.n q.c)
    rw [MC.put_controls] at hp7
    have HP7:=aa hp7
    have hm7:=(HM6.out.keep hb7.size (fun x _ hlt => hb7.block x hlt) (fun _ h _ => h)).ctls (hq7.keep bV (T:=fun x => w.heap.size + 2 <= x /\ x ≠ w2.heap.size) (Nat.le_refl _) (fun _ _ _ => rfl) (fun x hx _ => by have h : (w6.alloc (.cells #[.int .i64 2,.bool true,.int .i64 0,.string s6,.slice A6 l6.length cap6] 42)).heap.size <= x:=hx; have h4:=HBG.out; simp at h; exact ⟨by omega,by omega⟩))
    have HM7:=aa (hm7.keep (T:=fun x => w.heap.size + 2 <= x /\ x ≠ w2.heap.size) (w':=w7.setCell ⟨w.heap.size,30,none⟩ (.slice q.A q.n q.c)) (by simp [World.setCell]) (fun x hx _ => Below.heap_setCell w7 ⟨w.heap.size,30,none⟩ _ x (by have:=hx.1; simp; omega)) (fun _ h _ => h))
    clear hn hs7 hp7 hm7 hb7 hq7 HS6 HM6 HCT
    obtain ⟨A8,cap8,hv8,-⟩:=_root_.id HP7.out.tr
    subst hv8
    have HE:=aa (bw w2.heap.size rest6.length A8 cap8 _ HP7.out.row)
    go_wp2_with fail
    (go_at_call 45)
    refine HE.out.mono ?_
    rintro e w9 ⟨ho9,hcs⟩
    have hs9:=HP7.out.quiet HF.out ho9 (by simp)
    rcases hcs.symm with ⟨hn,rfl⟩ | ⟨hn,rfl⟩
    ·have hl : rest6 ≠ []:=by intro h; rw [h] at hn; simp at hn
     refine leaves_cons (f:=40) (args:=#[.pointer (some ⟨w.heap.size,0,none⟩),.pointer (some ⟨w.heap.size + 1,0,none⟩)]) (by simp) (by simp [go_sem]) ?_
     refine (bU w.heap.size ({ m with controls:=q } : MC).cells 0 _ ⟨hs9.ms,hs9.off.bk HER.out (by have:=HBG.out; simp; omega)⟩ rfl).mono ?_
     rintro e u' w9 ⟨rfl,rfl,h9,off9⟩
     exact ⟨_,aQ rfl rfl h9 rfl,br HB3.out hs9.off HBG.out off9,.inl ⟨by rw [dO HN4.out HN5.out,fO HN6.out HN7.out]; exact if_neg (fun h => hl h.1),rfl⟩⟩
    have hl : rest6 = []:=by simpa using hn
    have HL:=aa hl
    have HM9:=aa (HM7.out.keep ho9.size (fun x _ hlt => ho9.block x hlt (by simp)) (fun _ h _ => h))
    obtain ⟨zs,hzs⟩ : ∃ zs,zs = ({ m with controls:=q } : MC).cells:=⟨_,rfl⟩
    rw [<- hzs] at hs9
    have HZS:=aa hzs
    have HZSZ : Hid (zs.size = 31):=by rw [hzs]; rfl
    have HZ1 : Hid (zs.all (·.oneCell') = true):=by rw [hzs]; exact cF _
    have HS9:=aa hs9
    have HG9:=aa hs9.ms
    have HRT:=aa (show Calls Tryz.prog 9 #[.agg zs] w9 (aq ({ M with controls:=az } : Ms).right w9) by rw [hzs]; exact ca _ _ _ w9 HM9.out (HAN.out _ hs9.off))
    clear ho9 hs9 hzs hn hl HE HP7 HM7
    go_wp2_with (first
     | (refine wpList_load_row rfl 30 (.tmp 2) rfl w.heap.size rfl 30 zs (0,0) _ HG9.out Tryz.underlying30 rfl (by rw [HZSZ.out]; exact HS.out) ?_)
     | fail)
    (go_at_call 9)
    refine HRT.out.mono ?_
    cases hq : ({ M with controls:=az } : Ms).right with
    | false =>
     rintro e w10 ⟨rfl,hb10⟩
     have HQ:=aa hq
     have HG10:=aa (af HG9.out hb10)
     have HO10:=aa (HS9.out.off.trans ((Off.of_below hb10 []).mono (T:=[w2.heap.size,w.heap.size]) (by simp)))
     clear hq hb10 HRT
     go_wp2_with fail
     obtain ⟨old,hbo,hszo⟩:=(show OldM w10 w.heap.size from ⟨zs,HG10.out,HZSZ.out⟩)
     refine leaves_cons (f:=40) (args:=#[.pointer (some ⟨w.heap.size,0,none⟩),.pointer (some ⟨w.heap.size + 1,0,none⟩)]) (by simp) (by simp [go_sem]) ?_
     refine (bU w.heap.size old 0 _ ⟨hbo,HO10.out.bk HER.out (by have:=HBG.out; simp; omega)⟩ hszo).mono ?_
     rintro e u' w9 ⟨rfl,rfl,h9,off9⟩
     exact ⟨_,aQ rfl rfl h9 rfl,br HB3.out HO10.out HBG.out off9,.inl ⟨by rw [dO HN4.out HN5.out,fO HN6.out HN7.out]; exact if_neg (fun h => by rw [HQ.out] at h; cases h.2),rfl⟩⟩
    | true =>
     rintro e w10 ⟨rfl,hb10⟩
     have HQ:=aa hq
     have HG10:=aa (af HG9.out hb10)
     have HO10:=aa (HS9.out.off.trans ((Off.of_below hb10 []).mono (T:=[w2.heap.size,w.heap.size]) (by simp)))
     have HM10:=aa (HM9.out.keep hb10.size (fun x _ hlt => hb10.block x hlt) (fun _ h _ => h))
     clear hq hb10 HRT
     go_wp2_with (first
      | (refine wpList_load_row rfl 30 (.tmp 2) rfl w.heap.size rfl 30 zs (0,0) _ HG10.out Tryz.underlying30 rfl (by rw [HZSZ.out]; exact HS.out) ?_)
      | (refine ap rfl 30 (.tmp 2) (.tmp 77) rfl w.heap.size rfl zs rfl 30 _ HG10.out rfl (by rw [HZSZ.out]; exact HS.out) HZ1.out ?_; intro w11 hb11 ho11; have HB11:=aa hb11; have HO11:=aa ho11; have hbe:=ho11.bk (HO10.out.bk HER.out (by have:=HBG.out; simp; omega)) (by simp); have y11 : w11.cell? ⟨w.heap.size + 1,0,none⟩ = some (.int .i64 0):=hbe.cell 0; have f11:=hbe.frozen 0; have HE11:=aa hbe; clear hb11 ho11 hbe)
      | fail)
     refine leaves_cons (f:=40) (args:=#[.pointer (some ⟨w.heap.size,0,none⟩),.pointer (some ⟨w.heap.size + 1,0,none⟩)]) (by simp) (by simp [go_sem]) ?_
     refine (mdec_idle _ _ _).mono ?_
     rintro e u' w12 ⟨rfl,rfl,rfl⟩
     refine ⟨_,aQ rfl rfl ⟨HB11.out.far (p:=⟨w.heap.size + 1,0,none⟩) (by simp) (.int .i64 0),by have:=HE11.out.put 0 (.int .i64 0); simpa using this⟩ HZSZ.out,?_,.inr ⟨_,{ m with controls:=q },by rw [dO HN4.out HN5.out,fO HN6.out HN7.out]; exact if_pos ⟨HL.out,HQ.out⟩,by rw [HZS.out],?_⟩⟩
     ·exact br HB3.out HO10.out HBG.out ((HO11.out.mono (by simp)).setCell (.inl (by simp)) _)
     ·have hof:=(HO11.out.mono (T:=[w.heap.size,w.heap.size + 1]) (by simp)).setCell (p:=⟨w.heap.size + 1,0,none⟩) (.inl (by simp)) (.int .i64 0)
      exact HM10.out.keep hof.size (fun x hx hlt => hof.block x hlt (by have:=hx.1; simp; omega)) (fun x hx _ => by have:=hx.1; omega)
theorem mdecode_any (s : ByteArray) (w : World) (hs : s.size <= 1000000) (ha : AnsAt w) : Calls Tryz.prog 11 #[.string s] w (DecM (decP s) w):=by
 have hd:=fun W => decode_any s W hs
 have hf:=dec_few s.data.toList
 unfold decP
 generalize PB.dec s.data.toList = p at hd hf |-
 obtain ⟨t,n,er⟩:=p
 simp only at hf |-
 by_cases h : er ≠ 0 \/ n ≠ s.size \/ t.isB 0 16 true = false
 ·rw [if_pos h]
  exact mdecode_early s t n er w hd h
 ·rw [if_neg h]
  have h1 : er = 0:=by by_cases h1 : er = 0; exact h1; exact absurd (.inl h1) h
  have h2 : n = s.size:=by by_cases h2 : n = s.size; exact h2; exact absurd (.inr (.inl h2)) h
  have h3 : t.isB 0 16 true = true:=by cases h3 : t.isB 0 16 true with | true => rfl | false => exact absurd (.inr (.inr h3)) h
  subst h1 h2
  obtain ⟨c,k,g,sb,ks⟩:=t
  have h4 : (c == 0 && (g == 16 && k == true)) = true:=h3
  simp at h4
  obtain ⟨rfl,rfl,rfl⟩:=h4
  exact mdecode_body s sb ks w hd (Tl.few_kids hf) ha
end Go.Proofs.YtbiglfpikfjbpaaGreatDoor
