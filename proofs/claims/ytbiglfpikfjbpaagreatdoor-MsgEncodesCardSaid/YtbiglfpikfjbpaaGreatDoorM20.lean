import Derived.Test.YtbiglfpikfjbpaaGreatDoorM19
import Derived.Test.YtbiglfpikfjbpaaGreatDoorM10
import Derived.Test.YtbiglfpikfjbpaaGreatDoorM17
namespace Go.Proofs.YtbiglfpikfjbpaaGreatDoor
open Go.RowKit
set_option maxRecDepth 100000
set_option linter.unusedVariables false
set_option linter.unusedSimpArgs false
set_option maxHeartbeats 40000000
def LeQ (P : Prop) (w : World) (e : Ending) (w' : World) : Prop:=Below w.heap.size w w' /\ ∃ q : Bool,e = .returned (.bool q) /\ (q = true -> P)
theorem LeQ.of {P : Prop} {q : Bool} {w : World} {e : Ending} {w' : World} (h : aq q w e w') (hp : q = true -> P) : LeQ P w e w':=by
 obtain ⟨rfl,hb⟩:=h
 exact ⟨hb,q,rfl,hp⟩
theorem cN {a b : ByteArray} (h : a.toList = b.toList) : a = b:=by
 rw [ByteArray.toList_eq,ByteArray.toList_eq] at h
 obtain ⟨⟨x⟩⟩:=a
 obtain ⟨⟨y⟩⟩:=b
 exact congrArg (fun l => (⟨⟨l⟩⟩ : ByteArray)) h
theorem same01_no (A : Option Addr) (n c : Nat) (B : Option Addr) (d : Nat) (w : World) (hn : n ≠ 0) : Calls Tryz.prog 47 #[.slice A n c,.slice B 0 d] w (aq false w):=by
 have z1 : ((n : Int) != 0) = true:=by simp; omega
 have z2 : (n != 0) = true:=by rw [bne_iff_ne]; omega
 have z3 : ((n : Int) == 0) = false:=by rw [beq_eq_false_iff_ne]; omega
 have z4 : (n == 0) = false:=by rw [beq_eq_false_iff_ne]; omega
 clear hn
 go_enter Tryz.func47,Tryz.ntmps47
 go_wp2_with fail
 go_ret
 exact ah rfl (Below.refl _ w)
theorem same01_le (q q' : Rw) (ss tt : List ByteArray) (S S' : Nat -> Prop) (w : World) (h : SRow w S q ss) (h' : SRow w S' q' tt) (ht : tt = ss \/ tt = []) :
  Calls Tryz.prog 47 #[.slice q.A q.n q.c,.slice q'.A q'.n q'.c] w (LeQ (ss.length = tt.length) w):=by
 rcases ht with rfl | rfl
 ·exact (db q q' _ S S' w h h').mono fun e w' h => LeQ.of h fun _ => rfl
 by_cases h0 : ss = []
 ·subst h0
  exact (db q q' _ S S' w h h').mono fun e w' h => LeQ.of h fun _ => rfl
 have e1 : q'.n = 0:=h'.1
 have e2 : q.n ≠ 0:=by rw [h.1]; intro h; exact h0 (List.eq_nil_of_length_eq_zero h)
 rw [e1]
 exact (same01_no q.A q.n q.c q'.A q'.c w e2).mono fun e w' h => LeQ.of h fun h => by cases h
theorem fsame_no (k : Int) (a v g : ByteArray) (qA : Option Addr) (na qc : Nat) (l : ByteArray) (rA : Option Addr) (nk rc : Nat) (yA : Option Addr) (yc : Nat) (zA : Option Addr) (zc : Nat) (w : World) (hne : ¬ (k = 0 /\ aj a = false /\ aj v = false /\ aj g = false /\ aj l = false /\ na = 0 /\ nk = 0)) :
  Calls Tryz.prog 46 #[.agg #[.int .i64 k,.string a,.string v,.string g,.slice qA na qc,.string l,.slice rA nk rc],.agg #[.int .i64 0,.string ⟨#[]⟩,.string ⟨#[]⟩,.string ⟨#[]⟩,.slice yA 0 yc,.string ⟨#[]⟩,.slice zA 0 zc]] w (aq false w):=by
 have HB:=aa (((Below.refl w.heap.size w).alloc (Nat.le_refl _) (.cells #[.int .i64 k,.string a,.string v,.string g,.slice qA na qc,.string l,.slice rA nk rc] 25)).alloc (by simp) (.cells #[.int .i64 0,.string ⟨#[]⟩,.string ⟨#[]⟩,.string ⟨#[]⟩,.slice yA 0 yc,.string ⟨#[]⟩,.slice zA 0 zc] 25))
 by_cases h0 : k = 0
 rotate_left
 ·have z0 : (k != 0) = true:=by rw [bne_iff_ne]; exact h0
  clear h0
  clear hne
  go_enter Tryz.func46,Tryz.ntmps46
  go_wp2_with fail
  go_ret
  exact ah rfl HB.out
 have z0 : (k != 0) = false:=by rw [h0]; rfl
 have H0:=aa h0
 clear h0
 cases ha : aj a
 rotate_left
 ·have ya:=aU ha
  clear ha
  clear hne
  go_enter Tryz.func46,Tryz.ntmps46
  go_wp2_with fail
  go_ret
  exact ah rfl HB.out
 have ya:=(aE ha).1
 have xa:=(aE ha).2
 cases hv : aj v
 rotate_left
 ·have yv:=aU hv
  clear hv
  clear hne
  go_enter Tryz.func46,Tryz.ntmps46
  go_wp2_with fail
  go_ret
  exact ah rfl HB.out
 have yv:=(aE hv).1
 have xv:=(aE hv).2
 cases hg : aj g
 rotate_left
 ·have yg:=aU hg
  clear hg
  clear hne
  go_enter Tryz.func46,Tryz.ntmps46
  go_wp2_with fail
  go_ret
  exact ah rfl HB.out
 have yg:=(aE hg).1
 have xg:=(aE hg).2
 cases hl : aj l
 rotate_left
 ·have yl:=aU hl
  clear hl
  clear hne
  go_enter Tryz.func46,Tryz.ntmps46
  go_wp2_with fail
  go_ret
  exact ah rfl HB.out
 have yl:=(aE hl).1
 have xl:=(aE hl).2
 by_cases hany : na = 0
 rotate_left
 ·have zany : ((na : Int) != 0) = true:=by rw [bne_iff_ne]; omega
  have wany : (na != 0) = true:=by rw [bne_iff_ne]; omega
  have vany : (na == 0) = false:=by rw [beq_eq_false_iff_ne]; omega
  clear hany
  clear hne
  go_enter Tryz.func46,Tryz.ntmps46
  go_wp2_with fail
  go_ret
  exact ah rfl HB.out
 have zany : ((na : Int) != 0) = false:=by rw [bne_eq_false_iff_eq]; omega
 have wany : (na != 0) = false:=by rw [bne_eq_false_iff_eq]; omega
 have vany : (na == 0) = true:=by rw [beq_iff_eq]; omega
 have Hany:=aa hany
 clear hany
 by_cases hkids : nk = 0
 rotate_left
 ·have zkids : ((nk : Int) != 0) = true:=by rw [bne_iff_ne]; omega
  have wkids : (nk != 0) = true:=by rw [bne_iff_ne]; omega
  have vkids : (nk == 0) = false:=by rw [beq_eq_false_iff_ne]; omega
  clear hkids
  clear hne
  go_enter Tryz.func46,Tryz.ntmps46
  go_wp2_with fail
  go_ret
  exact ah rfl HB.out
 have zkids : ((nk : Int) != 0) = false:=by rw [bne_eq_false_iff_eq]; omega
 have wkids : (nk != 0) = false:=by rw [bne_eq_false_iff_eq]; omega
 have vkids : (nk == 0) = true:=by rw [beq_iff_eq]; omega
 have Hkids:=aa hkids
 clear hkids
 exact absurd ⟨H0.out,ha,hv,hg,hl,Hany.out,Hkids.out⟩ hne
theorem fsame_le (F G : Fl) (c c' : List Value) (S S' : Nat -> Prop) (w : World) (h : FlAt w S F c) (h' : FlAt w S' G c') (hG : G = F \/ G = Fl.zero) :
  Calls Tryz.prog 46 #[.agg c.toArray,.agg c'.toArray] w (LeQ (F.lens = G.lens) w):=by
 rcases hG with rfl | rfl
 ·exact (eI _ c c' S S' w h h').mono fun e w' h => LeQ.of h fun _ => rfl
 obtain ⟨k,a,v,g,any,l,kids⟩:=F
 by_cases hz : k = 0 /\ aj a = false /\ aj v = false /\ aj g = false /\ aj l = false /\ any.length = 0 /\ kids.length = 0
 ·obtain ⟨rfl,h1,h2,h3,h4,h5,h6⟩:=hz
  obtain rfl:=aJ h1
  obtain rfl:=aJ h2
  obtain rfl:=aJ h3
  obtain rfl:=aJ h4
  obtain rfl:=List.eq_nil_of_length_eq_zero h5
  obtain rfl:=List.eq_nil_of_length_eq_zero h6
  exact (eI _ c c' S S' w h h').mono fun e w' h => LeQ.of h fun _ => rfl
 ·obtain ⟨y0,y1,y2,y3,y5,yA,yn,yc,zA,zn,zc,rfl⟩:=aY h'
  obtain ⟨B1,B2,d1,d2,hfc⟩:=cV (f:=⟨y0,y1,y2,y3,⟨yA,yn,yc⟩,y5,⟨zA,zn,zc⟩⟩) h'
  simp only [FC.mk.injEq,Rw.mk.injEq] at hfc
  obtain ⟨rfl,rfl,rfl,rfl,⟨rfl,rfl,rfl⟩,rfl,rfl,rfl,rfl⟩:=hfc
  unfold FlAt at h
  obtain ⟨⟨qA,qn,qc⟩,⟨rA,rn,rc⟩,rfl,-,⟨hq1,-,-,-⟩,⟨hr1,-,-⟩,-⟩:=h
  simp only at hq1 hr1 |-
  subst hq1 hr1
  exact (fsame_no k a v g qA any.length qc l rA kids.length rc yA yc zA zc w hz).mono fun e w' h => LeQ.of h fun h => by cases h
end Go.Proofs.YtbiglfpikfjbpaaGreatDoor
