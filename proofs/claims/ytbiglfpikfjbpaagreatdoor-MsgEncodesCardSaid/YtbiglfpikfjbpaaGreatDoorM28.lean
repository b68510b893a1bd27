import Derived.Test.YtbiglfpikfjbpaaGreatDoorM10
namespace Go.Proofs.YtbiglfpikfjbpaaGreatDoor
open Go.RowKit
open Go.PlainAid
set_option maxRecDepth 100000
set_option linter.unusedVariables false
set_option linter.unusedSimpArgs false
set_option maxHeartbeats 40000000
theorem rpieces_any (k : Int) (a v g : ByteArray) (any : List ByteArray) (l : ByteArray) (kids : List Fl) (c : List Value) (S : Nat -> Prop) (w : World) (h : FlAt w S (.mk k a v g any l kids) c) :
  Calls Tryz.prog 102 #[.agg c.toArray] w (aq (any.any aj || (aj g || aj l)) w):=by
 unfold FlAt at h
 obtain ⟨⟨qA,qn,qc⟩,⟨rA,rn,rc⟩,rfl,-,⟨hq1,hq2,hq3,hq4⟩,-,-⟩:=h
 simp only at hq1 hq2 hq3 hq4 |-
 subst hq1
 obtain ⟨wa,hwa⟩ : ∃ W,W = w.alloc (.cells #[.int .i64 k,.string a,.string v,.string g,.slice qA any.length qc,.string l,.slice rA rn rc] 25):=⟨_,rfl⟩
 have hba : Below w.heap.size w wa:=by rw [hwa]; exact (Below.refl w.heap.size w).alloc (Nat.le_refl _) _
 have hka : Bk wa w.heap.size 25 #[.int .i64 k,.string a,.string v,.string g,.slice qA any.length qc,.string l,.slice rA rn rc]:=by rw [hwa]; exact Bk.new w _ _
 have HB:=aa hba
 have HW1:=aa hwa
 have hqm : qc <= 9223372036854775807:=by unfold maxLen at hq3; omega
 have HQ:=aa hq4
 have p3 : wa.cell? ⟨w.heap.size,3,none⟩ = some (.string g):=hka.cell 3
 have p4 : wa.cell? ⟨w.heap.size,4,none⟩ = some (.slice qA any.length qc):=hka.cell 4
 have p5 : wa.cell? ⟨w.heap.size,5,none⟩ = some (.string l):=hka.cell 5
 have l1:=hka.lt
 obtain ⟨r,hr⟩ : ∃ r,r = (any.any aj || (aj g || aj l)):=⟨_,rfl⟩
 rw [<- hr]
 have HR:=aa hr
 have HR0:=aa (show r = ((any.drop 0).any aj || (aj g || aj l)) from hr)
 clear hwa hba hka hq4 hq3 hr
 go_enter Tryz.func102,Tryz.ntmps102
 go_wp2_with fail
 rw [<- HW1.out]
 go_loopw [3] (fun i wr => ∃ (j : Nat),i = .int .i64 j /\ j <= any.length /\ Hid (r = ((any.drop j).any aj || (aj g || aj l))) /\ wr = wa) (fun i _ => any.length - (intOf i).toNat)
 case atStart => exact ⟨0,rfl,Nat.zero_le _,HR0.out,by first | rfl | trivial⟩
 case round =>
  obtain ⟨j,rfl,hj,HT,rfl⟩:=hrel
  by_cases hlt : j < any.length
  ·have z1 : decide ((j : Int) < (any.length : Int)) = true:=ab (by omega)
   obtain ⟨b,o,c,rfl,hS,hcl,hc,hat,hsz⟩:=HQ.out j any[j] (List.getElem?_eq_getElem hlt)
   subst hat
   have hd : any.drop j = any[j] :: any.drop (j + 1):=List.drop_eq_getElem_cons hlt
   have q0 : wr.cell? ⟨b,o + j,none⟩ = some (.string any[j]):=by have:=hc 0 _ rfl; rw [Nat.mul_one,Nat.add_zero] at this; exact (HB.out.cell (p:=⟨b,o + j,none⟩) hS.2).trans this
   have hb1 : b < wr.heap.size:=Nat.lt_of_lt_of_le hS.2 HB.out.size
   obtain ⟨t,ht⟩ : ∃ t,t = any[j]:=⟨_,rfl⟩
   rw [<- ht] at q0 hd
   have HD:=aa hd
   clear hc hcl hS ht hd hsz
   cases hf : aj t with
   | true =>
    have y1:=aU hf
    have HV:=aa (show r = true by rw [HT.out,HD.out]; simp [hf])
    clear hf
    go_wp2_with fail
    go_ret
    exact ah HV.out HB.out
   | false =>
    have y1:=(aE hf).1
    have y2:=(aE hf).2
    have HV:=aa (show r = ((any.drop (j + 1)).any aj || (aj g || aj l)) by rw [HT.out,HD.out]; simp [hf])
    clear hf
    go_wp2_with fail
    go_roundw
    case rel => first | exact ⟨j + 1,by go_num,by omega,HV.out,by first | rfl | trivial⟩ | ((repeat apply Exists.intro); refine ⟨?_,rfl⟩; exact ⟨j + 1,by go_num,by omega,HV.out,by first | rfl | trivial⟩)
    case measure => simp [intOf]; omega
  ·have z1 : decide ((j : Int) < (any.length : Int)) = false:=ae (by omega)
   have HV:=aa (show r = (aj g || aj l) by rw [HT.out,List.drop_of_length_le (by omega)]; rfl)
   cases hf : aj g with
   | true =>
    have y1:=aU hf
    have HV2:=aa (show r = true by rw [HV.out,hf]; rfl)
    clear hf
    go_wp2_with fail
    go_ret
    exact ah HV2.out HB.out
   | false =>
    have y1:=(aE hf).1
    have y2:=(aE hf).2
    have HV2:=aa (show r = aj l by rw [HV.out,hf]; rfl)
    clear hf
    cases hf : aj l with
    | true =>
     have y3:=aU hf
     have HV3:=aa (show r = true by rw [HV2.out,hf])
     clear hf
     go_wp2_with fail
     go_ret
     exact ah HV3.out HB.out
    | false =>
     have y3:=(aE hf).1
     have y4:=(aE hf).2
     have HV3:=aa (show r = false by rw [HV2.out,hf])
     clear hf
     go_wp2_with fail
     go_ret
     exact ah HV3.out HB.out
theorem dh : aj ⟨#[]⟩ = false:=by unfold aj; simp [ByteArray.toList_eq]
theorem pways (g l : ByteArray) (n : Nat) : P1 g \/ (P0 g /\ N1 n) \/ (P0 g /\ N0 n /\ P1 l) \/ (P0 g /\ N0 n /\ P0 l):=by
 rcases bin g with h | h <;> rcases bin l with h' | h' <;> rcases cnt n with h'' | h'' <;> simp [*]
theorem avways (a v : ByteArray) : P1 a \/ (P0 a /\ P1 v) \/ (P0 a /\ P0 v):=by
 rcases bin a with h | h <;> rcases bin v with h' | h' <;> simp [*]
theorem lways (a : ByteArray) (n : Nat) : P0 a \/ (P1 a /\ L0 a.size) \/ (P1 a /\ L1 a.size /\ N1 n) \/ (P1 a /\ L1 a.size /\ N0 n):=by
 rcases bin a with h | h <;> rcases lim64 a.size with h' | h' <;> rcases cnt n with h'' | h'' <;> simp [*]
theorem l7ways (a v : ByteArray) (n : Nat) : P0 a \/ (P1 a /\ L0 a.size) \/ (P1 a /\ L1 a.size /\ P1 v) \/ (P1 a /\ L1 a.size /\ P0 v /\ N1 n) \/ (P1 a /\ L1 a.size /\ P0 v /\ N0 n):=by
 rcases bin a with h | h <;> rcases lim64 a.size with h' | h' <;> rcases cnt n with h'' | h'' <;> rcases bin v with h3 | h3 <;> simp [*]
theorem rone_0 (k : Int) (hk : k = 0 \/ k = 1) (a v g : ByteArray) (any : List ByteArray) (l : ByteArray) (kids : List Fl) (c : List Value) (S : Nat -> Prop) (w : World) (h : FlAt w S (.mk k a v g any l kids) c) :
  Calls Tryz.prog 91 #[.agg c.toArray] w (aq (Fl.one (.mk k a v g any l kids)) w):=by
 unfold FlAt at h
 obtain ⟨⟨qA,qn,qc⟩,⟨rA,rn,rc⟩,rfl,-,⟨hq1,-,-,-⟩,⟨hr1,-,-⟩,-⟩:=h
 simp only at hq1 hr1 |-
 subst hq1 hr1
 obtain ⟨r,hr⟩ : ∃ r,r = Fl.one (.mk k a v g any l kids):=⟨_,rfl⟩
 rw [<- hr]
 have HR:=aa hr
 have HB:=aa ((Below.refl w.heap.size w).alloc (Nat.le_refl _) (.cells #[.int .i64 k,.string a,.string v,.string g,.slice qA any.length qc,.string l,.slice rA kids.length rc] 25))
 clear hr
 rcases hk with rfl | rfl
 all_goals rcases pways g l any.length with ⟨g1,g2,g3,g4⟩ | ⟨⟨g1,g2,g3,g4,g5⟩,n1,n2,n3,n4,n5⟩ | ⟨⟨g1,g2,g3,g4,g5⟩,⟨n1,n2,n3,n4,n5⟩,l1,l2,l3,l4⟩ | ⟨⟨g1,g2,g3,g4,g5⟩,⟨n1,n2,n3,n4,n5⟩,l1,l2,l3,l4,l5⟩
 all_goals rcases avways a v with ⟨a1,a2,a3,a4⟩ | ⟨⟨a1,a2,a3,a4,a5⟩,v1,v2,v3,v4⟩ | ⟨⟨a1,a2,a3,a4,a5⟩,v1,v2,v3,v4,v5⟩
 all_goals
  go_enter Tryz.func91,Tryz.ntmps91
  go_wp2_with fail
  go_ret
  exact ah (by rw [HR.out,Fl.one_mk]; simp [aS,dh, *]) HB.out
theorem rone_2 (a v g : ByteArray) (any : List ByteArray) (l : ByteArray) (kids : List Fl) (c : List Value) (S : Nat -> Prop) (w : World) (h : FlAt w S (.mk 2 a v g any l kids) c) :
  Calls Tryz.prog 91 #[.agg c.toArray] w (aq (Fl.one (.mk 2 a v g any l kids)) w):=by
 unfold FlAt at h
 obtain ⟨⟨qA,qn,qc⟩,⟨rA,rn,rc⟩,rfl,-,⟨hq1,-,-,-⟩,⟨hr1,-,-⟩,-⟩:=h
 simp only at hq1 hr1 |-
 subst hq1 hr1
 obtain ⟨r,hr⟩ : ∃ r,r = Fl.one (.mk 2 a v g any l kids):=⟨_,rfl⟩
 rw [<- hr]
 have HR:=aa hr
 have HB:=aa ((Below.refl w.heap.size w).alloc (Nat.le_refl _) (.cells #[.int .i64 2,.string a,.string v,.string g,.slice qA any.length qc,.string l,.slice rA kids.length rc] 25))
 clear hr
 all_goals rcases pways g l any.length with ⟨g1,g2,g3,g4⟩ | ⟨⟨g1,g2,g3,g4,g5⟩,n1,n2,n3,n4,n5⟩ | ⟨⟨g1,g2,g3,g4,g5⟩,⟨n1,n2,n3,n4,n5⟩,l1,l2,l3,l4⟩ | ⟨⟨g1,g2,g3,g4,g5⟩,⟨n1,n2,n3,n4,n5⟩,l1,l2,l3,l4,l5⟩
 all_goals (rcases avways a v with ⟨a1,a2,a3,a4⟩ | ⟨⟨a1,a2,a3,a4,a5⟩,v1,v2,v3,v4⟩ | ⟨⟨a1,a2,a3,a4,a5⟩,v1,v2,v3,v4,v5⟩) <;> (by_cases hK : kids.length = 1; (have k1 : (kids.length == 1) = true:=by rw [beq_iff_eq]; omega); (have k2 : ((kids.length : Int) == 1) = true:=by rw [beq_iff_eq]; omega); rotate_left; (have k1 : (kids.length == 1) = false:=by rw [beq_eq_false_iff_ne]; omega); (have k2 : ((kids.length : Int) == 1) = false:=by rw [beq_eq_false_iff_ne]; omega)) <;> clear hK
 all_goals
  go_enter Tryz.func91,Tryz.ntmps91
  go_wp2_with fail
  go_ret
  exact ah (by rw [HR.out,Fl.one_mk]; simp [aS,dh, *]) HB.out
theorem rone_3 (k : Int) (hk : k = 3 \/ k = 5 \/ k = 6 \/ k = 8) (a v g : ByteArray) (any : List ByteArray) (l : ByteArray) (kids : List Fl) (c : List Value) (S : Nat -> Prop) (w : World) (h : FlAt w S (.mk k a v g any l kids) c) :
  Calls Tryz.prog 91 #[.agg c.toArray] w (aq (Fl.one (.mk k a v g any l kids)) w):=by
 unfold FlAt at h
 obtain ⟨⟨qA,qn,qc⟩,⟨rA,rn,rc⟩,rfl,-,⟨hq1,-,-,-⟩,⟨hr1,-,-⟩,-⟩:=h
 simp only at hq1 hr1 |-
 subst hq1 hr1
 obtain ⟨r,hr⟩ : ∃ r,r = Fl.one (.mk k a v g any l kids):=⟨_,rfl⟩
 rw [<- hr]
 have HR:=aa hr
 have HB:=aa ((Below.refl w.heap.size w).alloc (Nat.le_refl _) (.cells #[.int .i64 k,.string a,.string v,.string g,.slice qA any.length qc,.string l,.slice rA kids.length rc] 25))
 clear hr
 rcases hk with rfl | rfl | rfl | rfl
 all_goals rcases pways g l any.length with ⟨g1,g2,g3,g4⟩ | ⟨⟨g1,g2,g3,g4,g5⟩,n1,n2,n3,n4,n5⟩ | ⟨⟨g1,g2,g3,g4,g5⟩,⟨n1,n2,n3,n4,n5⟩,l1,l2,l3,l4⟩ | ⟨⟨g1,g2,g3,g4,g5⟩,⟨n1,n2,n3,n4,n5⟩,l1,l2,l3,l4,l5⟩
 all_goals rcases lways a kids.length with ⟨a1,a2,a3,a4,a5⟩ | ⟨⟨a1,a2,a3,a4⟩,z1,z2⟩ | ⟨⟨a1,a2,a3,a4⟩,⟨z1,z2⟩,k1,k2,k3,k4,k5⟩ | ⟨⟨a1,a2,a3,a4⟩,⟨z1,z2⟩,k1,k2,k3,k4,k5⟩
 all_goals
  go_enter Tryz.func91,Tryz.ntmps91
  go_wp2_with fail
  go_ret
  exact ah (by rw [HR.out,Fl.one_mk]; simp [aS,dh, *]) HB.out
theorem rone_7 (a v g : ByteArray) (any : List ByteArray) (l : ByteArray) (kids : List Fl) (c : List Value) (S : Nat -> Prop) (w : World) (h : FlAt w S (.mk 7 a v g any l kids) c) :
  Calls Tryz.prog 91 #[.agg c.toArray] w (aq (Fl.one (.mk 7 a v g any l kids)) w):=by
 unfold FlAt at h
 obtain ⟨⟨qA,qn,qc⟩,⟨rA,rn,rc⟩,rfl,-,⟨hq1,-,-,-⟩,⟨hr1,-,-⟩,-⟩:=h
 simp only at hq1 hr1 |-
 subst hq1 hr1
 obtain ⟨r,hr⟩ : ∃ r,r = Fl.one (.mk 7 a v g any l kids):=⟨_,rfl⟩
 rw [<- hr]
 have HR:=aa hr
 have HB:=aa ((Below.refl w.heap.size w).alloc (Nat.le_refl _) (.cells #[.int .i64 7,.string a,.string v,.string g,.slice qA any.length qc,.string l,.slice rA kids.length rc] 25))
 clear hr
 all_goals rcases pways g l any.length with ⟨g1,g2,g3,g4⟩ | ⟨⟨g1,g2,g3,g4,g5⟩,n1,n2,n3,n4,n5⟩ | ⟨⟨g1,g2,g3,g4,g5⟩,⟨n1,n2,n3,n4,n5⟩,l1,l2,l3,l4⟩ | ⟨⟨g1,g2,g3,g4,g5⟩,⟨n1,n2,n3,n4,n5⟩,l1,l2,l3,l4,l5⟩
 all_goals rcases l7ways a v kids.length with ⟨a1,a2,a3,a4,a5⟩ | ⟨⟨a1,a2,a3,a4⟩,z1,z2⟩ | ⟨⟨a1,a2,a3,a4⟩,⟨z1,z2⟩,v1,v2,v3,v4⟩ | ⟨⟨a1,a2,a3,a4⟩,⟨z1,z2⟩,⟨v1,v2,v3,v4,v5⟩,k1,k2,k3,k4,k5⟩ | ⟨⟨a1,a2,a3,a4⟩,⟨z1,z2⟩,⟨v1,v2,v3,v4,v5⟩,k1,k2,k3,k4,k5⟩
 all_goals
  go_enter Tryz.func91,Tryz.ntmps91
  go_wp2_with fail
  go_ret
  exact ah (by rw [HR.out,Fl.one_mk]; simp [aS,dh, *]) HB.out
theorem rone_4 (a v g : ByteArray) (any : List ByteArray) (l : ByteArray) (kids : List Fl) (c : List Value) (S : Nat -> Prop) (w : World) (h : FlAt w S (.mk 4 a v g any l kids) c) :
  Calls Tryz.prog 91 #[.agg c.toArray] w (aq (Fl.one (.mk 4 a v g any l kids)) w):=by
 have HPI:=aa fun (W : World) (hb : Below w.heap.size w W) => rpieces_any 4 a v g any l kids c S W (FlAt.keep (T:=S) hb.size (fun x _ hlt => hb.block x hlt) (fun _ h _ => h) _ _ h)
 unfold FlAt at h
 obtain ⟨⟨qA,qn,qc⟩,⟨rA,rn,rc⟩,rfl,-,⟨hq1,-,-,-⟩,⟨hr1,-,-⟩,-⟩:=h
 simp only at hq1 hr1 |-
 subst hq1 hr1
 obtain ⟨r,hr⟩ : ∃ r,r = Fl.one (.mk 4 a v g any l kids):=⟨_,rfl⟩
 rw [<- hr]
 have HR:=aa hr
 have HB:=aa ((Below.refl w.heap.size w).alloc (Nat.le_refl _) (.cells #[.int .i64 4,.string a,.string v,.string g,.slice qA any.length qc,.string l,.slice rA kids.length rc] 25))
 clear hr
 have HKX:=aa (Bk.new w 25 #[.int .i64 4,.string a,.string v,.string g,.slice qA any.length qc,.string l,.slice rA kids.length rc])
 simp only at HPI
 have HPZ:=aa (show (any.any aj || (aj g || aj l)) = (aj g || (aj l || any.any aj)) by cases any.any aj <;> cases aj g <;> cases aj l <;> rfl)
 obtain ⟨z,hz⟩ : ∃ z,z = (any.any aj || (aj g || aj l)):=⟨_,rfl⟩
 rw [<- hz] at HPI HPZ
 clear hz
 rcases pways g l any.length with ⟨g1,g2,g3,g4⟩ | ⟨⟨g1,g2,g3,g4,g5⟩,n1,n2,n3,n4,n5⟩ | ⟨⟨g1,g2,g3,g4,g5⟩,⟨n1,n2,n3,n4,n5⟩,l1,l2,l3,l4⟩ | ⟨⟨g1,g2,g3,g4,g5⟩,⟨n1,n2,n3,n4,n5⟩,l1,l2,l3,l4,l5⟩
 all_goals rcases l7ways a v kids.length with ⟨a1,a2,a3,a4,a5⟩ | ⟨⟨a1,a2,a3,a4⟩,z1,z2⟩ | ⟨⟨a1,a2,a3,a4⟩,⟨z1,z2⟩,v1,v2,v3,v4⟩ | ⟨⟨a1,a2,a3,a4⟩,⟨z1,z2⟩,⟨v1,v2,v3,v4,v5⟩,k1,k2,k3,k4,k5⟩ | ⟨⟨a1,a2,a3,a4⟩,⟨z1,z2⟩,⟨v1,v2,v3,v4,v5⟩,k1,k2,k3,k4,k5⟩
 all_goals (cases z <;> (rcases lim8 any.length with ⟨y1,y2,y3⟩ | ⟨y1,y2,y3⟩))
 all_goals
  go_enter Tryz.func91,Tryz.ntmps91
  go_wp2_with (first
   | (go_at_call 102; go_must (refine (HPI.out _ HB.out).mono ?_); rintro e w2 ⟨rfl,hb2⟩; have hk2:=af HKX.out hb2; have e4 : w2.cell? ⟨w.heap.size,4,none⟩ = some (.slice qA any.length qc):=hk2.cell 4; have e6 : w2.cell? ⟨w.heap.size,6,none⟩ = some (.slice rA kids.length rc):=hk2.cell 6; have e7:=hk2.lt; have HB2:=aa (HB.out.trans (hb2.mono HB.out.size)); clear hb2 hk2)
   | fail)
  go_ret
  first
   | exact ah (by rw [HR.out,Fl.one_mk,<- HPZ.out]; simp [aS,dh, *]) HB2.out
   | exact ah (by rw [HR.out,Fl.one_mk,<- HPZ.out]; simp [aS,dh, *]) HB.out
   | fail
theorem rone_far (k : Int) (a v g : ByteArray) (any : List ByteArray) (l : ByteArray) (kids : List Fl) (c : List Value) (S : Nat -> Prop) (w : World) (h : FlAt w S (.mk k a v g any l kids) c) (hk : k < 0 \/ 8 < k) :
  Calls Tryz.prog 91 #[.agg c.toArray] w (aq (Fl.one (.mk k a v g any l kids)) w):=by
 unfold FlAt at h
 obtain ⟨⟨qA,qn,qc⟩,⟨rA,rn,rc⟩,rfl,-,⟨hq1,-,-,-⟩,⟨hr1,-,-⟩,-⟩:=h
 simp only at hq1 hr1 |-
 subst hq1 hr1
 obtain ⟨r,hr⟩ : ∃ r,r = Fl.one (.mk k a v g any l kids):=⟨_,rfl⟩
 rw [<- hr]
 have HR:=aa hr
 have HB:=aa ((Below.refl w.heap.size w).alloc (Nat.le_refl _) (.cells #[.int .i64 k,.string a,.string v,.string g,.slice qA any.length qc,.string l,.slice rA kids.length rc] 25))
 have HV:=aa (show r = false by rw [HR.out,Fl.one_mk,if_neg (by omega),if_neg (by omega),if_neg (by omega),if_neg (by omega),if_neg (by omega)])
 clear hr
 have k0 : (k == 0) = false:=by simp; omega
 have k1 : (k == 1) = false:=by simp; omega
 have k2 : (k == 2) = false:=by simp; omega
 have k3 : (k == 3) = false:=by simp; omega
 have k4 : (k == 4) = false:=by simp; omega
 have k5 : (k == 5) = false:=by simp; omega
 have k6 : (k == 6) = false:=by simp; omega
 have k7 : (k == 7) = false:=by simp; omega
 have k8 : (k == 8) = false:=by simp; omega
 clear hk
 rcases pways g l any.length with ⟨g1,g2,g3,g4⟩ | ⟨⟨g1,g2,g3,g4,g5⟩,n1,n2,n3,n4,n5⟩ | ⟨⟨g1,g2,g3,g4,g5⟩,⟨n1,n2,n3,n4,n5⟩,l1,l2,l3,l4⟩ | ⟨⟨g1,g2,g3,g4,g5⟩,⟨n1,n2,n3,n4,n5⟩,l1,l2,l3,l4,l5⟩
 all_goals
  go_enter Tryz.func91,Tryz.ntmps91
  go_wp2_with fail
  go_ret
  exact ah HV.out HB.out
theorem rone_any (f : Fl) (c : List Value) (S : Nat -> Prop) (w : World) (h : FlAt w S f c) : Calls Tryz.prog 91 #[.agg c.toArray] w (aq f.one w):=by
 obtain ⟨k,a,v,g,any,l,kids⟩:=f
 by_cases hk : k < 0 \/ 8 < k
 ·exact rone_far k a v g any l kids c S w h hk
 by_cases h01 : k = 0 \/ k = 1
 ·exact rone_0 k h01 a v g any l kids c S w h
 by_cases h35 : k = 3 \/ k = 5 \/ k = 6 \/ k = 8
 ·exact rone_3 k h35 a v g any l kids c S w h
 have : k = 2 \/ k = 4 \/ k = 7:=by omega
 rcases this with rfl | rfl | rfl
 ·exact rone_2 a v g any l kids c S w h
 ·exact rone_4 a v g any l kids c S w h
 ·exact rone_7 a v g any l kids c S w h
end Go.Proofs.YtbiglfpikfjbpaaGreatDoor
