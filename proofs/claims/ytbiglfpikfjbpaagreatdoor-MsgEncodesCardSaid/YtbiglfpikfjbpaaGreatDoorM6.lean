import Derived.Test.YtbiglfpikfjbpaaGreatDoorM5
import Derived.Test.YtbiglfpikfjbpaaGreatDoorM3
import Derived.StillTailTactics
namespace Go.Proofs.YtbiglfpikfjbpaaGreatDoor
open Go.RowKit
set_option maxRecDepth 100000
set_option linter.unusedVariables false
set_option linter.unusedSimpArgs false
set_option maxHeartbeats 40000000
theorem aU {s : ByteArray} (h : aj s = true) : s.toList.isEmpty = false:=by unfold aj at h; simpa using h
theorem aE {s : ByteArray} (h : aj s = false) : s.toList.isEmpty = true /\ s.toList = []:=by unfold aj at h; simp at h; simp [h]
def aS (a v f : ByteArray) (q : Nat) (l : ByteArray) (r : Nat) : Bool:=!(aj a || (aj v || (aj f || (q != 0 || (aj l || r != 0)))))
def P1 (s : ByteArray) : Prop:=aj s = true /\ s.toList.isEmpty = false /\ (!s.toList.isEmpty) = true /\ decide ((1 : Int) <= (s.size : Int)) = true
def P0 (s : ByteArray) : Prop:=aj s = false /\ s.toList.isEmpty = true /\ s.toList = [] /\ (!s.toList.isEmpty) = false /\ decide ((1 : Int) <= (s.size : Int)) = false
def N1 (n : Nat) : Prop:=(n != 0) = true /\ decide ((0 : Int) < (n : Int)) = true /\ decide (0 < n) = true /\ ((n : Int) == 0) = false /\ (n == 0) = false
def N0 (n : Nat) : Prop:=(n != 0) = false /\ decide ((0 : Int) < (n : Int)) = false /\ decide (0 < n) = false /\ ((n : Int) == 0) = true /\ (n == 0) = true
def L1 (n : Nat) : Prop:=decide (n <= 64) = true /\ decide ((n : Int) <= 64) = true
def L0 (n : Nat) : Prop:=decide (n <= 64) = false /\ decide ((n : Int) <= 64) = false
def M1 (n : Nat) : Prop:=decide (n <= 8) = true /\ decide ((n : Int) <= 8) = true /\ decide ((8 : Int) < (n : Int)) = false
def M0 (n : Nat) : Prop:=decide (n <= 8) = false /\ decide ((n : Int) <= 8) = false /\ decide ((8 : Int) < (n : Int)) = true
theorem full_size {s : ByteArray} : aj s = decide (1 <= s.size):=by
 unfold aj
 rw [ByteArray.toList_eq]
 have e : s.data.toList.length = s.size:=rfl
 rw [<- e]
 cases s.data.toList <;> simp
theorem bin (s : ByteArray) : P1 s \/ P0 s:=by
 cases h : aj s with
 | true => refine .inl ⟨h,aU h,h,?_⟩; rw [full_size] at h; exact ab (by have:=of_decide_eq_true h; omega)
 | false => refine .inr ⟨h,(aE h).1,(aE h).2,show (!s.toList.isEmpty) = false from h,?_⟩; rw [full_size] at h; exact ae (by have:=of_decide_eq_false h; omega)
theorem cnt (n : Nat) : N1 n \/ N0 n:=by
 unfold N1 N0
 by_cases h : n = 0
 ·subst h; right; simp
 ·left; simp; omega
theorem lim64 (n : Nat) : L1 n \/ L0 n:=by
 unfold L1 L0
 by_cases h : n <= 64
 ·left; simp; omega
 ·right; simp; omega
theorem lim8 (n : Nat) : M1 n \/ M0 n:=by
 unfold M1 M0
 by_cases h : n <= 8
 ·left; simp; omega
 ·right; simp; omega
theorem aways (a : ByteArray) : P0 a \/ (P1 a /\ L0 a.size) \/ (P1 a /\ L1 a.size):=by
 rcases bin a with h | h <;> rcases lim64 a.size with h' | h' <;> simp [*]
theorem dR (k : Int) (a v f : ByteArray) (qA : Option Addr) (qn qc : Nat) (l : ByteArray) (rA : Option Addr) (rn rc : Nat) (w : World) :
  Calls Tryz.prog 108 #[.agg #[.int .i64 k,.string a,.string v,.string f,.slice qA qn qc,.string l,.slice rA rn rc]] w (aq (aS a v f qn l rn) w):=by
 obtain ⟨p,hp⟩ : ∃ p,p = aS a v f qn l rn:=⟨_,rfl⟩
 rw [<- hp]
 have HP:=aa hp
 clear hp
 have hw : P1 a \/ (P0 a /\ P1 v) \/ (P0 a /\ P0 v /\ P1 f) \/ (P0 a /\ P0 v /\ P0 f /\ N1 qn) \/ (P0 a /\ P0 v /\ P0 f /\ N0 qn /\ P1 l) \/ (P0 a /\ P0 v /\ P0 f /\ N0 qn /\ P0 l /\ N1 rn) \/ (P0 a /\ P0 v /\ P0 f /\ N0 qn /\ P0 l /\ N0 rn):=by
  rcases bin a with h | h <;> rcases bin v with h2 | h2 <;> rcases bin f with h3 | h3 <;> rcases cnt qn with h4 | h4 <;> rcases bin l with h5 | h5 <;> rcases cnt rn with h6 | h6 <;> simp [*]
 rcases hw with ⟨a1,a2,a3,a4⟩ | ⟨⟨a1,a2,a3,a4,a5⟩,⟨v1,v2,v3,v4⟩⟩ | ⟨⟨a1,a2,a3,a4,a5⟩,⟨v1,v2,v3,v4,v5⟩,⟨f1,f2,f3,f4⟩⟩ | ⟨⟨a1,a2,a3,a4,a5⟩,⟨v1,v2,v3,v4,v5⟩,⟨f1,f2,f3,f4,f5⟩,⟨q1,q2,q3,q4,q5⟩⟩ | ⟨⟨a1,a2,a3,a4,a5⟩,⟨v1,v2,v3,v4,v5⟩,⟨f1,f2,f3,f4,f5⟩,⟨q1,q2,q3,q4,q5⟩,⟨l1,l2,l3,l4⟩⟩ | ⟨⟨a1,a2,a3,a4,a5⟩,⟨v1,v2,v3,v4,v5⟩,⟨f1,f2,f3,f4,f5⟩,⟨q1,q2,q3,q4,q5⟩,⟨l1,l2,l3,l4,l5⟩,⟨r1,r2,r3,r4,r5⟩⟩ | ⟨⟨a1,a2,a3,a4,a5⟩,⟨v1,v2,v3,v4,v5⟩,⟨f1,f2,f3,f4,f5⟩,⟨q1,q2,q3,q4,q5⟩,⟨l1,l2,l3,l4,l5⟩,⟨r1,r2,r3,r4,r5⟩⟩
 all_goals
  go_enter Tryz.func108,Tryz.ntmps108
  go_wp2_with fail
  go_ret
  exact ah (by rw [HP.out]; simp [aS, *]) ((Below.refl _ w).alloc (Nat.le_refl _) _)
theorem full_fn (s : ByteArray) (w : World) : Calls Tryz.prog 110 #[.string s] w (cU (aj s) w):=by
 cases h : aj s with
 | true =>
  have h1 : (!s.toList.isEmpty) = true:=h
  have h2:=aU h
  clear h
  go_enter Tryz.func110,Tryz.ntmps110
  go_wp2_with fail
  go_ret
  exact ⟨rfl,rfl⟩
 | false =>
  have h1 : (!s.toList.isEmpty) = false:=h
  have h2:=(aE h).1
  have h3:=(aE h).2
  clear h
  go_enter Tryz.func110,Tryz.ntmps110
  go_wp2_with fail
  go_ret
  exact ⟨rfl,rfl⟩
theorem any_take_succ {α : Type} (p : α -> Bool) (l : List α) (k : Nat) (h : k < l.length) : (l.take (k + 1)).any p = ((l.take k).any p || p l[k]):=by
 rw [List.take_succ_eq_append_getElem h,List.any_append]
 simp
def FoundAt (q : Bool) (w : World) (e : Ending) (w' : World) : Prop:=∃ n : Int,e = .returned (.int .i64 n) /\ decide (0 <= n) = q /\ w = w'
theorem index_any (q : Rw) (ss : List ByteArray) (S : Nat -> Prop) (w : World) (h : SRow w S q ss) :
  Calls Tryz.prog 112 #[.slice q.A q.n q.c,.func (.func 110) #[] #[]] w (FoundAt (ss.any aj) w):=by
 obtain ⟨qA,qn,qc⟩:=q
 obtain ⟨h1,h2,h3,h4⟩:=h
 simp only at h1 h2 h3 h4 |-
 subst h1
 have H4:=aa h4
 have hc : qc <= 9223372036854775807:=by unfold maxLen at h3; omega
 clear h3 h4
 go_enter Tryz.func112,Tryz.ntmps112
 go_wp2_with fail
 go_loop [8] (fun i => ∃ k : Nat,i = .int .i64 k /\ k <= ss.length /\ Hid ((ss.take k).any aj = false)) (fun i => ss.length - (intOf i).toNat)
 case atStart => exact ⟨0,rfl,Nat.zero_le _,rfl⟩
 case round =>
  obtain ⟨k,rfl,hk,HT⟩:=hrel
  by_cases hlt : k < ss.length
  ·obtain ⟨b,o,c,rfl,hS,hc1,hcl,hs⟩:=H4.out k ss[k] (List.getElem?_eq_getElem hlt)
   obtain ⟨rfl,hsz⟩:=hs
   have q0 : w.cell? ⟨b,o + k,none⟩ = some (.string ss[k]):=by have:=hcl 0 _ rfl; simpa using this
   have z1 : decide (k < ss.length) = true:=ab hlt
   have HAS:=aa (any_take_succ aj ss k hlt)
   obtain ⟨x,hx⟩ : ∃ x,x = ss[k]:=⟨_,rfl⟩
   rw [<- hx] at q0 HAS
   have HX:=aa hx
   clear hS hc1 hcl hsz hx
   go_wp2_with fail
   (go_at_call 110)
   refine (full_fn x _).mono ?_
   cases hf : aj x with
   | true =>
    rintro e w1 ⟨rfl,rfl⟩
    have HFT:=aa hf
    clear hf
    go_wp2_with fail
    go_ret
    refine ⟨k,rfl,?_,rfl⟩
    have ha : (ss.take (k + 1)).any aj = true:=by rw [HAS.out,HFT.out]; simp
    have hb : ss.any aj = true:=by
     rw [List.any_eq_true] at ha |-
     obtain ⟨y,hy,hp⟩:=ha
     exact ⟨y,List.mem_of_mem_take hy,hp⟩
    rw [hb]
    simp
   | false =>
    rintro e w1 ⟨rfl,rfl⟩
    have HFT:=aa hf
    clear hf
    go_wp2_with fail
    go_round
    case rel => exact ⟨k + 1,by go_num,by omega,show _ = _ by rw [HAS.out,HT.out,HFT.out]; rfl⟩
    case measure => simp [intOf]; omega
  ·obtain rfl : k = ss.length:=by omega
   have z1 : decide (ss.length < ss.length) = false:=by simp
   go_wp2_with fail
   go_ret
   have hb : ss.any aj = false:=by have:=HT.out; rwa [List.take_length] at this
   exact ⟨-1,rfl,by rw [hb]; rfl,rfl⟩
theorem contains_any (q : Rw) (ss : List ByteArray) (S : Nat -> Prop) (w : World) (h : SRow w S q ss) :
  Calls Tryz.prog 109 #[.slice q.A q.n q.c,.func (.func 110) #[] #[]] w (cU (ss.any aj) w):=by
 have H:=aa (index_any q ss S w h)
 obtain ⟨b,hb⟩ : ∃ b,b = ss.any aj:=⟨_,rfl⟩
 rw [<- hb] at H |-
 clear h hb
 go_enter Tryz.func109,Tryz.ntmps109
 go_wp2_with fail
 (go_at_call 112)
 refine H.out.mono ?_
 rintro e w1 ⟨n,rfl,hn,rfl⟩
 cases b with
 | true =>
  have h1 : decide (0 <= n) = true:=hn
  clear hn
  go_wp2_with fail
  go_ret
  exact ⟨rfl,rfl⟩
 | false =>
  have h1 : decide (0 <= n) = false:=hn
  clear hn
  go_wp2_with fail
  go_ret
  exact ⟨rfl,rfl⟩
theorem one_0 (k : Int) (hk : k = 0 \/ k = 1) (a v f : ByteArray) (qA : Option Addr) (qn qc : Nat) (l : ByteArray) (rA : Option Addr) (rn rc : Nat) (w : World) :
  Calls Tryz.prog 101 #[.agg #[.int .i64 k,.string a,.string v,.string f,.slice qA qn qc,.string l,.slice rA rn rc]] w (aq (aS a v f qn l 0) w):=by
 have H:=aa (fun W => dR k a v f qA qn qc l none 0 0 W)
 obtain ⟨p,hp⟩ : ∃ p,p = aS a v f qn l 0:=⟨_,rfl⟩
 rw [<- hp] at H |-
 have HBF:=aa ((Bk.new w 25 #[.int .i64 k,.string a,.string v,.string f,.slice qA qn qc,.string l,.slice rA rn rc]).alloc (.cells #[.int .i64 k,.string a,.string v,.string f,.slice qA qn qc,.string l,.slice none 0 0] 25))
 have HW:=aa (((Below.refl _ w).alloc (Nat.le_refl _) (.cells #[.int .i64 k,.string a,.string v,.string f,.slice qA qn qc,.string l,.slice rA rn rc] 25)).alloc (by simp) (.cells #[.int .i64 k,.string a,.string v,.string f,.slice qA qn qc,.string l,.slice none 0 0] 25))
 clear hp
 rcases hk with rfl | rfl
 all_goals cases p
 all_goals
  go_enter Tryz.func101,Tryz.ntmps101
  go_wp2_with (first
   | (go_at_call 108; go_must (refine (H.out _).mono ?_); rintro e w1 ⟨rfl,hb1⟩; have hb2:=af HBF.out hb1; have e0:=show w1.cell? ⟨w.heap.size,0,none⟩ = some (.int .i64 _) from hb2.cell 0; have e1:=show w1.cell? ⟨w.heap.size,1,none⟩ = some (.string a) from hb2.cell 1; have e6:=show w1.cell? ⟨w.heap.size,6,none⟩ = some (.slice rA _ rc) from hb2.cell 6; have HE:=aa (HW.out.trans (hb1.mono HW.out.size)); clear hb1 hb2)
   | fail)
  go_ret
  first | exact ah (by simp [*]) HE.out | fail
theorem one_2 (a v f : ByteArray) (qA : Option Addr) (qn qc : Nat) (l : ByteArray) (rA : Option Addr) (rn rc : Nat) (w : World) :
  Calls Tryz.prog 101 #[.agg #[.int .i64 2,.string a,.string v,.string f,.slice qA qn qc,.string l,.slice rA rn rc]] w (aq (aS a v f qn l 0 && (rn == 1)) w):=by
 have H:=aa (fun W => dR 2 a v f qA qn qc l none 0 0 W)
 obtain ⟨p,hp⟩ : ∃ p,p = aS a v f qn l 0:=⟨_,rfl⟩
 rw [<- hp] at H |-
 have HBF:=aa ((Bk.new w 25 #[.int .i64 2,.string a,.string v,.string f,.slice qA qn qc,.string l,.slice rA rn rc]).alloc (.cells #[.int .i64 2,.string a,.string v,.string f,.slice qA qn qc,.string l,.slice none 0 0] 25))
 have HW:=aa (((Below.refl _ w).alloc (Nat.le_refl _) (.cells #[.int .i64 2,.string a,.string v,.string f,.slice qA qn qc,.string l,.slice rA rn rc] 25)).alloc (by simp) (.cells #[.int .i64 2,.string a,.string v,.string f,.slice qA qn qc,.string l,.slice none 0 0] 25))
 clear hp
 all_goals cases p
 all_goals (by_cases hr : rn = 1; rotate_left; (have r1 : ((rn : Int) == 1) = false:=by simp; omega); (have r2 : (rn == 1) = false:=by simpa using hr); clear hr)
 all_goals (try subst hr)
 all_goals
  go_enter Tryz.func101,Tryz.ntmps101
  go_wp2_with (first
   | (go_at_call 108; go_must (refine (H.out _).mono ?_); rintro e w1 ⟨rfl,hb1⟩; have hb2:=af HBF.out hb1; have e0:=show w1.cell? ⟨w.heap.size,0,none⟩ = some (.int .i64 _) from hb2.cell 0; have e1:=show w1.cell? ⟨w.heap.size,1,none⟩ = some (.string a) from hb2.cell 1; have e6:=show w1.cell? ⟨w.heap.size,6,none⟩ = some (.slice rA _ rc) from hb2.cell 6; have HE:=aa (HW.out.trans (hb1.mono HW.out.size)); clear hb1 hb2)
   | fail)
  go_ret
  first | exact ah (by simp [*]) HE.out | fail
theorem one_3 (k : Int) (hk : k = 3 \/ k = 5 \/ k = 6 \/ k = 8) (a v f : ByteArray) (qA : Option Addr) (qn qc : Nat) (l : ByteArray) (rA : Option Addr) (rn rc : Nat) (w : World) :
  Calls Tryz.prog 101 #[.agg #[.int .i64 k,.string a,.string v,.string f,.slice qA qn qc,.string l,.slice rA rn rc]] w (aq (aS ⟨#[]⟩ ⟨#[]⟩ f qn l rn && (aj a && decide (a.size <= 64))) w):=by
 have H:=aa (fun W => dR k ⟨#[]⟩ ⟨#[]⟩ f qA qn qc l rA rn rc W)
 obtain ⟨p,hp⟩ : ∃ p,p = aS ⟨#[]⟩ ⟨#[]⟩ f qn l rn:=⟨_,rfl⟩
 rw [<- hp] at H |-
 have HBF:=aa ((Bk.new w 25 #[.int .i64 k,.string a,.string v,.string f,.slice qA qn qc,.string l,.slice rA rn rc]).alloc (.cells #[.int .i64 k,.string ⟨#[]⟩,.string ⟨#[]⟩,.string f,.slice qA qn qc,.string l,.slice rA rn rc] 25))
 have HW:=aa (((Below.refl _ w).alloc (Nat.le_refl _) (.cells #[.int .i64 k,.string a,.string v,.string f,.slice qA qn qc,.string l,.slice rA rn rc] 25)).alloc (by simp) (.cells #[.int .i64 k,.string ⟨#[]⟩,.string ⟨#[]⟩,.string f,.slice qA qn qc,.string l,.slice rA rn rc] 25))
 clear hp
 rcases hk with rfl | rfl | rfl | rfl
 all_goals cases p
 all_goals rcases aways a with ⟨a1,a2,a3,a4,a5⟩ | ⟨⟨a1,a2,a3,a4⟩,z1,z2⟩ | ⟨⟨a1,a2,a3,a4⟩,z1,z2⟩
 all_goals
  go_enter Tryz.func101,Tryz.ntmps101
  go_wp2_with (first
   | (go_at_call 108; go_must (refine (H.out _).mono ?_); rintro e w1 ⟨rfl,hb1⟩; have hb2:=af HBF.out hb1; have e0:=show w1.cell? ⟨w.heap.size,0,none⟩ = some (.int .i64 _) from hb2.cell 0; have e1:=show w1.cell? ⟨w.heap.size,1,none⟩ = some (.string a) from hb2.cell 1; have e6:=show w1.cell? ⟨w.heap.size,6,none⟩ = some (.slice rA _ rc) from hb2.cell 6; have HE:=aa (HW.out.trans (hb1.mono HW.out.size)); clear hb1 hb2)
   | fail)
  go_ret
  first | exact ah (by simp [*]) HE.out | fail
theorem one_7 (a v f : ByteArray) (qA : Option Addr) (qn qc : Nat) (l : ByteArray) (rA : Option Addr) (rn rc : Nat) (w : World) :
  Calls Tryz.prog 101 #[.agg #[.int .i64 7,.string a,.string v,.string f,.slice qA qn qc,.string l,.slice rA rn rc]] w (aq (aS ⟨#[]⟩ v f qn l rn && (aj a && decide (a.size <= 64))) w):=by
 have H:=aa (fun W => dR 7 ⟨#[]⟩ v f qA qn qc l rA rn rc W)
 obtain ⟨p,hp⟩ : ∃ p,p = aS ⟨#[]⟩ v f qn l rn:=⟨_,rfl⟩
 rw [<- hp] at H |-
 have HBF:=aa ((Bk.new w 25 #[.int .i64 7,.string a,.string v,.string f,.slice qA qn qc,.string l,.slice rA rn rc]).alloc (.cells #[.int .i64 7,.string ⟨#[]⟩,.string v,.string f,.slice qA qn qc,.string l,.slice rA rn rc] 25))
 have HW:=aa (((Below.refl _ w).alloc (Nat.le_refl _) (.cells #[.int .i64 7,.string a,.string v,.string f,.slice qA qn qc,.string l,.slice rA rn rc] 25)).alloc (by simp) (.cells #[.int .i64 7,.string ⟨#[]⟩,.string v,.string f,.slice qA qn qc,.string l,.slice rA rn rc] 25))
 clear hp
 all_goals cases p
 all_goals rcases aways a with ⟨a1,a2,a3,a4,a5⟩ | ⟨⟨a1,a2,a3,a4⟩,z1,z2⟩ | ⟨⟨a1,a2,a3,a4⟩,z1,z2⟩
 all_goals
  go_enter Tryz.func101,Tryz.ntmps101
  go_wp2_with (first
   | (go_at_call 108; go_must (refine (H.out _).mono ?_); rintro e w1 ⟨rfl,hb1⟩; have hb2:=af HBF.out hb1; have e0:=show w1.cell? ⟨w.heap.size,0,none⟩ = some (.int .i64 _) from hb2.cell 0; have e1:=show w1.cell? ⟨w.heap.size,1,none⟩ = some (.string a) from hb2.cell 1; have e6:=show w1.cell? ⟨w.heap.size,6,none⟩ = some (.slice rA _ rc) from hb2.cell 6; have HE:=aa (HW.out.trans (hb1.mono HW.out.size)); clear hb1 hb2)
   | fail)
  go_ret
  first | exact ah (by simp [*]) HE.out | fail
theorem one_far (k : Int) (a v f : ByteArray) (qA : Option Addr) (qn qc : Nat) (l : ByteArray) (rA : Option Addr) (rn rc : Nat) (w : World) (h : k < 0 \/ 8 < k) :
  Calls Tryz.prog 101 #[.agg #[.int .i64 k,.string a,.string v,.string f,.slice qA qn qc,.string l,.slice rA rn rc]] w (aq false w):=by
 have q0 : (k == 0) = false:=by simp; omega
 have q1 : (k == 1) = false:=by simp; omega
 have q2 : (k == 2) = false:=by simp; omega
 have q3 : (k == 3) = false:=by simp; omega
 have q4 : (k == 4) = false:=by simp; omega
 have q5 : (k == 5) = false:=by simp; omega
 have q6 : (k == 6) = false:=by simp; omega
 have q7 : (k == 7) = false:=by simp; omega
 have q8 : (k == 8) = false:=by simp; omega
 clear h
 go_enter Tryz.func101,Tryz.ntmps101
 go_wp2_with fail
 go_ret
 exact ah rfl (((Below.refl _ w).alloc (Nat.le_refl _) _).alloc (by simp) _)
theorem one_4 (a v f : ByteArray) (qA : Option Addr) (qn qc : Nat) (l : ByteArray) (rA : Option Addr) (rn rc : Nat) (w : World) (z : Bool) (hz : ∀ W,Below w.heap.size w W -> Calls Tryz.prog 109 #[.slice qA qn qc,.func (.func 110) #[] #[]] W (cU z W)) :
  Calls Tryz.prog 101 #[.agg #[.int .i64 4,.string a,.string v,.string f,.slice qA qn qc,.string l,.slice rA rn rc]] w (aq ((aj f || (aj l || z)) && (decide (qn <= 8) && (aS ⟨#[]⟩ v ⟨#[]⟩ 0 ⟨#[]⟩ rn && (aj a && decide (a.size <= 64))))) w):=by
 have H:=aa (fun W => dR 4 ⟨#[]⟩ v ⟨#[]⟩ none 0 0 ⟨#[]⟩ rA rn rc W)
 obtain ⟨p,hp⟩ : ∃ p,p = aS ⟨#[]⟩ v ⟨#[]⟩ 0 ⟨#[]⟩ rn:=⟨_,rfl⟩
 rw [<- hp] at H |-
 have HBF:=aa ((Bk.new w 25 #[.int .i64 4,.string a,.string v,.string f,.slice qA qn qc,.string l,.slice rA rn rc]).alloc (.cells #[.int .i64 4,.string ⟨#[]⟩,.string v,.string ⟨#[]⟩,.slice none 0 0,.string ⟨#[]⟩,.slice rA rn rc] 25))
 have HW:=aa (((Below.refl _ w).alloc (Nat.le_refl _) (.cells #[.int .i64 4,.string a,.string v,.string f,.slice qA qn qc,.string l,.slice rA rn rc] 25)).alloc (by simp) (.cells #[.int .i64 4,.string ⟨#[]⟩,.string v,.string ⟨#[]⟩,.slice none 0 0,.string ⟨#[]⟩,.slice rA rn rc] 25))
 have HZ:=aa hz
 have HW0:=aa (((Below.refl _ w).alloc (Nat.le_refl _) (.cells #[.int .i64 4,.string a,.string v,.string f,.slice qA qn qc,.string l,.slice rA rn rc] 25)).alloc (by simp) (.cells #[.int .i64 4,.string a,.string v,.string f,.slice qA qn qc,.string l,.slice rA rn rc] 25))
 clear hz
 clear hp
 all_goals (rcases (show P1 f \/ (P0 f /\ P1 l) \/ (P0 f /\ P0 l) by rcases bin f with h | h <;> rcases bin l with h2 | h2 <;> simp [*]) with ⟨f1,f2,f3,f4⟩ | ⟨⟨f1,f2,f3,f4,f5⟩,l1,l2,l3,l4⟩ | ⟨⟨f1,f2,f3,f4,f5⟩,l1,l2,l3,l4,l5⟩)
 all_goals (rcases lim8 qn with ⟨q1,q2,q3⟩ | ⟨q1,q2,q3⟩)
 all_goals (cases z <;> cases p)
 all_goals rcases aways a with ⟨a1,a2,a3,a4,a5⟩ | ⟨⟨a1,a2,a3,a4⟩,z1,z2⟩ | ⟨⟨a1,a2,a3,a4⟩,z1,z2⟩
 all_goals
  go_enter Tryz.func101,Tryz.ntmps101
  go_wp2_with (first
   | (go_at_call 108; go_must (refine (H.out _).mono ?_); rintro e w1 ⟨rfl,hb1⟩; have hb2:=af HBF.out hb1; have e0:=show w1.cell? ⟨w.heap.size,0,none⟩ = some (.int .i64 _) from hb2.cell 0; have e1:=show w1.cell? ⟨w.heap.size,1,none⟩ = some (.string a) from hb2.cell 1; have e6:=show w1.cell? ⟨w.heap.size,6,none⟩ = some (.slice rA _ rc) from hb2.cell 6; have HE:=aa (HW.out.trans (hb1.mono HW.out.size)); clear hb1 hb2)
   | (go_at_call 109; go_must (refine (HZ.out _ HW0.out).mono ?_); rintro e w0 ⟨rfl,rfl⟩)
   | fail)
  go_ret
  first | exact ah (by simp [*]) HE.out | exact ah (by simp [*]) HW0.out | fail
def TRow (w : World) (S : Nat -> Prop) (v : Value) (ks : List Tl) : Prop :=
 ∃ (A : Option Addr) (cap : Nat),v = .slice A ks.length cap /\ ks.length <= cap /\ cap <= maxLen /\ ∀ (i : Nat) (h : i < ks.length),∃ (b o : Nat) (c0 c1 c2 c3 c4 : Value),A = some ⟨b,o,none⟩ /\ (S b /\ b < w.heap.size) ∧
  w.cell? ⟨b,o + i * 5,none⟩ = some c0 /\ w.cell? ⟨b,o + i * 5 + 1,none⟩ = some c1 /\ w.cell? ⟨b,o + i * 5 + 2,none⟩ = some c2 /\ w.cell? ⟨b,o + i * 5 + 3,none⟩ = some c3 /\ w.cell? ⟨b,o + i * 5 + 4,none⟩ = some c4 /\ TlAt w S ks[i] #[c0,c1,c2,c3,c4]
theorem TRow.of_kids {w : World} {S : Nat -> Prop} {ks : List Tl} {A : Option Addr} {cap : Nat} (hl : ks.length <= cap /\ cap <= maxLen) (h : KsAt w S ks A 0) : TRow w S (.slice A ks.length cap) ks :=
 ⟨A,cap,rfl,hl.1,hl.2,fun i hi => by
  have:=h.get i hi
  rw [Nat.zero_add] at this
  exact this⟩
theorem TRow.keep {w w' : World} {S T : Nat -> Prop} {v : Value} {ks : List Tl} (h : TRow w S v ks) (hs : w.heap.size <= w'.heap.size) (hk : ∀ b,S b -> b < w.heap.size -> w'.heap[b]? = w.heap[b]?) (hT : ∀ b,S b -> b < w.heap.size -> T b) : TRow w' T v ks:=by
 obtain ⟨A,cap,hv,h1,h2,h3⟩:=h
 refine ⟨A,cap,hv,h1,h2,fun i hi => ?_⟩
 obtain ⟨b,o,c0,c1,c2,c3,c4,hA,hlt,q0,q1,q2,q3,q4,ht⟩:=h3 i hi
 have hc : ∀ o',w'.cell? ⟨b,o',none⟩ = w.cell? ⟨b,o',none⟩:=fun o' => World.cell?_of_block (a:=⟨b,o',none⟩) (hk b hlt.1 hlt.2)
 exact ⟨b,o,c0,c1,c2,c3,c4,hA,⟨hT b hlt.1 hlt.2,Nat.lt_of_lt_of_le hlt.2 hs⟩,(hc _).trans q0,(hc _).trans q1,(hc _).trans q2,(hc _).trans q3,(hc _).trans q4,TlAt.keep hs hk hT _ _ ht⟩
theorem TRow.below {w w' : World} {S : Nat -> Prop} {v : Value} {ks : List Tl} (h : TRow w S v ks) (hb : Below w.heap.size w w') : TRow w' S v ks :=
 h.keep hb.size (fun b _ hlt => hb.block b hlt) (fun _ h _ => h)
theorem TRow.tail {w : World} {S : Nat -> Prop} {b o cap : Nat} {k : Tl} {ks : List Tl} (h : TRow w S (.slice (some ⟨b,o,none⟩) (ks.length + 1) cap) (k :: ks)) :
  TRow w S (.slice (if cap = 1 then some ⟨b,o,none⟩ else some ⟨b,o + 5,none⟩) ks.length (cap - 1)) ks:=by
 obtain ⟨A,cap',hv,h1,h2,h3⟩:=h
 injection hv with hA _ hc
 subst hA
 subst hc
 refine ⟨_,_,rfl,by simp at h1; omega,by omega,fun i hi => ?_⟩
 obtain ⟨b',o',c0,c1,c2,c3,c4,hA,hlt,q0,q1,q2,q3,q4,ht⟩:=h3 (i + 1) (by simpa using hi)
 injection hA with hA
 injection hA with hb ho
 subst hb ho
 have hne : cap ≠ 1:=by simp at h1; omega
 rw [if_neg hne]
 have e : o + (i + 1) * 5 = o + 5 + i * 5:=by omega
 rw [e] at q0 q1 q2 q3 q4
 exact ⟨b,o + 5,c0,c1,c2,c3,c4,rfl,hlt,q0,q1,q2,q3,q4,by simpa using ht⟩
def Tl.isB : Tl -> Int -> Int -> Bool -> Bool
 | .mk c k t _ _,cls,tag,cons => c == cls && (t == tag && k == cons)
theorem dK (c t : Int) (k : Bool) (b v : Value) (cls tag : Int) (cons : Bool) (w : World) :
  Calls Tryz.prog 39 #[.agg #[.int .i64 c,.bool k,.int .i64 t,b,v],.int .i64 cls,.int .i64 tag,.bool cons] w (aq (c == cls && (t == tag && k == cons)) w):=by
 obtain ⟨q,hq⟩ : ∃ q,q = (c == cls && (t == tag && k == cons)):=⟨_,rfl⟩
 rw [<- hq]
 have hcs : ((c == cls) = false /\ Hid (q = false)) \/ ((c == cls) = true /\ (t == tag) = false /\ Hid (q = false)) \/ ((c == cls) = true /\ (t == tag) = true /\ Hid (q = (k == cons))):=by
  cases h1 : (c == cls) <;> cases h2 : (t == tag) <;> rw [h1,h2] at hq <;> simp at hq <;> simp [hq,Hid]
 clear hq
 rcases hcs with ⟨q0,HB⟩ | ⟨q0,q1,HB⟩ | ⟨q0,q1,HB⟩
 all_goals
  go_enter Tryz.func39,Tryz.ntmps39
  go_wp2_with fail
  go_ret
  exact ah HB.out ((Below.refl _ w).alloc (Nat.le_refl _) _)
def MayPost (b : Nat) (S : Nat -> Prop) (ks : List Tl) (v : Value) (q : Bool) (w : World) (e : Ending) (w' : World) : Prop :=
 Off [b] w w' /\ ((q = false /\ e = .returned (.tuple #[.agg (flat 0 0 ⟨#[]⟩),.bool false]) /\ Bk w' b 76 #[v]) ∨
  (q = true /\ ∃ (k : Tl) (rest : List Tl) (cs : Array Value) (v' : Value),ks = k :: rest /\ e = .returned (.tuple #[.agg cs,.bool true]) /\ Bk w' b 76 #[v'] /\ TlAt w' S k cs /\ TRow w' S v' rest))
def bP (ks : List Tl) (cls tag : Int) (cons : Bool) : Bool:=match ks with | [] => false | k :: _ => k.isB cls tag cons
theorem may_nil (b : Nat) (A : Option Addr) (cap : Nat) (S : Nat -> Prop) (cls tag : Int) (cons : Bool) (w : World) (hb : Bk w b 76 #[.slice A 0 cap]) :
  Calls Tryz.prog 43 #[.pointer (some ⟨b,0,none⟩),.int .i64 cls,.int .i64 tag,.bool cons] w (MayPost b S [] (.slice A 0 cap) false w):=by
 have HB:=aa hb
 have c0 : w.cell? ⟨b,0,none⟩ = some (.slice A 0 cap):=by simpa using hb.cell 0
 have hlt:=hb.lt
 clear hb
 go_enter Tryz.func43,Tryz.ntmps43
 go_wp2_with fail
 refine bodyPost_ret (v:=.tuple #[.agg (flat 0 0 ⟨#[]⟩),.bool false]) (by simp [results,Tryz.results43,go_sem,flat]) rfl ⟨?_,.inl ⟨rfl,rfl,?_⟩⟩
 ·exact (Off.refl [b] w).alloc _
 ·exact HB.out.alloc _
theorem may_no (b b0 o cap : Nat) (k : Tl) (rest : List Tl) (S : Nat -> Prop) (cls tag : Int) (cons : Bool) (w : World) (hb : Bk w b 76 #[.slice (some ⟨b0,o,none⟩) (rest.length + 1) cap]) (hr : TRow w S (.slice (some ⟨b0,o,none⟩) (rest.length + 1) cap) (k :: rest)) (hq : k.isB cls tag cons = false) :
  Calls Tryz.prog 43 #[.pointer (some ⟨b,0,none⟩),.int .i64 cls,.int .i64 tag,.bool cons] w (MayPost b S (k :: rest) (.slice (some ⟨b0,o,none⟩) (rest.length + 1) cap) false w):=by
 have HB:=aa hb
 have c0 : w.cell? ⟨b,0,none⟩ = some (.slice (some ⟨b0,o,none⟩) (rest.length + 1) cap):=by simpa using hb.cell 0
 have hlt:=hb.lt
 obtain ⟨A,cap',hv,h1,h2,h3⟩:=hr
 obtain ⟨bb,oo,x0,x1,x2,x3,x4,hA,hS,q0,q1,q2,q3,q4,ht⟩:=h3 0 (by simp)
 injection hv with hv1 hv2 hv3
 subst hv1 hv3
 injection hA with hA
 injection hA with hA1 hA2
 subst hA1 hA2
 obtain ⟨tc,tk,tt,tb,tks⟩:=k
 simp only [List.getElem_cons_zero] at ht
 unfold TlAt at ht
 obtain ⟨kA,kc,hcs,hkk⟩:=ht
 simp only [Array.mk.injEq,List.cons.injEq,and_true] at hcs
 obtain ⟨rfl,rfl,rfl,rfl,rfl⟩:=hcs
 have hS2:=hS.2
 have HQ : Hid ((tc == cls && (tt == tag && tk == cons)) = false):=hq
 have hcm : cap <= 9223372036854775807:=by unfold maxLen at h2; omega
 have hlc : rest.length + 1 <= cap:=by simpa using h1
 clear h3 hkk hb hq hv2 hS h1 h2
 simp only [Nat.zero_mul,Nat.add_zero] at q0 q1 q2 q3 q4
 obtain ⟨n,hn⟩ : ∃ n,n = rest.length:=⟨_,rfl⟩
 rw [<- hn] at HB c0 hlc
 rw [<- hn]
 clear hn
 have z1 : (((n : Nat) : Int) + 1 == 0) = false:=by simp; omega
 have z2 : ((((n + 1 : Nat)) : Int) == 0) = false:=by simp; omega
 have z3 : 0 < n + 1:=by omega
 have z4 : (0 : Int) < (n : Int) + 1:=by omega
 go_enter Tryz.func43,Tryz.ntmps43
 go_wp2_with (first
  | (go_at_call 39; refine (dK tc tt tk _ _ cls tag cons _).mono ?_; rw [HQ.out]; rintro e w2 ⟨rfl,hb2⟩; have HB2:=aa hb2; have hz:=(Off.of_below hb2 []).bk (Bk.new w 42 #[.int .i64 0,.bool false,.int .i64 0,.string ⟨#[]⟩,.slice none 0 0]) (by simp); have HZ:=aa hz; obtain ⟨y0,y1,y2,y3,y4⟩:=hz.five; have f0:=hz.frozen 0; have f1:=hz.frozen 1; have f2:=hz.frozen 2; have f3:=hz.frozen 3; have f4:=hz.frozen 4; clear hb2 hz)
  | fail)
 have hs2 : w.heap.size < w2.heap.size:=HZ.out.lt
 have hO : Off [b] w w2:=(((Off.refl [b] w).alloc (.cells #[.int .i64 0,.bool false,.int .i64 0,.string ⟨#[]⟩,.slice none 0 0] 42)).trans ((Off.of_below HB2.out [b])))
 have hbw : Bk w2 b 76 _:=(Off.of_below HB2.out []).bk (HB.out.alloc _) (by simp)
 refine bodyPost_ret (v:=.tuple #[.agg (flat 0 0 ⟨#[]⟩),.bool false]) (by simp [results,Tryz.results43,go_sem,flat,y0,y1,y2,y3,y4]) rfl ⟨?_,.inl ⟨rfl,rfl,?_⟩⟩
 ·exact ((((hO.setCell (.inr (Nat.le_refl _)) _).setCell (.inr (Nat.le_refl _)) _).setCell (.inr (Nat.le_refl _)) _).setCell (.inr (Nat.le_refl _)) _).setCell (.inr (Nat.le_refl _)) _
 ·exact ((((hbw.far (by simp; omega) _).far (by simp; omega) _).far (by simp; omega) _).far (by simp; omega) _).far (by simp; omega) _
abbrev zTlv : Obj:=.cells #[.int .i64 0,.bool false,.int .i64 0,.string ⟨#[]⟩,.slice none 0 0] 42
theorem may_mid {w w2 : World} {b b0 : Nat} {v : Value} (hb : Bk w b 76 #[v]) (h0 : b0 < w.heap.size) (hb2 : Below (w.alloc zTlv).heap.size (w.alloc zTlv) w2) :
  Bk w2 b 76 #[v] /\ Bk w2 w.heap.size 42 #[.int .i64 0,.bool false,.int .i64 0,.string ⟨#[]⟩,.slice none 0 0] /\ (∀ o',w2.cell? ⟨b0,o',none⟩ = w.cell? ⟨b0,o',none⟩) /\ w.heap.size < w2.heap.size /\ b < w.heap.size:=by
 have h1:=(Off.of_below hb2 []).bk (Bk.new w 42 #[.int .i64 0,.bool false,.int .i64 0,.string ⟨#[]⟩,.slice none 0 0]) (by simp)
 have ha : Below w.heap.size w (w.alloc zTlv):=(Below.refl _ w).alloc (Nat.le_refl _) _
 refine ⟨(Off.of_below hb2 []).bk (hb.alloc _) (by simp),h1,fun o' => ?_,h1.lt,hb.lt⟩
 exact (hb2.cell (p:=⟨b0,o',none⟩) (Nat.lt_of_lt_of_le h0 ha.size)).trans (ha.cell (p:=⟨b0,o',none⟩) h0)
theorem may_yes (b b0 o cap : Nat) (k : Tl) (rest : List Tl) (S : Nat -> Prop) (cls tag : Int) (cons : Bool) (w : World) (hb : Bk w b 76 #[.slice (some ⟨b0,o,none⟩) (rest.length + 1) cap]) (hr : TRow w S (.slice (some ⟨b0,o,none⟩) (rest.length + 1) cap) (k :: rest)) (hq : k.isB cls tag cons = true) (hnb : ∀ x,S x -> x ≠ b) :
  Calls Tryz.prog 43 #[.pointer (some ⟨b,0,none⟩),.int .i64 cls,.int .i64 tag,.bool cons] w (MayPost b S (k :: rest) (.slice (some ⟨b0,o,none⟩) (rest.length + 1) cap) true w):=by
 have HB:=aa hb
 have HR:=aa hr
 have HNB:=aa hnb
 have c0 : w.cell? ⟨b,0,none⟩ = some (.slice (some ⟨b0,o,none⟩) (rest.length + 1) cap):=by simpa using hb.cell 0
 have hlt:=hb.lt
 obtain ⟨A,cap',hv,h1,h2,h3⟩:=hr
 obtain ⟨bb,oo,x0,x1,x2,x3,x4,hA,hS,q0,q1,q2,q3,q4,ht⟩:=h3 0 (by simp)
 injection hv with hv1 hv2 hv3
 subst hv1 hv3
 injection hA with hA
 injection hA with hA1 hA2
 subst hA1 hA2
 obtain ⟨tc,tk,tt,tb,tks⟩:=k
 simp only [List.getElem_cons_zero] at ht
 have HKT:=aa ht
 unfold TlAt at ht
 obtain ⟨kA,kc,hcs,hkk⟩:=ht
 simp only [Array.mk.injEq,List.cons.injEq,and_true] at hcs
 obtain ⟨rfl,rfl,rfl,rfl,rfl⟩:=hcs
 have hS2:=hS.2
 have hbne : b0 ≠ b:=hnb _ hS.1
 have g0:=hb.frozen 0
 have HQ : Hid ((tc == cls && (tt == tag && tk == cons)) = true):=hq
 have hcm : cap <= 9223372036854775807:=by unfold maxLen at h2; omega
 have hlc : rest.length + 1 <= cap:=by simpa using h1
 clear h3 hkk hb hq hv2 hS h1 h2 hnb
 simp only [Nat.zero_mul,Nat.add_zero] at q0 q1 q2 q3 q4
 obtain ⟨n,hn⟩ : ∃ n,n = rest.length:=⟨_,rfl⟩
 rw [<- hn] at HB c0 hlc
 rw [<- hn]
 have HN:=aa hn
 clear hn
 have z1 : (((n : Nat) : Int) + 1 == 0) = false:=by simp; omega
 have z2 : ((((n + 1 : Nat)) : Int) == 0) = false:=by simp; omega
 have z3 : 0 < n + 1:=by omega
 have z4 : (0 : Int) < (n : Int) + 1:=by omega
 by_cases hc1 : cap = 1
 ·subst hc1
  obtain rfl : n = 0:=by omega
  simp only [Nat.zero_add] at c0 HB z1 z2 z3 z4 hlc |-
  clear z1 z2 z3 z4
  go_enter Tryz.func43,Tryz.ntmps43
  go_wp2_with (first
   | (go_at_call 39; refine (dK tc tt tk _ _ cls tag cons _).mono ?_; rw [HQ.out]; rintro e w2 ⟨rfl,hb2⟩; have HB2:=aa hb2; obtain ⟨hbr,hz,hcc,hs3,hs4⟩:=may_mid HB.out hS2 hb2; have HBR:=aa hbr; have HZ:=aa hz; obtain ⟨y0,y1,y2,y3,y4⟩:=hz.five; have f0:=hz.frozen 0; have f1:=hz.frozen 1; have f2:=hz.frozen 2; have f3:=hz.frozen 3; have f4:=hz.frozen 4; have e0 : w2.cell? ⟨b,0,none⟩ = some (.slice (some ⟨b0,o,none⟩) 1 1):=hbr.cell 0; have e1:=hbr.frozen 0; have q0':=(hcc _).trans q0; have q1':=(hcc _).trans q1; have q2':=(hcc _).trans q2; have q3':=(hcc _).trans q3; have q4':=(hcc _).trans q4; have hs5 : b < w2.heap.size:=(by omega); have hs6 : ¬ (b = w2.heap.size):=(by omega); have hs7 : ¬ (w.heap.size = b):=(by omega); have hs8 : ¬ (b = w.heap.size):=(by omega); clear hb2 hz hbr hcc)
   | fail)
  have ha : Off [b] w (w.alloc zTlv):=(Off.refl [b] w).alloc _
  have hO : Off [b] w w2:=ha.trans (Off.of_below HB2.out [b])
  have hO2:=(((((((hO.setCell (p:=⟨b,0,none⟩) (.inl (by simp)) (.slice (some ⟨b0,o,none⟩) 0 0)).setCell (p:=⟨w.heap.size,0,none⟩) (.inr (Nat.le_refl _)) (.int .i64 tc)).setCell (p:=⟨w.heap.size,1,none⟩) (.inr (Nat.le_refl _)) (.bool tk)).setCell (p:=⟨w.heap.size,2,none⟩) (.inr (Nat.le_refl _)) (.int .i64 tt)).setCell (p:=⟨w.heap.size,3,none⟩) (.inr (Nat.le_refl _)) (.string tb)).setCell (p:=⟨w.heap.size,4,none⟩) (.inr (Nat.le_refl _)) (.slice kA tks.length kc)).alloc (.cells #[.int .i64 tc,.bool tk,.int .i64 tt,.string tb,.slice kA tks.length kc] 42))
  have HO2:=aa hO2
  have hB:=(((((((HBR.out.put 0 (.slice (some ⟨b0,o,none⟩) 0 0)).far (p:=⟨w.heap.size,0,none⟩) hs8 (.int .i64 tc)).far (p:=⟨w.heap.size,1,none⟩) hs8 (.bool tk)).far (p:=⟨w.heap.size,2,none⟩) hs8 (.int .i64 tt)).far (p:=⟨w.heap.size,3,none⟩) hs8 (.string tb)).far (p:=⟨w.heap.size,4,none⟩) hs8 (.slice kA tks.length kc)).alloc (.cells #[.int .i64 tc,.bool tk,.int .i64 tt,.string tb,.slice kA tks.length kc] 42))
  have HBF:=aa hB
  clear ha hO hO2 hB
  refine bodyPost_ret (v:=.tuple #[.agg #[.int .i64 tc,.bool tk,.int .i64 tt,.string tb,.slice kA tks.length kc],.bool true]) (by simp [results,Tryz.results43,go_sem,y0,y1,y2,y3,y4,hs3,hs7,hs8]) rfl ⟨HO2.out,.inr ⟨rfl,_,_,_,_,rfl,rfl,HBF.out,?_,?_⟩⟩
  ·exact TlAt.keep HO2.out.size (fun x hx hlt => HO2.out.block x hlt (by simpa using HNB.out x hx)) (fun _ h _ => h) _ _ HKT.out
  ·have h:=HR.out.tail
   rw [if_pos rfl,<- HN.out] at h
   exact h.keep HO2.out.size (fun x hx hlt => HO2.out.block x hlt (by simpa using HNB.out x hx)) (fun _ h _ => h)
 ·go_enter Tryz.func43,Tryz.ntmps43
  go_wp2_with (first
   | (go_at_call 39; refine (dK tc tt tk _ _ cls tag cons _).mono ?_; rw [HQ.out]; rintro e w2 ⟨rfl,hb2⟩; have HB2:=aa hb2; obtain ⟨hbr,hz,hcc,hs3,hs4⟩:=may_mid HB.out hS2 hb2; have HBR:=aa hbr; have HZ:=aa hz; obtain ⟨y0,y1,y2,y3,y4⟩:=hz.five; have f0:=hz.frozen 0; have f1:=hz.frozen 1; have f2:=hz.frozen 2; have f3:=hz.frozen 3; have f4:=hz.frozen 4; have e0 : w2.cell? ⟨b,0,none⟩ = some (.slice (some ⟨b0,o,none⟩) (n + 1) cap):=hbr.cell 0; have e1:=hbr.frozen 0; have q0':=(hcc _).trans q0; have q1':=(hcc _).trans q1; have q2':=(hcc _).trans q2; have q3':=(hcc _).trans q3; have q4':=(hcc _).trans q4; have hs5 : b < w2.heap.size:=(by omega); have hs6 : ¬ (b = w2.heap.size):=(by omega); have hs7 : ¬ (w.heap.size = b):=(by omega); have hs8 : ¬ (b = w.heap.size):=(by omega); clear hb2 hz hbr hcc)
   | fail)
  have ha : Off [b] w (w.alloc zTlv):=(Off.refl [b] w).alloc _
  have hO : Off [b] w w2:=ha.trans (Off.of_below HB2.out [b])
  have hO2:=(((((((hO.setCell (p:=⟨b,0,none⟩) (.inl (by simp)) (.slice (some ⟨b0,o + 5,none⟩) n (cap - 1))).setCell (p:=⟨w.heap.size,0,none⟩) (.inr (Nat.le_refl _)) (.int .i64 tc)).setCell (p:=⟨w.heap.size,1,none⟩) (.inr (Nat.le_refl _)) (.bool tk)).setCell (p:=⟨w.heap.size,2,none⟩) (.inr (Nat.le_refl _)) (.int .i64 tt)).setCell (p:=⟨w.heap.size,3,none⟩) (.inr (Nat.le_refl _)) (.string tb)).setCell (p:=⟨w.heap.size,4,none⟩) (.inr (Nat.le_refl _)) (.slice kA tks.length kc)).alloc (.cells #[.int .i64 tc,.bool tk,.int .i64 tt,.string tb,.slice kA tks.length kc] 42))
  have HO2:=aa hO2
  have hB:=(((((((HBR.out.put 0 (.slice (some ⟨b0,o + 5,none⟩) n (cap - 1))).far (p:=⟨w.heap.size,0,none⟩) hs8 (.int .i64 tc)).far (p:=⟨w.heap.size,1,none⟩) hs8 (.bool tk)).far (p:=⟨w.heap.size,2,none⟩) hs8 (.int .i64 tt)).far (p:=⟨w.heap.size,3,none⟩) hs8 (.string tb)).far (p:=⟨w.heap.size,4,none⟩) hs8 (.slice kA tks.length kc)).alloc (.cells #[.int .i64 tc,.bool tk,.int .i64 tt,.string tb,.slice kA tks.length kc] 42))
  have HBF:=aa hB
  clear ha hO hO2 hB
  refine bodyPost_ret (v:=.tuple #[.agg #[.int .i64 tc,.bool tk,.int .i64 tt,.string tb,.slice kA tks.length kc],.bool true]) (by simp [results,Tryz.results43,go_sem,y0,y1,y2,y3,y4,hs3,hs7,hs8]) rfl ⟨HO2.out,.inr ⟨rfl,_,_,_,_,rfl,rfl,HBF.out,?_,?_⟩⟩
  ·exact TlAt.keep HO2.out.size (fun x hx hlt => HO2.out.block x hlt (by simpa using HNB.out x hx)) (fun _ h _ => h) _ _ HKT.out
  ·have h:=HR.out.tail
   rw [if_neg hc1,<- HN.out] at h
   exact h.keep HO2.out.size (fun x hx hlt => HO2.out.block x hlt (by simpa using HNB.out x hx)) (fun _ h _ => h)
theorem may_any (b : Nat) (v : Value) (ks : List Tl) (S : Nat -> Prop) (cls tag : Int) (cons : Bool) (w : World) (hb : Bk w b 76 #[v]) (hr : TRow w S v ks) (hnb : ∀ x,S x -> x ≠ b) :
  Calls Tryz.prog 43 #[.pointer (some ⟨b,0,none⟩),.int .i64 cls,.int .i64 tag,.bool cons] w (MayPost b S ks v (bP ks cls tag cons) w):=by
 have hr0:=hr
 obtain ⟨A,cap,rfl,h1,h2,h3⟩:=hr
 cases ks with
 | nil => exact may_nil b A cap S cls tag cons w hb
 | cons k rest =>
  obtain ⟨b0,o,_,_,_,_,_,hA,_⟩:=h3 0 (by simp)
  subst hA
  cases hq : k.isB cls tag cons with
  | false => rw [show bP (k :: rest) cls tag cons = false from hq]; exact may_no b b0 o cap k rest S cls tag cons w hb hr0 hq
  | true => rw [show bP (k :: rest) cls tag cons = true from hq]; exact may_yes b b0 o cap k rest S cls tag cons w hb hr0 hq hnb
def bG (e : Ending) : Prop:=e = .panicked [{ v:=.iface 73 (.agg #[]),recovered:=false }]
def MustPost (b : Nat) (S : Nat -> Prop) (ks : List Tl) (q : Bool) (w : World) (e : Ending) (w' : World) : Prop :=
 Off [b] w w' /\ ((q = false /\ bG e) ∨
  (q = true /\ ∃ (k : Tl) (rest : List Tl) (cs : Array Value) (v' : Value),ks = k :: rest /\ e = .returned (.agg cs) /\ Bk w' b 76 #[v'] /\ TlAt w' S k cs /\ TRow w' S v' rest))
theorem em (b : Nat) (v : Value) (ks : List Tl) (S : Nat -> Prop) (cls tag : Int) (cons : Bool) (w : World) (hb : Bk w b 76 #[v]) (hr : TRow w S v ks) (hnb : ∀ x,S x -> x ≠ b) :
  Calls Tryz.prog 69 #[.pointer (some ⟨b,0,none⟩),.int .i64 cls,.int .i64 tag,.bool cons] w (MustPost b S ks (bP ks cls tag cons) w):=by
 have ha : Below w.heap.size w (w.alloc zTlv):=(Below.refl _ w).alloc (Nat.le_refl _) _
 have hr' : TRow w (fun x => S x /\ x < w.heap.size) v ks:=hr.keep (Nat.le_refl _) (fun _ _ _ => rfl) (fun _ h hl => ⟨h,hl⟩)
 have HM:=aa (may_any b v ks (fun x => S x /\ x < w.heap.size) cls tag cons (w.alloc zTlv) (hb.alloc _) (hr'.below ha) (fun x hx => hnb x hx.1))
 have HA : Hid (Off [b] w (w.alloc zTlv)):=(Off.refl [b] w).alloc _
 have hlt:=hb.lt
 have HNB:=aa hnb
 clear hb hr hr' hnb ha
 go_enter Tryz.func69,Tryz.ntmps69
 go_wp2_with fail
 (go_at_call 43)
 refine HM.out.mono ?_
 rintro e w2 ⟨ho,hcs⟩
 have HO:=aa ho
 clear ho
 rcases hcs with ⟨hq,rfl,hb2⟩ | ⟨hq,k,rest,cs,v',hks,rfl,hb2,ht,hr⟩
 ·have HQ:=aa hq
  have HB2:=aa hb2
  clear hb2 hq
  unfold flat
  go_wp2_with fail
  exact ⟨rfl,((HA.out.trans HO.out).alloc _),.inl ⟨HQ.out,rfl⟩⟩
 ·have HQ:=aa hq
  obtain ⟨x0,x1,x2,x3,xA,xn,xc,rfl⟩:=ak ht
  have HB2:=aa hb2
  have HT:=aa ht
  have HR:=aa hr
  have HK:=aa hks
  have hz:=(HO.out.bk (Bk.new w 42 #[.int .i64 0,.bool false,.int .i64 0,.string ⟨#[]⟩,.slice none 0 0]) (by simp; omega))
  have HZ:=aa hz
  obtain ⟨y0,y1,y2,y3,y4⟩:=hz.five
  have f0:=hz.frozen 0
  have f1:=hz.frozen 1
  have f2:=hz.frozen 2
  have f3:=hz.frozen 3
  have f4:=hz.frozen 4
  have hs3:=hz.lt
  clear hb2 hq ht hr hks hz
  have hs8 : ¬ (b = w.heap.size):=by omega
  have hO:=HA.out.trans HO.out
  have HO2:=aa ((((((hO.setCell (p:=⟨w.heap.size,0,none⟩) (.inr (Nat.le_refl _)) (.int .i64 x0)).setCell (p:=⟨w.heap.size,1,none⟩) (.inr (Nat.le_refl _)) (.bool x1)).setCell (p:=⟨w.heap.size,2,none⟩) (.inr (Nat.le_refl _)) (.int .i64 x2)).setCell (p:=⟨w.heap.size,3,none⟩) (.inr (Nat.le_refl _)) (.string x3)).setCell (p:=⟨w.heap.size,4,none⟩) (.inr (Nat.le_refl _)) (.slice xA xn xc)).alloc (.cells #[.int .i64 x0,.bool x1,.int .i64 x2,.string x3,.slice xA xn xc] 42))
  clear hO
  go_wp2_with fail
  have hX : ∀ x,(S x /\ x < w.heap.size) -> x < w2.heap.size -> ((((((w2.setCell ⟨w.heap.size,0,none⟩ (.int .i64 x0)).setCell ⟨w.heap.size,1,none⟩ (.bool x1)).setCell ⟨w.heap.size,2,none⟩ (.int .i64 x2)).setCell ⟨w.heap.size,3,none⟩ (.string x3)).setCell ⟨w.heap.size,4,none⟩ (.slice xA xn xc)).alloc (.cells #[.int .i64 x0,.bool x1,.int .i64 x2,.string x3,.slice xA xn xc] 42)).heap[x]? = w2.heap[x]?:=fun x hx hl =>
   ((((((Off.refl [w.heap.size] w2).setCell (.inl (by simp)) _).setCell (.inl (by simp)) _).setCell (.inl (by simp)) _).setCell (.inl (by simp)) _).setCell (.inl (by simp)) _).alloc _ |>.block x hl (by simp; omega)
  have hB:=(((((HB2.out.far (p:=⟨w.heap.size,0,none⟩) hs8 (.int .i64 x0)).far (p:=⟨w.heap.size,1,none⟩) hs8 (.bool x1)).far (p:=⟨w.heap.size,2,none⟩) hs8 (.int .i64 x2)).far (p:=⟨w.heap.size,3,none⟩) hs8 (.string x3)).far (p:=⟨w.heap.size,4,none⟩) hs8 (.slice xA xn xc)).alloc (.cells #[.int .i64 x0,.bool x1,.int .i64 x2,.string x3,.slice xA xn xc] 42)
  have HX:=aa hX
  have HBF:=aa hB
  clear hX hB
  refine bodyPost_ret (v:=.agg #[.int .i64 x0,.bool x1,.int .i64 x2,.string x3,.slice xA xn xc]) (by simp [results,Tryz.results69,go_sem,y0,y1,y2,y3,y4,hs3]) rfl ⟨HO2.out,.inr ⟨HQ.out,k,rest,_,v',HK.out,rfl,HBF.out,?_,?_⟩⟩
  ·exact TlAt.keep (by simp [World.setCell]) HX.out (fun _ h _ => h.1) _ _ HT.out
  ·exact HR.out.keep (by simp [World.setCell]) HX.out (fun _ h _ => h.1)
def EndPost (q : Bool) (w : World) (e : Ending) (w' : World) : Prop:=Off [] w w' /\ ((q = true /\ e = .returned (.tuple #[])) \/ (q = false /\ bG e))
theorem bw (b n : Nat) (A : Option Addr) (cap : Nat) (w : World) (hb : Bk w b 76 #[.slice A n cap]) :
  Calls Tryz.prog 45 #[.pointer (some ⟨b,0,none⟩)] w (EndPost (n == 0) w):=by
 have c0 : w.cell? ⟨b,0,none⟩ = some (.slice A n cap):=by simpa using hb.cell 0
 clear hb
 cases n with
 | zero =>
  go_enter Tryz.func45,Tryz.ntmps45
  go_wp2_with fail
  go_end0
  exact ⟨Off.refl _ _,.inl ⟨rfl,rfl⟩⟩
 | succ n =>
  have z1 : decide ((0 : Int) < (n : Int) + 1) = true:=ab (by omega)
  go_enter Tryz.func45,Tryz.ntmps45
  go_wp2_with fail
  exact ⟨rfl,Off.refl _ _,.inr ⟨rfl,rfl⟩⟩
def Tl.body : Tl -> ByteArray | .mk _ _ _ b _ => b
def Tl.kids : Tl -> List Tl | .mk _ _ _ _ ks => ks
def headP (cls tag : Int) (cons : Bool) : List Tl -> Option (Tl × List Tl)
 | [] => none
 | k :: rest => if k.isB cls tag cons then some (k,rest) else none
theorem dM {ks : List Tl} {cls tag : Int} {cons : Bool} (h : bP ks cls tag cons = false) : headP cls tag cons ks = none:=by
 cases ks with
 | nil => rfl
 | cons k rest => have h' : k.isB cls tag cons = false:=h; simp [headP,h']
theorem df {ks : List Tl} {k : Tl} {rest : List Tl} {cls tag : Int} {cons : Bool} (hk : ks = k :: rest) (h : bP ks cls tag cons = true) : headP cls tag cons ks = some (k,rest):=by
 subst hk
 have h' : k.isB cls tag cons = true:=h
 simp [headP,h']
def RdPost {α : Type} (b : Nat) (S : Nat -> Prop) (r : Option (α × List Tl)) (ret : α -> World -> Ending -> Prop) (w : World) (e : Ending) (w' : World) : Prop :=
 Off [b] w w' /\ ((r = none /\ bG e) \/ ∃ (a : α) (rest : List Tl) (v' : Value),r = some (a,rest) /\ ret a w' e /\ Bk w' b 76 #[v'] /\ TRow w' S v' rest)
theorem eZ (c t : Int) (k : Bool) (s : ByteArray) (l : Value) (W : World) : (Instr.field 42 (.agg #[.int .i64 c,.bool k,.int .i64 t,.string s,l]) 3).run Tryz.prog W = .ok (.string s) W:=by kernel_rfl
theorem eY (c t : Int) (k : Bool) (s l : Value) (W : World) : (Instr.field 42 (.agg #[.int .i64 c,.bool k,.int .i64 t,s,l]) 4).run Tryz.prog W = .ok l W:=by kernel_rfl
def bc (ks : List Tl) : Option (ByteArray × List Tl):=(headP 0 4 false ks).map fun p => (p.1.body,p.2)
def RetS (s : ByteArray) (_ : World) (e : Ending) : Prop:=s.size <= maxLen /\ e = .returned (.string s)
theorem aW (b : Nat) (v : Value) (ks : List Tl) (S : Nat -> Prop) (w : World) (hb : Bk w b 76 #[v]) (hr : TRow w S v ks) (hnb : ∀ x,S x -> x ≠ b) :
  Calls Tryz.prog 72 #[.pointer (some ⟨b,0,none⟩)] w (RdPost b S (bc ks) RetS w):=by
 have HM:=aa (em b v ks S 0 4 false w hb hr hnb)
 clear hb hr hnb
 go_enter Tryz.func72,Tryz.ntmps72
 go_wp2_with fail
 (go_at_call 69)
 refine HM.out.mono ?_
 rintro e w2 ⟨ho,hcs⟩
 have HO:=aa ho
 clear ho
 rcases hcs with ⟨hq,rfl⟩ | ⟨hq,k,rest,cs,v',hks,rfl,hb2,ht,hr⟩
 ·exact ⟨rfl,HO.out,.inl ⟨by simp [bc,dM hq],rfl⟩⟩
 ·obtain ⟨tc,tk,tt,tb,tks⟩:=k
  have HP:=aa (df hks hq)
  have HB2:=aa hb2
  have HR:=aa hr
  unfold TlAt at ht
  obtain ⟨kA,kc,rfl,-,-,-,hbm,-⟩:=ht
  have HBM:=aa hbm
  have hf:=eZ tc tt tk tb (.slice kA tks.length kc)
  clear hb2 hr hks hq hbm
  go_wp2_with fail
  go_ret
  exact ⟨HO.out,.inr ⟨tb,rest,v',by simp [bc,HP.out,Tl.body],⟨HBM.out,rfl⟩,HB2.out,HR.out⟩⟩
def dx (k : Bool) (s : ByteArray) (lo hi : Int) : Option Int:=if PB.isNum k s.data.toList = true /\ inB (PB.sgn s.data.toList) lo hi = true then some (PB.sgn s.data.toList) else none
def numP (tag lo hi : Int) (ks : List Tl) : Option (Int × List Tl):=(headP 0 tag false ks).bind fun p => (dx false p.1.body lo hi).map fun n => (n,p.2)
def RetI (n : Int) (_ : World) (e : Ending) : Prop:=e = .returned (.int .i64 n)
theorem fm {rest : List Tl} {c t : Int} {k : Bool} {s : ByteArray} {l : List Tl} {cls tag : Int} {cons : Bool} (h : bP (.mk c k t s l :: rest) cls tag cons = true) : c = cls /\ t = tag /\ k = cons:=by
 have h' : (c == cls && (t == tag && k == cons)) = true:=h
 simpa using h'
theorem dz (tag lo hi : Int) (b : Nat) (v : Value) (ks : List Tl) (S : Nat -> Prop) (w : World) (hb : Bk w b 76 #[v]) (hr : TRow w S v ks) (hnb : ∀ x,S x -> x ≠ b) :
  Calls Tryz.prog 41 #[.pointer (some ⟨b,0,none⟩),.int .i64 tag,.int .i64 lo,.int .i64 hi] w (RdPost b S (numP tag lo hi ks) RetI w):=by
 have HM:=aa (em b v ks S 0 tag false w hb hr hnb)
 clear hb hr hnb
 go_enter Tryz.func41,Tryz.ntmps41
 go_wp2_with fail
 (go_at_call 69)
 refine HM.out.mono ?_
 rintro e w2 ⟨ho,hcs⟩
 have HO:=aa ho
 clear ho
 rcases hcs with ⟨hq,rfl⟩ | ⟨hq,k,rest,cs,v',hks,rfl,hb2,ht,hr⟩
 ·exact ⟨rfl,HO.out,.inl ⟨by simp [numP,dM hq],rfl⟩⟩
 ·obtain ⟨tc,tk,tt,tb,tks⟩:=k
  have HP:=aa (df hks hq)
  subst hks
  obtain ⟨rfl,rfl,rfl⟩:=fm hq
  have HB2:=aa hb2
  have HR:=aa hr
  unfold TlAt at ht
  obtain ⟨kA,kc,rfl,-,-,-,hbm,-⟩:=ht
  clear hb2 hr hq
  cases hn : PB.isNum false tb.data.toList with
  | false =>
   have H2:=aa (number_no 0 tt false tb kA tks.length kc w2 hbm hn)
   have HN:=aa hn
   clear hn hbm
   go_wp2_with fail
   (go_at_call 68)
   refine H2.out.mono ?_
   rintro e w3 ⟨rfl,hb3⟩
   have HB3:=aa hb3
   clear hb3
   go_wp2_with fail
   exact ⟨rfl,HO.out.trans (Off.of_below HB3.out _),.inl ⟨by simp [numP,HP.out,dx,Tl.body,HN.out],rfl⟩⟩
  | true =>
   have H2:=aa (number_yes 0 tt tb kA tks.length kc w2 hn)
   have HN:=aa hn
   obtain ⟨z,hz⟩ : ∃ z,z = PB.sgn tb.data.toList:=⟨_,rfl⟩
   rw [<- hz] at H2
   have HZ:=aa hz
   clear hn hbm hz
   go_wp2_with fail
   (go_at_call 68)
   refine H2.out.mono ?_
   rintro e w3 ⟨rfl,hb3⟩
   have HB3:=aa hb3
   clear hb3
   have H3:=aa (bh z lo hi w3)
   go_wp2_with fail
   (go_at_call 30)
   refine H3.out.mono ?_
   cases hin : inB z lo hi with
   | false =>
    rintro e w4 ⟨rfl,rfl⟩
    have HI:=aa hin
    clear hin
    go_wp2_with fail
    exact ⟨rfl,HO.out.trans (Off.of_below HB3.out _),.inl ⟨by simp [numP,HP.out,dx,Tl.body,HN.out,<- HZ.out,HI.out],rfl⟩⟩
   | true =>
    rintro e w4 ⟨rfl,rfl⟩
    have HI:=aa hin
    clear hin
    go_wp2_with fail
    go_ret
    exact ⟨HO.out.trans (Off.of_below HB3.out _),.inr ⟨z,rest,v',by simp [numP,HP.out,dx,Tl.body,HN.out,<- HZ.out,HI.out],rfl,af HB2.out HB3.out,HR.out.below HB3.out⟩⟩
def dl (ks : List Tl) : Option (Bool × List Tl):=(headP 0 1 false ks).bind fun p => if (ef false p.1.body).2 = 0 then some ((ef false p.1.body).1,p.2) else none
def RetB (q : Bool) (_ : World) (e : Ending) : Prop:=e = .returned (.bool q)
theorem fJ (b : Nat) (v : Value) (ks : List Tl) (S : Nat -> Prop) (w : World) (hb : Bk w b 76 #[v]) (hr : TRow w S v ks) (hnb : ∀ x,S x -> x ≠ b) :
  Calls Tryz.prog 73 #[.pointer (some ⟨b,0,none⟩)] w (RdPost b S (dl ks) RetB w):=by
 have HM:=aa (em b v ks S 0 1 false w hb hr hnb)
 clear hb hr hnb
 go_enter Tryz.func73,Tryz.ntmps73
 go_wp2_with fail
 (go_at_call 69)
 refine HM.out.mono ?_
 rintro e w2 ⟨ho,hcs⟩
 have HO:=aa ho
 clear ho
 rcases hcs with ⟨hq,rfl⟩ | ⟨hq,k,rest,cs,v',hks,rfl,hb2,ht,hr⟩
 ·exact ⟨rfl,HO.out,.inl ⟨by simp [dl,dM hq],rfl⟩⟩
 ·obtain ⟨tc,tk,tt,tb,tks⟩:=k
  have HP:=aa (df hks hq)
  subst hks
  obtain ⟨rfl,rfl,rfl⟩:=fm hq
  have HB2:=aa hb2
  have HR:=aa hr
  unfold TlAt at ht
  obtain ⟨kA,kc,rfl,-,-,-,hbm,-⟩:=ht
  clear hb2 hr hq hbm
  have H2:=aa (bool_any 0 1 false tb kA tks.length kc w2)
  go_wp2_with fail
  (go_at_call 98)
  refine H2.out.mono ?_
  obtain ⟨q,er,hqe⟩ : ∃ q er,ef false tb = (q,er):=⟨_,_,rfl⟩
  have HQ:=aa hqe
  rw [hqe]
  clear hqe
  rintro e w3 ⟨rfl,hb3⟩
  have HB3:=aa hb3
  clear hb3
  by_cases h0 : er = 0
  ·subst h0
   go_wp2_with fail
   go_ret
   exact ⟨HO.out.trans (Off.of_below HB3.out _),.inr ⟨q,rest,v',by simp [dl,HP.out,Tl.body,HQ.out],rfl,af HB2.out HB3.out,HR.out.below HB3.out⟩⟩
  ·have h1 : (er != 0) = true:=by simpa using h0
   have h2:=aa h0
   clear h0
   go_wp2_with fail
   exact ⟨rfl,HO.out.trans (Off.of_below HB3.out _),.inl ⟨by simp [dl,HP.out,Tl.body,HQ.out,h2.out],rfl⟩⟩
def aZ (tag : Int) (ks : List Tl) : Option (List Tl × List Tl):=(headP 0 tag true ks).map fun p => (p.1.kids,p.2)
def RetR (S : Nat -> Prop) (B : Nat) (ks : List Tl) (w' : World) (e : Ending) : Prop:=∃ (c : Nat) (v : Value),e = .returned (.pointer (some ⟨c,0,none⟩)) /\ B <= c /\ Bk w' c 76 #[v] /\ TRow w' S v ks
theorem bA (tag : Int) (b : Nat) (v : Value) (ks : List Tl) (S : Nat -> Prop) (w : World) (hb : Bk w b 76 #[v]) (hr : TRow w S v ks) (hnb : ∀ x,S x -> x ≠ b) :
  Calls Tryz.prog 71 #[.pointer (some ⟨b,0,none⟩),.int .i64 tag] w (RdPost b S (aZ tag ks) (RetR S w.heap.size) w):=by
 have HM:=aa (em b v ks S 0 tag true w hb hr hnb)
 clear hb hr hnb
 go_enter Tryz.func71,Tryz.ntmps71
 go_wp2_with fail
 (go_at_call 69)
 refine HM.out.mono ?_
 rintro e w2 ⟨ho,hcs⟩
 have HO:=aa ho
 clear ho
 rcases hcs with ⟨hq,rfl⟩ | ⟨hq,k,rest,cs,v',hks,rfl,hb2,ht,hr⟩
 ·exact ⟨rfl,HO.out,.inl ⟨by simp [aZ,dM hq],rfl⟩⟩
 ·obtain ⟨tc,tk,tt,tb,tks⟩:=k
  have HP:=aa (df hks hq)
  have HB2:=aa hb2
  have HR:=aa hr
  unfold TlAt at ht
  obtain ⟨kA,kc,rfl,hl,-,-,-,hkk⟩:=ht
  have HK:=aa (TRow.of_kids hl hkk)
  have hf:=eY tc tt tk (.string tb) (.slice kA tks.length kc)
  clear hb2 hr hks hq hl hkk
  go_wp2_with fail
  go_ret
  have ha : Below w2.heap.size w2 (w2.alloc (.cells #[.slice kA tks.length kc] 76)):=(Below.refl _ w2).alloc (Nat.le_refl _) _
  exact ⟨HO.out.alloc _,.inr ⟨tks,rest,v',by simp [aZ,HP.out,Tl.kids],⟨w2.heap.size,_,rfl,HO.out.size,Bk.new _ _ _,HK.out.below ha⟩,HB2.out.alloc _,HR.out.below ha⟩⟩
end Go.Proofs.YtbiglfpikfjbpaaGreatDoor
