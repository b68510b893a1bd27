import Derived.Test.YtbiglfpikfjbpaaGreatDoorM11
import Derived.Test.YtbiglfpikfjbpaaGreatDoorM17
namespace Go.Proofs.YtbiglfpikfjbpaaGreatDoor
open Go.RowKit
open Go.PlainAid
set_option maxRecDepth 100000
set_option linter.unusedVariables false
set_option linter.unusedSimpArgs false
set_option maxHeartbeats 40000000
theorem rlength_any (n : Nat) (w : World) (hn : n < 16777216) : Calls Tryz.prog 61 #[.int .i64 n] w (RowPost (PB.lenB n) w):=by
 unfold PB.lenB
 by_cases h1 : n < 128
 ·rw [if_pos h1]
  have hown:=World.ownsRow_lit (base:=w.heap.size) (e:=5) (size:=1) w #[.int .u8 n] 1 (Nat.le_refl _) (by unfold maxLen; omega) rfl
  have e : (#[Value.int .u8 n]).toList = u8s [UInt8.ofNat n]:=by simp [u8s]; omega
  rw [e] at hown
  have HO:=aa hown
  clear hown e
  go_enter Tryz.func61,Tryz.ntmps61
  go_wp2_with fail
  go_ret
  exact ⟨_,rfl,HO.out,(Below.refl _ _).alloc (Nat.le_refl _) _⟩
 rw [if_neg h1]
 by_cases h2 : n < 256
 ·rw [if_pos h2]
  have hown:=World.ownsRow_lit (base:=w.heap.size) (e:=5) (size:=1) w #[.int .u8 129,.int .u8 n] 2 (Nat.le_refl _) (by unfold maxLen; omega) rfl
  have e : (#[Value.int .u8 129,Value.int .u8 n]).toList = u8s [129,UInt8.ofNat n]:=by simp [u8s]; omega
  rw [e] at hown
  have HO:=aa hown
  clear hown e
  go_enter Tryz.func61,Tryz.ntmps61
  go_wp2_with fail
  go_ret
  exact ⟨_,rfl,HO.out,(Below.refl _ _).alloc (Nat.le_refl _) _⟩
 rw [if_neg h2]
 have g0 : 0 <= (n : Int):=by omega
 have t1 : decide ((n : Int) < 128) = false:=by simp; omega
 have t2 : decide ((n : Int) < 256) = false:=by simp; omega
 by_cases h3 : n < 65536
 ·rw [if_pos h3]
  have hown:=World.ownsRow_lit (base:=w.heap.size) (e:=5) (size:=1) w #[.int .u8 130,.int .u8 ((n : Int) / 256),.int .u8 ((n : Int) % 256)] 3 (Nat.le_refl _) (by unfold maxLen; omega) rfl
  have e : (#[Value.int .u8 130,.int .u8 ((n : Int) / 256),.int .u8 ((n : Int) % 256)]).toList = u8s [130,UInt8.ofNat (n / 256),UInt8.ofNat (n % 256)]:=by simp [u8s]; omega
  rw [e] at hown
  have HO:=aa hown
  have t3 : decide ((n : Int) < 65536) = true:=by simp; omega
  have e0 : 0 <= (n : Int) / 256:=by omega
  have e1 : (n : Int) / 256 < 256:=by omega
  have e2 : 0 <= (n : Int) % 256:=by omega
  have e3 : (n : Int) % 256 < 256:=by omega
  clear hown e h1 h2 h3 hn
  generalize (n : Int) = z at *
  go_enter Tryz.func61,Tryz.ntmps61
  go_wp2_with fail
  go_ret
  exact ⟨_,rfl,HO.out,(Below.refl _ _).alloc (Nat.le_refl _) _⟩
 rw [if_neg h3]
 ·have hown:=World.ownsRow_lit (base:=w.heap.size) (e:=5) (size:=1) w #[.int .u8 131,.int .u8 ((n : Int) / 65536),.int .u8 ((n : Int) / 256 % 256),.int .u8 ((n : Int) % 256)] 4 (Nat.le_refl _) (by unfold maxLen; omega) rfl
  have e : (#[Value.int .u8 131,.int .u8 ((n : Int) / 65536),.int .u8 ((n : Int) / 256 % 256),.int .u8 ((n : Int) % 256)]).toList = u8s [131,UInt8.ofNat (n / 65536),UInt8.ofNat (n / 256 % 256),UInt8.ofNat (n % 256)]:=by simp [u8s]; omega
  rw [e] at hown
  have HO:=aa hown
  have t3 : decide ((n : Int) < 65536) = false:=by simp; omega
  have e0 : 0 <= (n : Int) / 65536:=by omega
  have e1 : (n : Int) / 65536 < 256:=by omega
  have e2 : 0 <= (n : Int) / 256:=by omega
  have e3 : 0 <= (n : Int) / 256 % 256:=by omega
  have e4 : (n : Int) / 256 % 256 < 256:=by omega
  have e5 : 0 <= (n : Int) % 256:=by omega
  have e6 : (n : Int) % 256 < 256:=by omega
  clear hown e h1 h2 h3 hn
  generalize (n : Int) = z at *
  go_enter Tryz.func61,Tryz.ntmps61
  go_wp2_with fail
  go_ret
  exact ⟨_,rfl,HO.out,(Below.refl _ _).alloc (Nat.le_refl _) _⟩
def RefS (l : List UInt8) (w : World) (e : Ending) (w' : World) : Prop:=Below w.heap.size w w' /\ ∃ s : ByteArray,e = .returned (.string s) /\ s.data.toList = l
def tlvB (x : UInt8) (l : List UInt8) : List UInt8:=x :: (PB.lenB l.length ++ l)
def bl (c : Nat) (k : Bool) (g : Nat) : UInt8:=if k then UInt8.ofNat (c * 64 + g + 32) else UInt8.ofNat (c * 64 + g)
theorem dU {w w3 : World} {v3 : Value} {z : Int} {x : UInt8} {L : List UInt8} (hx : z = (x.toNat : Int)) (h : w3.ownsRow w.heap.size 5 1 v3 (1 + L.length) ([.int .u8 z] ++ u8s L)) :
  ∃ g c,v3 = .slice (some ⟨g,0,none⟩) (1 + L.length) c /\ (convert 90 9 (.slice (some ⟨g,0,none⟩) (1 + L.length) c)).run Tryz.prog w3 = .ok (.string ⟨(x :: L).toArray⟩) w3:=by
 obtain ⟨g,c,rfl,-,-⟩:=h.form (by omega)
 refine ⟨g,c,rfl,?_⟩
 have e : 1 + L.length = (x :: L).length:=by rw [List.length_cons]; omega
 have e2 : [Value.int .u8 z] ++ u8s L = u8s (x :: L):=by rw [hx]; rfl
 rw [e,e2] at h
 rw [e]
 exact cR h
theorem dq (c : Nat) (k : Bool) (g : Nat) (b : ByteArray) (w : World) (hc : c <= 3) (hg : g <= 30) (hb : b.size < 16777216) :
  Calls Tryz.prog 29 #[.int .i64 c,.bool k,.int .i64 g,.string b] w (RefS (tlvB (bl c k g) b.data.toList) w):=by
 obtain ⟨i0,hi,hz0,hz1,hz2⟩:=info_parts info_u8
 have HL:=aa fun W : World => rlength_any b.size W hb
 obtain ⟨x,hx⟩ : ∃ x,x = bl c k g:=⟨_,rfl⟩
 have hln:=PB.lenB_len b.size
 have E9:=aa (show (PB.lenB b.size) = PB.lenB b.data.toList.length from rfl)
 rw [<- hx]
 have hzz : ¬ 9223372036854775807 < (⟨(x :: PB.lenB b.size).toArray⟩ : ByteArray).size + b.size:=by
  have e : (⟨(x :: PB.lenB b.size).toArray⟩ : ByteArray).size = (x :: PB.lenB b.size).length:=rfl
  rw [e,List.length_cons]; omega
 have HFIN:=aa (show ((⟨(x :: PB.lenB b.size).toArray⟩ : ByteArray) ++ b).data.toList = tlvB x b.data.toList by rw [aP]; rfl)
 cases k with
 | false =>
  have hxv : (64 * (c : Int) + g : Int) = (x.toNat : Int):=by rw [hx,bl,if_neg (by decide),PB.u8_ofNat (by omega)]; omega
  have HO:=aa (World.ownsRow_lit (base:=w.heap.size) (e:=5) (size:=1) w #[.int .u8 (64 * (c : Int) + g)] 1 (Nat.le_refl _) (by unfold maxLen; omega) rfl)
  have HX:=aa hxv
  clear hx hxv
  go_enter Tryz.func29,Tryz.ntmps29
  go_wp2_with (first
   | (go_at_call 61; refine (HL.out _).mono ?_; rintro e w2 ⟨v2,rfl,hrow2,hb2⟩; obtain ⟨A3,c3,rfl,-,-,-,hsl2,-⟩:=cx hrow2; have hw2:=hb2.size; have ho2:=(Off.of_below hb2 []).own HO.out (by simp); have hbw2:=((Below.refl w.heap.size w).alloc (Nat.le_refl _) (.cells #[.int .u8 (64 * (c : Int) + g)] 5)).trans (hb2.mono (by simp)); have hbs:=hbw2.size)
   | (at_builtin; refine aC _ rfl (.tmp 21) (.tmp 24) 90 rfl w.heap.size 5 i0 (.int .u8 0) 1 Tryz.underlying90 hi hz0 hz1 hz2 rfl _ _ _ rfl ho2 _ _ _ _ (cj _) rfl hsl2 (bN _) (by unfold maxLen; omega) (by omega) hbs ?_; intro v3 w3 hown3 hgr3 _; have HB3:=aa (hbw2.grown hgr3 hbs (fun k hk => (ho2.lt k hk).1)); obtain ⟨gq,c9,rfl,hconv⟩:=dU HX.out hown3; clear hgr3 hown3 hbw2 ho2 hrow2 hsl2 hb2)
   | fail)
  go_ret
  exact ⟨HB3.out,_,rfl,HFIN.out⟩
 | true =>
  have hxv : (64 * (c : Int) + g + 32 : Int) = (x.toNat : Int):=by rw [hx,bl,if_pos rfl,PB.u8_ofNat (by omega)]; omega
  have HO:=aa (World.ownsRow_lit (base:=w.heap.size) (e:=5) (size:=1) w #[.int .u8 (64 * (c : Int) + g + 32)] 1 (Nat.le_refl _) (by unfold maxLen; omega) rfl)
  have HX:=aa hxv
  clear hx hxv
  go_enter Tryz.func29,Tryz.ntmps29
  go_wp2_with (first
   | (go_at_call 61; refine (HL.out _).mono ?_; rintro e w2 ⟨v2,rfl,hrow2,hb2⟩; obtain ⟨A3,c3,rfl,-,-,-,hsl2,-⟩:=cx hrow2; have hw2:=hb2.size; have ho2:=(Off.of_below hb2 []).own HO.out (by simp); have hbw2:=((Below.refl w.heap.size w).alloc (Nat.le_refl _) (.cells #[.int .u8 (64 * (c : Int) + g + 32)] 5)).trans (hb2.mono (by simp)); have hbs:=hbw2.size)
   | (at_builtin; refine aC _ rfl (.tmp 21) (.tmp 24) 90 rfl w.heap.size 5 i0 (.int .u8 0) 1 Tryz.underlying90 hi hz0 hz1 hz2 rfl _ _ _ rfl ho2 _ _ _ _ (cj _) rfl hsl2 (bN _) (by unfold maxLen; omega) (by omega) hbs ?_; intro v3 w3 hown3 hgr3 _; have HB3:=aa (hbw2.grown hgr3 hbs (fun k hk => (ho2.lt k hk).1)); obtain ⟨gq,c9,rfl,hconv⟩:=dU HX.out hown3; clear hgr3 hown3 hbw2 ho2 hrow2 hsl2 hb2)
   | fail)
  go_ret
  exact ⟨HB3.out,_,rfl,HFIN.out⟩
def BAt (n : Nat) (l : List UInt8) (z : Nat) : Prop:=(l = [] /\ z = n) \/ (1 <= l.length /\ l.length <= 8 /\ PB.OfAt n l z /\ (l.length = 1 \/ 1 <= z))
theorem BAt.next {n : Nat} {l : List UInt8} {z : Nat} (hn : n < 2147483648) (h : BAt n l z) (hz : 256 <= z \/ l = []) : BAt n (PB.low z :: l) (z / 256):=by
 rcases h with ⟨rfl,rfl⟩ | ⟨h1,h2,h3,h4⟩
 ·refine Or.inr ⟨by simp,by simp,?_,Or.inl rfl⟩
  rw [show ((z / 256 : Nat) : Int) = (z : Int) / 256 from by omega]
  exact PB.OfAt.start (z : Int)
 ·rcases hz with hz | rfl
  ·have hs : ¬ PB.enough l (z : Int):=by unfold PB.enough; omega
   have h5:=h3.next (by omega) (by omega) hs
   have e : ((z / 256 : Nat) : Int) = (z : Int) / 256:=by omega
   exact Or.inr ⟨by simp,h5.2.1,by rw [e]; exact h5,by simp; omega⟩
  ·simp at h1
theorem BAt.end {n : Nat} {l : List UInt8} {z : Nat} (hn : n < 2147483648) (h : BAt n l z) (h1 : l ≠ []) (hz : z < 256) :
  (z = 0 -> PB.OfAt n l 0 /\ (l.length <= 1)) /\ (0 < z -> PB.OfAt n (PB.low z :: l) 0 /\ PB.byt (PB.low z :: l) 0 ≠ 0):=by
 rcases h with ⟨rfl,_⟩ | ⟨a1,a2,a3,a4⟩
 ·exact absurd rfl h1
 refine ⟨fun h0 => ?_,fun h0 => ?_⟩
 ·subst h0
  exact ⟨a3,by omega⟩
 ·have hs : ¬ PB.enough l (z : Int):=by unfold PB.enough; omega
  have h5:=a3.next (by omega) (by omega) hs
  rw [show (z : Int) / 256 = 0 by omega] at h5
  refine ⟨h5,?_⟩
  have hb0 : PB.byt (PB.low z :: l) 0 = (PB.low z).toNat:=rfl
  have:=PB.low_val (z : Int)
  rw [hb0]; omega
theorem ofNum_end {n : Nat} {l : List UInt8} (hn : n < 2147483648) (h : PB.OfAt n l 0) : (PB.byt l 0 < 128 -> l = PB.ofNum n) /\ (128 <= PB.byt l 0 -> (0 : UInt8) :: l = PB.ofNum n):=by
 refine ⟨fun h0 => ?_,fun h0 => ?_⟩
 ·exact (h.done (Or.inl ⟨rfl,h0⟩)).2.2
 ·have hs : ¬ PB.enough l 0:=by unfold PB.enough; omega
  have h5:=h.next (by omega) (by omega) hs
  have e : PB.low 0 = 0:=by decide
  rw [e] at h5
  exact (h5.done (Or.inl ⟨rfl,by show (0 : UInt8).toNat < 128; decide⟩)).2.2
def lenOf : Value -> Nat
 | .slice _ n _ => n
 | _ => 0
theorem own_low {w4 : World} {B : Nat} {v4 : Value} {k : Nat} {l : List UInt8} (h : w4.ownsRow B 5 1 v4 (1 + l.length) (#[Value.int .u8 ((k : Int) % 256)].toList ++ u8s l)) : w4.ownsRow B 5 1 v4 (PB.low k :: l).length (u8s (PB.low k :: l)):=by
 have e : 1 + l.length = (PB.low (k : Int) :: l).length:=by rw [List.length_cons]; omega
 have e2 : #[Value.int .u8 ((k : Int) % 256)].toList ++ u8s l = u8s (PB.low k :: l):=by rw [<- PB.low_val]; rfl
 rw [e,e2] at h
 exact h
theorem own_head {w3 : World} {g c : Nat} {z : Int} {x : UInt8} {L : List UInt8} {B : Nat} (hx : z = (x.toNat : Int)) (h : w3.ownsRow B 5 1 (.slice (some ⟨g,0,none⟩) (1 + L.length) c) (1 + L.length) ([.int .u8 z] ++ u8s L)) :
  w3.ownsRow B 5 1 (.slice (some ⟨g,0,none⟩) (1 + L.length) c) (x :: L).length (u8s (x :: L)) /\ Sl w3 (some ⟨g,0,none⟩) (u8s (x :: L)):=by
 have e : 1 + L.length = (x :: L).length:=by rw [List.length_cons]; omega
 have e2 : [Value.int .u8 z] ++ u8s L = u8s (x :: L):=by rw [hx]; rfl
 rw [e2] at h
 have h2 : w3.ownsRow B 5 1 (.slice (some ⟨g,0,none⟩) (1 + L.length) c) (x :: L).length (u8s (x :: L)):=by rw [e] at h |-; exact h
 refine ⟨h2,?_⟩
 obtain ⟨A,c2,e3,_,_,_,hs,_⟩:=cx h
 injection e3 with e3
 rw [e3]
 exact hs
theorem head_conv2 {w3 : World} {B : Nat} {v3 : Value} {x : UInt8} {L : List UInt8} (h : w3.ownsRow B 5 1 v3 (1 + (1 + L.length)) ([.int .u8 0] ++ u8s (x :: L))) :
  ∃ g c,v3 = .slice (some ⟨g,0,none⟩) (1 + (1 + L.length)) c /\ (convert 90 9 (.slice (some ⟨g,0,none⟩) (1 + (1 + L.length)) c)).run Tryz.prog w3 = .ok (.string ⟨(0 :: x :: L).toArray⟩) w3:=by
 obtain ⟨g,c,rfl,-,-⟩:=h.form (by omega)
 refine ⟨g,c,rfl,?_⟩
 have e : 1 + (1 + L.length) = (0 :: x :: L).length:=by rw [List.length_cons,List.length_cons]; omega
 have e2 : [Value.int .u8 0] ++ u8s (x :: L) = u8s (0 :: x :: L):=rfl
 rw [e,e2] at h
 rw [e]
 exact cR h
theorem rbytesN_any (n : Nat) (w : World) (hn : n < 2147483648) : Calls Tryz.prog 56 #[.int .i64 n] w (RefS (PB.ofNum n) w):=by
 obtain ⟨i0,hi,hz0,hz1,hz2⟩:=info_parts info_u8
 go_enter Tryz.func56,Tryz.ntmps56
 go_wp2_with fail
 go_loopw [0,3] (fun z v wr => ∃ (k : Nat) (l : List UInt8),z = .int .i64 k /\ k <= n /\ BAt n l k /\ wr.ownsRow w.heap.size 5 1 v l.length (u8s l) /\ Below w.heap.size w wr) (fun z v _ => (intOf z).toNat * 2 + (1 - lenOf v))
 case atStart => exact ⟨n,[],rfl,Nat.le_refl _,Or.inl ⟨rfl,rfl⟩,World.ownsRow_lit (base:=w.heap.size) (e:=5) (size:=1) w #[] 0 (Nat.le_refl _) (by unfold maxLen; omega) rfl,(Below.refl _ _).alloc (Nat.le_refl _) _⟩
 case round =>
  obtain ⟨k,l,rfl,hkn,hat,hown,hbw⟩:=hrel
  obtain ⟨A3,c3,rfl,-,-,-,hsl,-⟩:=cx hown
  have hlm : l.length <= 8:=by rcases hat with ⟨rfl,_⟩ | ⟨_,h,_⟩ <;> simp_all
  have HBW:=aa hbw
  have hws:=hbw.size
  have HAT:=aa hat
  have HOWN:=aa hown
  clear hbw hat hown
  by_cases hgo : 256 <= k \/ (k < 256 /\ l = [])
  ·have HN:=aa (HAT.out.next hn (hgo.imp id And.right))
   have HO3:=aa (World.ownsRow_lit (base:=w.heap.size) (e:=5) (size:=1) wr #[.int .u8 ((k : Int) % 256)] 1 hws (by unfold maxLen; omega) rfl)
   have HS3:=aa (hsl.below ((Below.refl wr.heap.size wr).alloc (Nat.le_refl _) (.cells #[.int .u8 ((k : Int) % 256)] 5)))
   have hb2 : Below w.heap.size w (wr.alloc (.cells #[.int .u8 ((k : Int) % 256)] 5)):=HBW.out.alloc hws _
   have HB3:=aa hb2
   clear hsl hb2
   rcases hgo with hk | ⟨hk,rfl⟩
   ·go_wp2_with (first
     | (at_builtin; refine aC _ rfl (.tmp 15) (.tmp 16) 90 rfl w.heap.size 5 i0 (.int .u8 0) 1 Tryz.underlying90 hi hz0 hz1 hz2 rfl _ _ _ rfl HO3.out _ _ _ _ (cj _) rfl HS3.out (bN _) (by unfold maxLen; omega) (by omega) HB3.out.size ?_; intro v4 w4 hown4 hgr4 _; have hb4:=HB3.out.grown hgr4 HB3.out.size (fun k hk => (HO3.out.lt k hk).1); obtain ⟨A4,c4,rfl,-,-,-,hsl4,-⟩:=cx hown4; have hown5:=own_low hown4; clear hgr4 hown4)
     | fail)
    go_roundw
    case rel => exact ⟨k / 256,_,by simp,by omega,HN.out,hown5,hb4⟩
    case measure =>
     have e : ((k : Int) / 256).toNat = k / 256:=by omega
     simp only [intOf,lenOf,Int.toNat_natCast,e]
     omega
   ·go_wp2_with (first
     | (at_builtin; refine aC _ rfl (.tmp 15) (.tmp 16) 90 rfl w.heap.size 5 i0 (.int .u8 0) 1 Tryz.underlying90 hi hz0 hz1 hz2 rfl _ _ _ rfl HO3.out _ _ _ _ (cj _) rfl HS3.out (bN _) (by unfold maxLen; omega) (by simp) HB3.out.size ?_; intro v4 w4 hown4 hgr4 _; have hb4:=HB3.out.grown hgr4 HB3.out.size (fun k hk => (HO3.out.lt k hk).1); obtain ⟨A4,c4,rfl,-,-,-,hsl4,-⟩:=cx hown4; have hown5:=own_low hown4; clear hgr4 hown4)
     | fail)
    go_roundw
    case rel => exact ⟨k / 256,_,by simp,by omega,HN.out,hown5,hb4⟩
    case measure =>
     have e : ((k : Int) / 256).toNat = k / 256:=by omega
     simp only [intOf,lenOf,Int.toNat_natCast,e]
     simp
     omega
  ·have hkk : k < 256:=by omega
   have hne : l ≠ []:=fun e => hgo (Or.inr ⟨hkk,e⟩)
   have hlp : 0 < l.length:=List.length_pos_iff.2 hne
   have HE:=aa (HAT.out.end hn hne hkk)
   obtain ⟨g3,c3b,e3,-,-⟩:=HOWN.out.form hlp
   injection e3 with e3 _ e4
   subst e3
   subst e4
   rcases (show k = 0 \/ 0 < k by omega) with hk0 | hk0
   ·obtain ⟨h1,h2⟩:=HE.out.1 hk0
    obtain ⟨x,rfl⟩ : ∃ x,l = [x]:=by
     match l,hlp,h2 with
     | [x],_,_ => exact ⟨x,rfl⟩
    have hc3 : wr.cell? ⟨g3,0,none⟩ = some (.int .u8 x.toNat):=HOWN.out.cellAt 0 (by simp)
    have HEND:=aa (ofNum_end hn h1)
    by_cases hx : x.toNat < 128
    ·have t1 : decide (128 <= (x.toNat : Int)) = false:=ae (by omega)
     have hconv : (convert 90 9 (.slice (some ⟨g3,0,none⟩) 1 c3)).run Tryz.prog wr = .ok (.string ⟨[x].toArray⟩) wr:=cR HOWN.out
     clear HE h1 h2
     go_wp2_with fail
     go_ret
     exact ⟨HBW.out,_,rfl,HEND.out.1 hx⟩
    ·have t1 : decide (128 <= (x.toNat : Int)) = true:=ab (by omega)
     have HO3:=aa (World.ownsRow_lit (base:=w.heap.size) (e:=5) (size:=1) wr #[.int .u8 0] 1 hws (by unfold maxLen; omega) rfl)
     have HS3:=aa (hsl.below ((Below.refl wr.heap.size wr).alloc (Nat.le_refl _) (.cells #[.int .u8 0] 5)))
     have HB3:=aa (HBW.out.alloc hws (.cells #[.int .u8 0] 5))
     clear HE h1 h2
     go_wp2_with (first
      | (at_builtin; refine aC _ rfl (.tmp 42) (.tmp 43) 90 rfl w.heap.size 5 i0 (.int .u8 0) 1 Tryz.underlying90 hi hz0 hz1 hz2 rfl _ _ _ rfl HO3.out _ _ _ (u8s ([x])) (cj _) rfl HS3.out (bN _) (by unfold maxLen; omega) (by simp) HB3.out.size ?_; intro v9 w9 hown9 hgr9 _; have HB9:=aa (HB3.out.grown hgr9 HB3.out.size (fun k hk => (HO3.out.lt k hk).1)); obtain ⟨g9,c9,rfl,hconv0⟩:=dU (z:=0) (x:=0) rfl hown9; have hconv : (convert 90 9 (.slice (some ⟨g9,0,none⟩) 2 c9)).run Tryz.prog w9 = .ok (.string ⟨(0 :: [x]).toArray⟩) w9:=hconv0; clear hgr9 hown9 hconv0)
      | fail)
     go_ret
     exact ⟨HB9.out,_,rfl,HEND.out.2 (show 128 <= x.toNat by omega)⟩
   ·obtain ⟨h1,h2⟩:=HE.out.2 hk0
    have HEND:=aa (ofNum_end hn h1)
    have hlow:=PB.low_val k
    obtain ⟨x,hx⟩ : ∃ x,x = PB.low k:=⟨_,rfl⟩
    rw [<- hx] at HEND hlow
    have HX:=aa hx
    have hkx : (x.toNat : Int) = k:=by omega
    have HO3:=aa (World.ownsRow_lit (base:=w.heap.size) (e:=5) (size:=1) wr #[.int .u8 k] 1 hws (by unfold maxLen; omega) rfl)
    have HS3:=aa (hsl.below ((Below.refl wr.heap.size wr).alloc (Nat.le_refl _) (.cells #[.int .u8 k] 5)))
    have HB3:=aa (HBW.out.alloc hws (.cells #[.int .u8 k] 5))
    have HKX:=aa hkx
    clear HE h1 h2 hx hlow hkx
    have hx0 : ((k : Int) == 0) = false:=by simp; omega
    have hl0 : ((l.length : Int) == 0) = false:=by simp; omega
    have h256 : decide (256 <= (k : Int)) = false:=ae (by omega)
    have HWS:=aa hws
    by_cases hx : (k : Int) < 128
    ·have t1 : decide (128 <= (k : Int)) = false:=ae (by omega)
     go_wp2_with (first
      | (at_builtin; refine aC _ rfl (.tmp 24) (.tmp 25) 90 rfl w.heap.size 5 i0 (.int .u8 0) 1 Tryz.underlying90 hi hz0 hz1 hz2 rfl _ _ _ rfl HO3.out _ _ _ (u8s (l)) (cj _) rfl HS3.out (bN _) (by unfold maxLen; omega) (by omega) HB3.out.size ?_; intro v8 w8 hown8 hgr8 _; have HB8:=aa (HB3.out.grown hgr8 HB3.out.size (fun k hk => (HO3.out.lt k hk).1)); obtain ⟨g8,c8,rfl,hconv⟩:=dU HKX.out.symm hown8; have hc8 : w8.cell? ⟨g8,0,none⟩ = some (.int .u8 k):=hown8.cellAt 0 (by omega); obtain ⟨hown8b,hsl8⟩:=own_head HKX.out.symm hown8; have HW8:=aa hown8b; clear hgr8 hown8 hown8b)
      | fail)
     go_ret
     exact ⟨HB8.out,_,rfl,by rw [HX.out]; exact HX.out ▸ HEND.out.1 (show x.toNat < 128 by have:=HKX.out; omega)⟩
    ·have t1 : decide (128 <= (k : Int)) = true:=ab (by omega)
     go_wp2_with (first
      | (at_builtin; refine aC _ rfl (.tmp 24) (.tmp 25) 90 rfl w.heap.size 5 i0 (.int .u8 0) 1 Tryz.underlying90 hi hz0 hz1 hz2 rfl _ _ _ rfl HO3.out _ _ _ (u8s (l)) (cj _) rfl HS3.out (bN _) (by unfold maxLen; omega) (by omega) HB3.out.size ?_; intro v8 w8 hown8 hgr8 _; have HB8:=aa (HB3.out.grown hgr8 HB3.out.size (fun k hk => (HO3.out.lt k hk).1)); obtain ⟨g8,c8,rfl,hconv⟩:=dU HKX.out.symm hown8; have hc8 : w8.cell? ⟨g8,0,none⟩ = some (.int .u8 k):=hown8.cellAt 0 (by omega); obtain ⟨hown8b,hsl8⟩:=own_head HKX.out.symm hown8; have HW8:=aa hown8b; clear hgr8 hown8 hown8b)
      | (at_builtin; have HO4:=aa (World.ownsRow_lit (base:=w.heap.size) (e:=5) (size:=1) w8 #[.int .u8 0] 1 HB8.out.size (by unfold maxLen; omega) rfl); have HS4:=aa (hsl8.below ((Below.refl w8.heap.size w8).alloc (Nat.le_refl _) (.cells #[.int .u8 0] 5))); have HB4:=aa (HB8.out.alloc HB8.out.size (.cells #[.int .u8 0] 5)); refine aC _ rfl (.tmp 42) (.tmp 43) 90 rfl w.heap.size 5 i0 (.int .u8 0) 1 Tryz.underlying90 hi hz0 hz1 hz2 rfl _ _ _ rfl HO4.out _ _ _ (u8s (x :: l)) (by rw [cj,List.length_cons]; omega) rfl HS4.out (bN _) (by unfold maxLen; omega) (by omega) HB4.out.size ?_; intro v9 w9 hown9 hgr9 _; have HB9:=aa (HB4.out.grown hgr9 HB4.out.size (fun k hk => (HO4.out.lt k hk).1)); obtain ⟨g9,c9,rfl,hconv9⟩:=head_conv2 hown9; clear hgr9 hown9)
      | fail)
     go_ret
     exact ⟨HB9.out,_,rfl,HEND.out.2 (show 128 <= x.toNat by have:=HKX.out; omega)⟩
theorem dd (s : ByteArray) (w : World) (hb : s.size < 16777216) : Calls Tryz.prog 26 #[.string s] w (RefS (tlvB 4 s.data.toList) w):=by
 have HT:=aa (dq 0 false 4 s w (by omega) (by omega) hb)
 go_enter Tryz.func26,Tryz.ntmps26
 go_wp2_with (first
  | (go_at_call 29; refine HT.out.mono ?_; rintro e w2 ⟨hb2,x,rfl,hx⟩; have HR:=aa (And.intro hb2 hx); clear hb2 hx)
  | fail)
 go_ret
 exact ⟨HR.out.1,x,rfl,HR.out.2⟩
theorem rlist_any (s : ByteArray) (w : World) (hb : s.size < 16777216) : Calls Tryz.prog 28 #[.string s] w (RefS (tlvB 48 s.data.toList) w):=by
 have HT:=aa (dq 0 true 16 s w (by omega) (by omega) hb)
 go_enter Tryz.func28,Tryz.ntmps28
 go_wp2_with (first
  | (go_at_call 29; refine HT.out.mono ?_; rintro e w2 ⟨hb2,x,rfl,hx⟩; have HR:=aa (And.intro hb2 hx); clear hb2 hx)
  | fail)
 go_ret
 exact ⟨HR.out.1,x,rfl,HR.out.2⟩
theorem rtruth_any (b : Bool) (w : World) : Calls Tryz.prog 27 #[.bool b] w (RefS [1,1,if b then 255 else 0] w):=by
 cases b with
 | true =>
  have HT:=aa (dq 0 false 1 ⟨#[255]⟩ w (by omega) (by omega) (by decide))
  go_enter Tryz.func27,Tryz.ntmps27
  go_wp2_with (first
   | (go_at_call 29; refine HT.out.mono ?_; rintro e w2 ⟨hb2,x,rfl,hx⟩; have HR:=aa (And.intro hb2 hx); clear hb2 hx)
   | fail)
  go_ret
  exact ⟨HR.out.1,x,rfl,HR.out.2⟩
 | false =>
  have HT:=aa (dq 0 false 1 ⟨#[0]⟩ w (by omega) (by omega) (by decide))
  go_enter Tryz.func27,Tryz.ntmps27
  go_wp2_with (first
   | (go_at_call 29; refine HT.out.mono ?_; rintro e w2 ⟨hb2,x,rfl,hx⟩; have HR:=aa (And.intro hb2 hx); clear hb2 hx)
   | fail)
  go_ret
  exact ⟨HR.out.1,x,rfl,HR.out.2⟩
theorem rnum_any (g n : Nat) (w : World) (hg : g <= 30) (hn : n < 2147483648) : Calls Tryz.prog 24 #[.int .i64 g,.int .i64 n] w (RefS (tlvB (bl 0 false g) (PB.ofNum n)) w):=by
 have HB:=aa (rbytesN_any n w hn)
 have HT:=aa fun (s : ByteArray) (h : s.data.toList = PB.ofNum n) (W : World) => dq 0 false g s W (by omega) hg (by
  have e : s.size = s.data.toList.length:=rfl
  have:=(PB.ofNum_done (n : Int) (by omega) (by omega)).2.2
  rw [e,h]; omega)
 go_enter Tryz.func24,Tryz.ntmps24
 go_wp2_with (first
  | (go_at_call 56; refine HB.out.mono ?_; rintro e w2 ⟨hb2,x,rfl,hx⟩; have HR:=aa (And.intro hb2 hx); clear hb2 hx)
  | (go_at_call 29; refine (HT.out x HR.out.2 _).mono ?_; rintro e w3 ⟨hb3,y,rfl,hy⟩; have HR2:=aa (And.intro hb3 hy); clear hb3 hy)
  | fail)
 go_ret
 refine ⟨HR.out.1.trans (HR2.out.1.mono HR.out.1.size),y,rfl,?_⟩
 rw [HR2.out.2,HR.out.2]
end Go.Proofs.YtbiglfpikfjbpaaGreatDoor
