import Derived.Test.YtbiglfpikfjbpaaGreatDoorR11
import Derived.Test.YtbiglfpikfjbpaaGreatDoorR17
import Derived.Test.YtbiglfpikfjbpaaGreatDoorR10
import Derived.Test.YtbiglfpikfjbpaaGreatDoorR14
import Derived.Deep.CutBlock
import Derived.Deep.CutRange
import Derived.Test.YtbiglfpikfjbpaaGreatDoorR6
import Derived.Test.YtbiglfpikfjbpaaGreatDoorR9
import Derived.Test.YtbiglfpikfjbpaaGreatDoorR12
namespace Go.Proofs.YtbiglfpikfjbpaaGreatDoor
open Go.RowKit
open Go.PlainAid
set_option maxRecDepth 100000
set_option linter.unusedVariables false
set_option linter.unusedSimpArgs false
set_option maxHeartbeats 40000000
theorem rlength_any (n : Nat) (w : World) (hn : n < 16777216) : Calls Tryz.prog 61 #[.int .i64 n] w (RowPost (PB.lenB n) w):=by
 unfold PB.lenB
 by_cases h1 : n < 128
 ·rw [if_pos h1]
  have hown:=World.ownsRow_lit (base:=w.heap.size) (e:=5) (size:=1) w #[.int .u8 n] 1 (Nat.le_refl _) (by unfold maxLen; omega) rfl
  have e : (#[Value.int .u8 n]).toList = u8s [UInt8.ofNat n]:=by simp [u8s]; omega
  rw [e] at hown
  have HO:=aa hown
  clear hown e
  go_enter Tryz.func61,Tryz.ntmps61
  go_wp2_with fail
  go_ret
  exact ⟨_,rfl,HO.out,(Below.refl _ _).alloc (Nat.le_refl _) _⟩
 rw [if_neg h1]
 by_cases h2 : n < 256
 ·rw [if_pos h2]
  have hown:=World.ownsRow_lit (base:=w.heap.size) (e:=5) (size:=1) w #[.int .u8 129,.int .u8 n] 2 (Nat.le_refl _) (by unfold maxLen; omega) rfl
  have e : (#[Value.int .u8 129,Value.int .u8 n]).toList = u8s [129,UInt8.ofNat n]:=by simp [u8s]; omega
  rw [e] at hown
  have HO:=aa hown
  clear hown e
  go_enter Tryz.func61,Tryz.ntmps61
  go_wp2_with fail
  go_ret
  exact ⟨_,rfl,HO.out,(Below.refl _ _).alloc (Nat.le_refl _) _⟩
 rw [if_neg h2]
 have g0 : 0 <= (n : Int):=by omega
 have t1 : decide ((n : Int) < 128) = false:=by simp; omega
 have t2 : decide ((n : Int) < 256) = false:=by simp; omega
 by_cases h3 : n < 65536
 ·rw [if_pos h3]
  have hown:=World.ownsRow_lit (base:=w.heap.size) (e:=5) (size:=1) w #[.int .u8 130,.int .u8 ((n : Int) / 256),.int .u8 ((n : Int) % 256)] 3 (Nat.le_refl _) (by unfold maxLen; omega) rfl
  have e : (#[Value.int .u8 130,.int .u8 ((n : Int) / 256),.int .u8 ((n : Int) % 256)]).toList = u8s [130,UInt8.ofNat (n / 256),UInt8.ofNat (n % 256)]:=by simp [u8s]; omega
  rw [e] at hown
  have HO:=aa hown
  have t3 : decide ((n : Int) < 65536) = true:=by simp; omega
  have e0 : 0 <= (n : Int) / 256:=by omega
  have e1 : (n : Int) / 256 < 256:=by omega
  have e2 : 0 <= (n : Int) % 256:=by omega
  have e3 : (n : Int) % 256 < 256:=by omega
  clear hown e h1 h2 h3 hn
  generalize (n : Int) = z at *
  go_enter Tryz.func61,Tryz.ntmps61
  go_wp2_with fail
  go_ret
  exact ⟨_,rfl,HO.out,(Below.refl _ _).alloc (Nat.le_refl _) _⟩
 rw [if_neg h3]
 ·have hown:=World.ownsRow_lit (base:=w.heap.size) (e:=5) (size:=1) w #[.int .u8 131,.int .u8 ((n : Int) / 65536),.int .u8 ((n : Int) / 256 % 256),.int .u8 ((n : Int) % 256)] 4 (Nat.le_refl _) (by unfold maxLen; omega) rfl
  have e : (#[Value.int .u8 131,.int .u8 ((n : Int) / 65536),.int .u8 ((n : Int) / 256 % 256),.int .u8 ((n : Int) % 256)]).toList = u8s [131,UInt8.ofNat (n / 65536),UInt8.ofNat (n / 256 % 256),UInt8.ofNat (n % 256)]:=by simp [u8s]; omega
  rw [e] at hown
  have HO:=aa hown
  have t3 : decide ((n : Int) < 65536) = false:=by simp; omega
  have e0 : 0 <= (n : Int) / 65536:=by omega
  have e1 : (n : Int) / 65536 < 256:=by omega
  have e2 : 0 <= (n : Int) / 256:=by omega
  have e3 : 0 <= (n : Int) / 256 % 256:=by omega
  have e4 : (n : Int) / 256 % 256 < 256:=by omega
  have e5 : 0 <= (n : Int) % 256:=by omega
  have e6 : (n : Int) % 256 < 256:=by omega
  clear hown e h1 h2 h3 hn
  generalize (n : Int) = z at *
  go_enter Tryz.func61,Tryz.ntmps61
  go_wp2_with fail
  go_ret
  exact ⟨_,rfl,HO.out,(Below.refl _ _).alloc (Nat.le_refl _) _⟩
def RefS (l : List UInt8) (w : World) (e : Ending) (w' : World) : Prop:=Below w.heap.size w w' /\ ∃ s : ByteArray,e = .returned (.string s) /\ s.data.toList = l
def tlvB (x : UInt8) (l : List UInt8) : List UInt8:=x :: (PB.lenB l.length ++ l)
def bi (c : Nat) (k : Bool) (g : Nat) : UInt8:=if k then UInt8.ofNat (c * 64 + g + 32) else UInt8.ofNat (c * 64 + g)
theorem dN {w w3 : World} {v3 : Value} {z : Int} {x : UInt8} {L : List UInt8} (hx : z = (x.toNat : Int)) (h : w3.ownsRow w.heap.size 5 1 v3 (1 + L.length) ([.int .u8 z] ++ u8s L)) :
  ∃ g c,v3 = .slice (some ⟨g,0,none⟩) (1 + L.length) c /\ (convert 90 9 (.slice (some ⟨g,0,none⟩) (1 + L.length) c)).run Tryz.prog w3 = .ok (.string ⟨(x :: L).toArray⟩) w3:=by
 obtain ⟨g,c,rfl,-,-⟩:=h.form (by omega)
 refine ⟨g,c,rfl,?_⟩
 have e : 1 + L.length = (x :: L).length:=by rw [List.length_cons]; omega
 have e2 : [Value.int .u8 z] ++ u8s L = u8s (x :: L):=by rw [hx]; rfl
 rw [e,e2] at h
 rw [e]
 exact cM h
theorem dl (c : Nat) (k : Bool) (g : Nat) (b : ByteArray) (w : World) (hc : c <= 3) (hg : g <= 30) (hb : b.size < 16777216) :
  Calls Tryz.prog 29 #[.int .i64 c,.bool k,.int .i64 g,.string b] w (RefS (tlvB (bi c k g) b.data.toList) w):=by
 obtain ⟨i0,hi,hz0,hz1,hz2⟩:=info_parts info_u8
 have HL:=aa fun W : World => rlength_any b.size W hb
 obtain ⟨x,hx⟩ : ∃ x,x = bi c k g:=⟨_,rfl⟩
 have hln:=PB.lenB_len b.size
 have E9:=aa (show (PB.lenB b.size) = PB.lenB b.data.toList.length from rfl)
 rw [<- hx]
 have hzz : ¬ 9223372036854775807 < (⟨(x :: PB.lenB b.size).toArray⟩ : ByteArray).size + b.size:=by
  have e : (⟨(x :: PB.lenB b.size).toArray⟩ : ByteArray).size = (x :: PB.lenB b.size).length:=rfl
  rw [e,List.length_cons]; omega
 have HFIN:=aa (show ((⟨(x :: PB.lenB b.size).toArray⟩ : ByteArray) ++ b).data.toList = tlvB x b.data.toList by rw [aM]; rfl)
 cases k with
 | false =>
  have hxv : (64 * (c : Int) + g : Int) = (x.toNat : Int):=by rw [hx,bi,if_neg (by decide),PB.u8_ofNat (by omega)]; omega
  have HO:=aa (World.ownsRow_lit (base:=w.heap.size) (e:=5) (size:=1) w #[.int .u8 (64 * (c : Int) + g)] 1 (Nat.le_refl _) (by unfold maxLen; omega) rfl)
  have HX:=aa hxv
  clear hx hxv
  go_enter Tryz.func29,Tryz.ntmps29
  go_wp2_with (first
   | (go_at_call 61; refine (HL.out _).mono ?_; rintro e w2 ⟨v2,rfl,hrow2,hb2⟩; obtain ⟨A3,c3,rfl,-,-,-,hsl2,-⟩:=cr hrow2; have hw2:=hb2.size; have ho2:=(Off.of_below hb2 []).own HO.out (by simp); have hbw2:=((Below.refl w.heap.size w).alloc (Nat.le_refl _) (.cells #[.int .u8 (64 * (c : Int) + g)] 5)).trans (hb2.mono (by simp)); have hbs:=hbw2.size)
   | (at_builtin; refine aw _ rfl (.tmp 21) (.tmp 24) 90 rfl w.heap.size 5 i0 (.int .u8 0) 1 Tryz.underlying90 hi hz0 hz1 hz2 rfl _ _ _ rfl ho2 _ _ _ _ (cd _) rfl hsl2 (bL _) (by unfold maxLen; omega) (by omega) hbs ?_; intro v3 w3 hown3 hgr3 _; have HB3:=aa (hbw2.grown hgr3 hbs (fun k hk => (ho2.lt k hk).1)); obtain ⟨gq,c9,rfl,hconv⟩:=dN HX.out hown3; clear hgr3 hown3 hbw2 ho2 hrow2 hsl2 hb2)
   | fail)
  go_ret
  exact ⟨HB3.out,_,rfl,HFIN.out⟩
 | true =>
  have hxv : (64 * (c : Int) + g + 32 : Int) = (x.toNat : Int):=by rw [hx,bi,if_pos rfl,PB.u8_ofNat (by omega)]; omega
  have HO:=aa (World.ownsRow_lit (base:=w.heap.size) (e:=5) (size:=1) w #[.int .u8 (64 * (c : Int) + g + 32)] 1 (Nat.le_refl _) (by unfold maxLen; omega) rfl)
  have HX:=aa hxv
  clear hx hxv
  go_enter Tryz.func29,Tryz.ntmps29
  go_wp2_with (first
   | (go_at_call 61; refine (HL.out _).mono ?_; rintro e w2 ⟨v2,rfl,hrow2,hb2⟩; obtain ⟨A3,c3,rfl,-,-,-,hsl2,-⟩:=cr hrow2; have hw2:=hb2.size; have ho2:=(Off.of_below hb2 []).own HO.out (by simp); have hbw2:=((Below.refl w.heap.size w).alloc (Nat.le_refl _) (.cells #[.int .u8 (64 * (c : Int) + g + 32)] 5)).trans (hb2.mono (by simp)); have hbs:=hbw2.size)
   | (at_builtin; refine aw _ rfl (.tmp 21) (.tmp 24) 90 rfl w.heap.size 5 i0 (.int .u8 0) 1 Tryz.underlying90 hi hz0 hz1 hz2 rfl _ _ _ rfl ho2 _ _ _ _ (cd _) rfl hsl2 (bL _) (by unfold maxLen; omega) (by omega) hbs ?_; intro v3 w3 hown3 hgr3 _; have HB3:=aa (hbw2.grown hgr3 hbs (fun k hk => (ho2.lt k hk).1)); obtain ⟨gq,c9,rfl,hconv⟩:=dN HX.out hown3; clear hgr3 hown3 hbw2 ho2 hrow2 hsl2 hb2)
   | fail)
  go_ret
  exact ⟨HB3.out,_,rfl,HFIN.out⟩
def BAt (n : Nat) (l : List UInt8) (z : Nat) : Prop:=(l = [] /\ z = n) \/ (1 <= l.length /\ l.length <= 8 /\ PB.OfAt n l z /\ (l.length = 1 \/ 1 <= z))
theorem BAt.next {n : Nat} {l : List UInt8} {z : Nat} (hn : n < 2147483648) (h : BAt n l z) (hz : 256 <= z \/ l = []) : BAt n (PB.low z :: l) (z / 256):=by
 rcases h with ⟨rfl,rfl⟩ | ⟨h1,h2,h3,h4⟩
 ·refine Or.inr ⟨by simp,by simp,?_,Or.inl rfl⟩
  rw [show ((z / 256 : Nat) : Int) = (z : Int) / 256 from by omega]
  exact PB.OfAt.start (z : Int)
 ·rcases hz with hz | rfl
  ·have hs : ¬ PB.enough l (z : Int):=by unfold PB.enough; omega
   have h5:=h3.next (by omega) (by omega) hs
   have e : ((z / 256 : Nat) : Int) = (z : Int) / 256:=by omega
   exact Or.inr ⟨by simp,h5.2.1,by rw [e]; exact h5,by simp; omega⟩
  ·simp at h1
theorem BAt.end {n : Nat} {l : List UInt8} {z : Nat} (hn : n < 2147483648) (h : BAt n l z) (h1 : l ≠ []) (hz : z < 256) :
  (z = 0 -> PB.OfAt n l 0 /\ (l.length <= 1)) /\ (0 < z -> PB.OfAt n (PB.low z :: l) 0 /\ PB.byt (PB.low z :: l) 0 ≠ 0):=by
 rcases h with ⟨rfl,_⟩ | ⟨a1,a2,a3,a4⟩
 ·exact absurd rfl h1
 refine ⟨fun h0 => ?_,fun h0 => ?_⟩
 ·subst h0
  exact ⟨a3,by omega⟩
 ·have hs : ¬ PB.enough l (z : Int):=by unfold PB.enough; omega
  have h5:=a3.next (by omega) (by omega) hs
  rw [show (z : Int) / 256 = 0 by omega] at h5
  refine ⟨h5,?_⟩
  have hb0 : PB.byt (PB.low z :: l) 0 = (PB.low z).toNat:=rfl
  have:=PB.low_val (z : Int)
  rw [hb0]; omega
theorem ofNum_end {n : Nat} {l : List UInt8} (hn : n < 2147483648) (h : PB.OfAt n l 0) : (PB.byt l 0 < 128 -> l = PB.ofNum n) /\ (128 <= PB.byt l 0 -> (0 : UInt8) :: l = PB.ofNum n):=by
 refine ⟨fun h0 => ?_,fun h0 => ?_⟩
 ·exact (h.done (Or.inl ⟨rfl,h0⟩)).2.2
 ·have hs : ¬ PB.enough l 0:=by unfold PB.enough; omega
  have h5:=h.next (by omega) (by omega) hs
  have e : PB.low 0 = 0:=by decide
  rw [e] at h5
  exact (h5.done (Or.inl ⟨rfl,by show (0 : UInt8).toNat < 128; decide⟩)).2.2
def lenOf : Value -> Nat
 | .slice _ n _ => n
 | _ => 0
theorem own_low {w4 : World} {B : Nat} {v4 : Value} {k : Nat} {l : List UInt8} (h : w4.ownsRow B 5 1 v4 (1 + l.length) (#[Value.int .u8 ((k : Int) % 256)].toList ++ u8s l)) : w4.ownsRow B 5 1 v4 (PB.low k :: l).length (u8s (PB.low k :: l)):=by
 have e : 1 + l.length = (PB.low (k : Int) :: l).length:=by rw [List.length_cons]; omega
 have e2 : #[Value.int .u8 ((k : Int) % 256)].toList ++ u8s l = u8s (PB.low k :: l):=by rw [<- PB.low_val]; rfl
 rw [e,e2] at h
 exact h
theorem own_head {w3 : World} {g c : Nat} {z : Int} {x : UInt8} {L : List UInt8} {B : Nat} (hx : z = (x.toNat : Int)) (h : w3.ownsRow B 5 1 (.slice (some ⟨g,0,none⟩) (1 + L.length) c) (1 + L.length) ([.int .u8 z] ++ u8s L)) :
  w3.ownsRow B 5 1 (.slice (some ⟨g,0,none⟩) (1 + L.length) c) (x :: L).length (u8s (x :: L)) /\ Sl w3 (some ⟨g,0,none⟩) (u8s (x :: L)):=by
 have e : 1 + L.length = (x :: L).length:=by rw [List.length_cons]; omega
 have e2 : [Value.int .u8 z] ++ u8s L = u8s (x :: L):=by rw [hx]; rfl
 rw [e2] at h
 have h2 : w3.ownsRow B 5 1 (.slice (some ⟨g,0,none⟩) (1 + L.length) c) (x :: L).length (u8s (x :: L)):=by rw [e] at h |-; exact h
 refine ⟨h2,?_⟩
 obtain ⟨A,c2,e3,_,_,_,hs,_⟩:=cr h
 injection e3 with e3
 rw [e3]
 exact hs
theorem head_conv2 {w3 : World} {B : Nat} {v3 : Value} {x : UInt8} {L : List UInt8} (h : w3.ownsRow B 5 1 v3 (1 + (1 + L.length)) ([.int .u8 0] ++ u8s (x :: L))) :
  ∃ g c,v3 = .slice (some ⟨g,0,none⟩) (1 + (1 + L.length)) c /\ (convert 90 9 (.slice (some ⟨g,0,none⟩) (1 + (1 + L.length)) c)).run Tryz.prog w3 = .ok (.string ⟨(0 :: x :: L).toArray⟩) w3:=by
 obtain ⟨g,c,rfl,-,-⟩:=h.form (by omega)
 refine ⟨g,c,rfl,?_⟩
 have e : 1 + (1 + L.length) = (0 :: x :: L).length:=by rw [List.length_cons,List.length_cons]; omega
 have e2 : [Value.int .u8 0] ++ u8s (x :: L) = u8s (0 :: x :: L):=rfl
 rw [e,e2] at h
 rw [e]
 exact cM h
theorem rbytesN_any (n : Nat) (w : World) (hn : n < 2147483648) : Calls Tryz.prog 56 #[.int .i64 n] w (RefS (PB.ofNum n) w):=by
 obtain ⟨i0,hi,hz0,hz1,hz2⟩:=info_parts info_u8
 go_enter Tryz.func56,Tryz.ntmps56
 go_wp2_with fail
 go_loopw [0,3] (fun z v wr => ∃ (k : Nat) (l : List UInt8),z = .int .i64 k /\ k <= n /\ BAt n l k /\ wr.ownsRow w.heap.size 5 1 v l.length (u8s l) /\ Below w.heap.size w wr) (fun z v _ => (intOf z).toNat * 2 + (1 - lenOf v))
 case atStart => exact ⟨n,[],rfl,Nat.le_refl _,Or.inl ⟨rfl,rfl⟩,World.ownsRow_lit (base:=w.heap.size) (e:=5) (size:=1) w #[] 0 (Nat.le_refl _) (by unfold maxLen; omega) rfl,(Below.refl _ _).alloc (Nat.le_refl _) _⟩
 case round =>
  obtain ⟨k,l,rfl,hkn,hat,hown,hbw⟩:=hrel
  obtain ⟨A3,c3,rfl,-,-,-,hsl,-⟩:=cr hown
  have hlm : l.length <= 8:=by rcases hat with ⟨rfl,_⟩ | ⟨_,h,_⟩ <;> simp_all
  have HBW:=aa hbw
  have hws:=hbw.size
  have HAT:=aa hat
  have HOWN:=aa hown
  clear hbw hat hown
  by_cases hgo : 256 <= k \/ (k < 256 /\ l = [])
  ·have HN:=aa (HAT.out.next hn (hgo.imp id And.right))
   have HO3:=aa (World.ownsRow_lit (base:=w.heap.size) (e:=5) (size:=1) wr #[.int .u8 ((k : Int) % 256)] 1 hws (by unfold maxLen; omega) rfl)
   have HS3:=aa (hsl.below ((Below.refl wr.heap.size wr).alloc (Nat.le_refl _) (.cells #[.int .u8 ((k : Int) % 256)] 5)))
   have hb2 : Below w.heap.size w (wr.alloc (.cells #[.int .u8 ((k : Int) % 256)] 5)):=HBW.out.alloc hws _
   have HB3:=aa hb2
   clear hsl hb2
   rcases hgo with hk | ⟨hk,rfl⟩
   ·go_wp2_with (first
     | (at_builtin; refine aw _ rfl (.tmp 15) (.tmp 16) 90 rfl w.heap.size 5 i0 (.int .u8 0) 1 Tryz.underlying90 hi hz0 hz1 hz2 rfl _ _ _ rfl HO3.out _ _ _ _ (cd _) rfl HS3.out (bL _) (by unfold maxLen; omega) (by omega) HB3.out.size ?_; intro v4 w4 hown4 hgr4 _; have hb4:=HB3.out.grown hgr4 HB3.out.size (fun k hk => (HO3.out.lt k hk).1); obtain ⟨A4,c4,rfl,-,-,-,hsl4,-⟩:=cr hown4; have hown5:=own_low hown4; clear hgr4 hown4)
     | fail)
    go_roundw
    case rel => exact ⟨k / 256,_,by simp,by omega,HN.out,hown5,hb4⟩
    case measure =>
     have e : ((k : Int) / 256).toNat = k / 256:=by omega
     simp only [intOf,lenOf,Int.toNat_natCast,e]
     omega
   ·go_wp2_with (first
     | (at_builtin; refine aw _ rfl (.tmp 15) (.tmp 16) 90 rfl w.heap.size 5 i0 (.int .u8 0) 1 Tryz.underlying90 hi hz0 hz1 hz2 rfl _ _ _ rfl HO3.out _ _ _ _ (cd _) rfl HS3.out (bL _) (by unfold maxLen; omega) (by simp) HB3.out.size ?_; intro v4 w4 hown4 hgr4 _; have hb4:=HB3.out.grown hgr4 HB3.out.size (fun k hk => (HO3.out.lt k hk).1); obtain ⟨A4,c4,rfl,-,-,-,hsl4,-⟩:=cr hown4; have hown5:=own_low hown4; clear hgr4 hown4)
     | fail)
    go_roundw
    case rel => exact ⟨k / 256,_,by simp,by omega,HN.out,hown5,hb4⟩
    case measure =>
     have e : ((k : Int) / 256).toNat = k / 256:=by omega
     simp only [intOf,lenOf,Int.toNat_natCast,e]
     simp
     omega
  ·have hkk : k < 256:=by omega
   have hne : l ≠ []:=fun e => hgo (Or.inr ⟨hkk,e⟩)
   have hlp : 0 < l.length:=List.length_pos_iff.2 hne
   have HE:=aa (HAT.out.end hn hne hkk)
   obtain ⟨g3,c3b,e3,-,-⟩:=HOWN.out.form hlp
   injection e3 with e3 _ e4
   subst e3
   subst e4
   rcases (show k = 0 \/ 0 < k by omega) with hk0 | hk0
   ·obtain ⟨h1,h2⟩:=HE.out.1 hk0
    obtain ⟨x,rfl⟩ : ∃ x,l = [x]:=by
     match l,hlp,h2 with
     | [x],_,_ => exact ⟨x,rfl⟩
    have hc3 : wr.cell? ⟨g3,0,none⟩ = some (.int .u8 x.toNat):=HOWN.out.cellAt 0 (by simp)
    have HEND:=aa (ofNum_end hn h1)
    by_cases hx : x.toNat < 128
    ·have t1 : decide (128 <= (x.toNat : Int)) = false:=ae (by omega)
     have hconv : (convert 90 9 (.slice (some ⟨g3,0,none⟩) 1 c3)).run Tryz.prog wr = .ok (.string ⟨[x].toArray⟩) wr:=cM HOWN.out
     clear HE h1 h2
     go_wp2_with fail
     go_ret
     exact ⟨HBW.out,_,rfl,HEND.out.1 hx⟩
    ·have t1 : decide (128 <= (x.toNat : Int)) = true:=ab (by omega)
     have HO3:=aa (World.ownsRow_lit (base:=w.heap.size) (e:=5) (size:=1) wr #[.int .u8 0] 1 hws (by unfold maxLen; omega) rfl)
     have HS3:=aa (hsl.below ((Below.refl wr.heap.size wr).alloc (Nat.le_refl _) (.cells #[.int .u8 0] 5)))
     have HB3:=aa (HBW.out.alloc hws (.cells #[.int .u8 0] 5))
     clear HE h1 h2
     go_wp2_with (first
      | (at_builtin; refine aw _ rfl (.tmp 42) (.tmp 43) 90 rfl w.heap.size 5 i0 (.int .u8 0) 1 Tryz.underlying90 hi hz0 hz1 hz2 rfl _ _ _ rfl HO3.out _ _ _ (u8s ([x])) (cd _) rfl HS3.out (bL _) (by unfold maxLen; omega) (by simp) HB3.out.size ?_; intro v9 w9 hown9 hgr9 _; have HB9:=aa (HB3.out.grown hgr9 HB3.out.size (fun k hk => (HO3.out.lt k hk).1)); obtain ⟨g9,c9,rfl,hconv0⟩:=dN (z:=0) (x:=0) rfl hown9; have hconv : (convert 90 9 (.slice (some ⟨g9,0,none⟩) 2 c9)).run Tryz.prog w9 = .ok (.string ⟨(0 :: [x]).toArray⟩) w9:=hconv0; clear hgr9 hown9 hconv0)
      | fail)
     go_ret
     exact ⟨HB9.out,_,rfl,HEND.out.2 (show 128 <= x.toNat by omega)⟩
   ·obtain ⟨h1,h2⟩:=HE.out.2 hk0
    have HEND:=aa (ofNum_end hn h1)
    have hlow:=PB.low_val k
    obtain ⟨x,hx⟩ : ∃ x,x = PB.low k:=⟨_,rfl⟩
    rw [<- hx] at HEND hlow
    have HX:=aa hx
    have hkx : (x.toNat : Int) = k:=by omega
    have HO3:=aa (World.ownsRow_lit (base:=w.heap.size) (e:=5) (size:=1) wr #[.int .u8 k] 1 hws (by unfold maxLen; omega) rfl)
    have HS3:=aa (hsl.below ((Below.refl wr.heap.size wr).alloc (Nat.le_refl _) (.cells #[.int .u8 k] 5)))
    have HB3:=aa (HBW.out.alloc hws (.cells #[.int .u8 k] 5))
    have HKX:=aa hkx
    clear HE h1 h2 hx hlow hkx
    have hx0 : ((k : Int) == 0) = false:=by simp; omega
    have hl0 : ((l.length : Int) == 0) = false:=by simp; omega
    have h256 : decide (256 <= (k : Int)) = false:=ae (by omega)
    have HWS:=aa hws
    by_cases hx : (k : Int) < 128
    ·have t1 : decide (128 <= (k : Int)) = false:=ae (by omega)
     go_wp2_with (first
      | (at_builtin; refine aw _ rfl (.tmp 24) (.tmp 25) 90 rfl w.heap.size 5 i0 (.int .u8 0) 1 Tryz.underlying90 hi hz0 hz1 hz2 rfl _ _ _ rfl HO3.out _ _ _ (u8s (l)) (cd _) rfl HS3.out (bL _) (by unfold maxLen; omega) (by omega) HB3.out.size ?_; intro v8 w8 hown8 hgr8 _; have HB8:=aa (HB3.out.grown hgr8 HB3.out.size (fun k hk => (HO3.out.lt k hk).1)); obtain ⟨g8,c8,rfl,hconv⟩:=dN HKX.out.symm hown8; have hc8 : w8.cell? ⟨g8,0,none⟩ = some (.int .u8 k):=hown8.cellAt 0 (by omega); obtain ⟨hown8b,hsl8⟩:=own_head HKX.out.symm hown8; have HW8:=aa hown8b; clear hgr8 hown8 hown8b)
      | fail)
     go_ret
     exact ⟨HB8.out,_,rfl,by rw [HX.out]; exact HX.out ▸ HEND.out.1 (show x.toNat < 128 by have:=HKX.out; omega)⟩
    ·have t1 : decide (128 <= (k : Int)) = true:=ab (by omega)
     go_wp2_with (first
      | (at_builtin; refine aw _ rfl (.tmp 24) (.tmp 25) 90 rfl w.heap.size 5 i0 (.int .u8 0) 1 Tryz.underlying90 hi hz0 hz1 hz2 rfl _ _ _ rfl HO3.out _ _ _ (u8s (l)) (cd _) rfl HS3.out (bL _) (by unfold maxLen; omega) (by omega) HB3.out.size ?_; intro v8 w8 hown8 hgr8 _; have HB8:=aa (HB3.out.grown hgr8 HB3.out.size (fun k hk => (HO3.out.lt k hk).1)); obtain ⟨g8,c8,rfl,hconv⟩:=dN HKX.out.symm hown8; have hc8 : w8.cell? ⟨g8,0,none⟩ = some (.int .u8 k):=hown8.cellAt 0 (by omega); obtain ⟨hown8b,hsl8⟩:=own_head HKX.out.symm hown8; have HW8:=aa hown8b; clear hgr8 hown8 hown8b)
      | (at_builtin; have HO4:=aa (World.ownsRow_lit (base:=w.heap.size) (e:=5) (size:=1) w8 #[.int .u8 0] 1 HB8.out.size (by unfold maxLen; omega) rfl); have HS4:=aa (hsl8.below ((Below.refl w8.heap.size w8).alloc (Nat.le_refl _) (.cells #[.int .u8 0] 5))); have HB4:=aa (HB8.out.alloc HB8.out.size (.cells #[.int .u8 0] 5)); refine aw _ rfl (.tmp 42) (.tmp 43) 90 rfl w.heap.size 5 i0 (.int .u8 0) 1 Tryz.underlying90 hi hz0 hz1 hz2 rfl _ _ _ rfl HO4.out _ _ _ (u8s (x :: l)) (by rw [cd,List.length_cons]; omega) rfl HS4.out (bL _) (by unfold maxLen; omega) (by omega) HB4.out.size ?_; intro v9 w9 hown9 hgr9 _; have HB9:=aa (HB4.out.grown hgr9 HB4.out.size (fun k hk => (HO4.out.lt k hk).1)); obtain ⟨g9,c9,rfl,hconv9⟩:=head_conv2 hown9; clear hgr9 hown9)
      | fail)
     go_ret
     exact ⟨HB9.out,_,rfl,HEND.out.2 (show 128 <= x.toNat by have:=HKX.out; omega)⟩
theorem dd (s : ByteArray) (w : World) (hb : s.size < 16777216) : Calls Tryz.prog 26 #[.string s] w (RefS (tlvB 4 s.data.toList) w):=by
 have HT:=aa (dl 0 false 4 s w (by omega) (by omega) hb)
 go_enter Tryz.func26,Tryz.ntmps26
 go_wp2_with (first
  | (go_at_call 29; refine HT.out.mono ?_; rintro e w2 ⟨hb2,x,rfl,hx⟩; have HR:=aa (And.intro hb2 hx); clear hb2 hx)
  | fail)
 go_ret
 exact ⟨HR.out.1,x,rfl,HR.out.2⟩
theorem rlist_any (s : ByteArray) (w : World) (hb : s.size < 16777216) : Calls Tryz.prog 28 #[.string s] w (RefS (tlvB 48 s.data.toList) w):=by
 have HT:=aa (dl 0 true 16 s w (by omega) (by omega) hb)
 go_enter Tryz.func28,Tryz.ntmps28
 go_wp2_with (first
  | (go_at_call 29; refine HT.out.mono ?_; rintro e w2 ⟨hb2,x,rfl,hx⟩; have HR:=aa (And.intro hb2 hx); clear hb2 hx)
  | fail)
 go_ret
 exact ⟨HR.out.1,x,rfl,HR.out.2⟩
theorem rtruth_any (b : Bool) (w : World) : Calls Tryz.prog 27 #[.bool b] w (RefS [1,1,if b then 255 else 0] w):=by
 cases b with
 | true =>
  have HT:=aa (dl 0 false 1 ⟨#[255]⟩ w (by omega) (by omega) (by decide))
  go_enter Tryz.func27,Tryz.ntmps27
  go_wp2_with (first
   | (go_at_call 29; refine HT.out.mono ?_; rintro e w2 ⟨hb2,x,rfl,hx⟩; have HR:=aa (And.intro hb2 hx); clear hb2 hx)
   | fail)
  go_ret
  exact ⟨HR.out.1,x,rfl,HR.out.2⟩
 | false =>
  have HT:=aa (dl 0 false 1 ⟨#[0]⟩ w (by omega) (by omega) (by decide))
  go_enter Tryz.func27,Tryz.ntmps27
  go_wp2_with (first
   | (go_at_call 29; refine HT.out.mono ?_; rintro e w2 ⟨hb2,x,rfl,hx⟩; have HR:=aa (And.intro hb2 hx); clear hb2 hx)
   | fail)
  go_ret
  exact ⟨HR.out.1,x,rfl,HR.out.2⟩
theorem rnum_any (g n : Nat) (w : World) (hg : g <= 30) (hn : n < 2147483648) : Calls Tryz.prog 24 #[.int .i64 g,.int .i64 n] w (RefS (tlvB (bi 0 false g) (PB.ofNum n)) w):=by
 have HB:=aa (rbytesN_any n w hn)
 have HT:=aa fun (s : ByteArray) (h : s.data.toList = PB.ofNum n) (W : World) => dl 0 false g s W (by omega) hg (by
  have e : s.size = s.data.toList.length:=rfl
  have:=(PB.ofNum_done (n : Int) (by omega) (by omega)).2.2
  rw [e,h]; omega)
 go_enter Tryz.func24,Tryz.ntmps24
 go_wp2_with (first
  | (go_at_call 56; refine HB.out.mono ?_; rintro e w2 ⟨hb2,x,rfl,hx⟩; have HR:=aa (And.intro hb2 hx); clear hb2 hx)
  | (go_at_call 29; refine (HT.out x HR.out.2 _).mono ?_; rintro e w3 ⟨hb3,y,rfl,hy⟩; have HR2:=aa (And.intro hb3 hy); clear hb3 hy)
  | fail)
 go_ret
 refine ⟨HR.out.1.trans (HR2.out.1.mono HR.out.1.size),y,rfl,?_⟩
 rw [HR2.out.2,HR.out.2]
theorem TlAt.up {w w' : World} {B B' : Nat} {t : Tl} {cs : Array Value} (h : TlAt w (fun x => B' <= x) t cs) (hb : Below w.heap.size w w') (hB : B <= B') : TlAt w' (fun x => B <= x) t cs :=
 TlAt.keep hb.size (fun x _ hlt => hb.block x hlt) (fun x hx _ => Nat.le_trans hB hx) _ _ h
theorem GRow.leaves {w : World} {B : Nat} {v : Value} {css : List (List Value)} {ts : List Tl} (hown : w.ownsRow B 42 5 v ts.length css.flatten) (hl : css.length = ts.length) (hk : ∀ c ∈ css,c.length = 5)
  (hf : ∀ (i : Nat) (t : Tl) (c : List Value),ts[i]? = some t -> css[i]? = some c -> ∀ W S,TlAt W S t c.toArray) : TGrow w B v ts:=⟨css,hl,hk,hown,fun i d c hd hc => hf i d c hd hc _ _⟩
theorem grow_at {w : World} {B n cap : Nat} {A : Option Addr} {ts : List Tl} (c g : Int) (h : TGrow w B (.slice A n cap) ts) (hc : (Lit.int .i64 c).wf = true) (hg : (Lit.int .i64 g).wf = true) :
  TlAt w (fun x => B <= x) (.mk c true g ⟨#[]⟩ ts) #[.int .i64 c,.bool true,.int .i64 g,.string ⟨#[]⟩,.slice A n cap]:=by
 obtain ⟨q,e,hq⟩:=GRow.row tlL_stable h
 rw [e]
 exact kids_at c g true ⟨#[]⟩ hq hc hg (Nat.zero_le _)
def All2 {α β : Type} (R : α -> β -> Prop) : List α -> List β -> Prop
 | [],[] => True
 | a :: l1,b :: bs => R a b /\ All2 R l1 bs
 | _,_ => False
theorem All2.len {α β : Type} {R : α -> β -> Prop} : ∀ {l : List α} {k : List β},All2 R l k -> l.length = k.length
 | [],[],_ => rfl
 | a :: l1,b :: bs,h => by simp [h.2.len]
 | [],_ :: _,h => h.elim
 | _ :: _,[],h => h.elim
theorem All2.get {α β : Type} {R : α -> β -> Prop} : ∀ {l : List α} {k : List β},All2 R l k -> ∀ (i : Nat) (a : α) (b : β),l[i]? = some a -> k[i]? = some b -> R a b
 | [],_,_,i,a,b,ha,_ => by simp at ha
 | x :: l1,y :: bs,h,i,a,b,ha,hb => by
  cases i with
  | zero =>
   obtain rfl : x = a:=by simpa using ha
   obtain rfl : y = b:=by simpa using hb
   exact h.1
  | succ i => exact h.2.get i a b (by simpa using ha) (by simpa using hb)
 | _ :: _,[],h,_,_,_,_,_ => h.elim
theorem All2.right {α β : Type} {R : α -> β -> Prop} {P : β -> Prop} (hP : ∀ a b,R a b -> P b) : ∀ {l : List α} {k : List β},All2 R l k -> ∀ b ∈ k,P b
 | [],[],_,b,hb => by cases hb
 | a :: l1,c :: bs,h,b,hb => by
  rcases List.mem_cons.1 hb with rfl | hb
  ·exact hP _ _ h.1
  ·exact h.2.right hP b hb
 | [],_ :: _,h,_,_ => h.elim
 | _ :: _,[],h,_,_ => h.elim
theorem fD {w w6 w7 : World} {B g gg bo cap7 n7 k : Nat} {c t : Int} {v : Value} {T : TypeId} {cs : Array Value} {xs : List Value} {o : Obj} (hb6 : Below B w w6) (hBw : B <= w.heap.size) (hg6 : Bk w6 g 42 #[.int .i64 c,.bool true,.int .i64 t,.string ⟨#[]⟩,v]) (hk6 : Bk w6 k T cs)
  (hgB : B <= g) (hv : v.ownBlock = some bo) (hbg : bo ≠ g) (hbB : B <= bo) (hkg : k ≠ g) (hkb : k ≠ bo) (hown7 : w7.ownsRow B 42 5 (.slice (some ⟨gg,0,none⟩) n7 cap7) n7 xs) (hgr : (w6.alloc o).grownBy w7 v.ownBlock) (hat : v.ownBlock = some gg \/ gg = w6.heap.size + 1) :
  Below B w (w7.setCell ⟨g,4,none⟩ (.slice (some ⟨gg,0,none⟩) n7 cap7)) /\ Bk (w7.setCell ⟨g,4,none⟩ (.slice (some ⟨gg,0,none⟩) n7 cap7)) g 42 #[.int .i64 c,.bool true,.int .i64 t,.string ⟨#[]⟩,.slice (some ⟨gg,0,none⟩) n7 cap7] ∧
   Bk (w7.setCell ⟨g,4,none⟩ (.slice (some ⟨gg,0,none⟩) n7 cap7)) k T cs /\ (w7.setCell ⟨g,4,none⟩ (.slice (some ⟨gg,0,none⟩) n7 cap7)).ownsRow B 42 5 (.slice (some ⟨gg,0,none⟩) n7 cap7) n7 xs:=by
 have hl:=hg6.lt
 have hlk:=hk6.lt
 have hs:=hb6.size
 have hgg : gg ≠ g:=by
  rcases hat with h | h
  ·rw [hv] at h; injection h with h; omega
  ·omega
 have hg7 : Bk w7 g 42 _:=Bk.keep (hg6.alloc o) (hgr.block g (by simp; omega) (by rw [hv]; simp; omega))
 have hk7 : Bk w7 k T cs:=Bk.keep (hk6.alloc o) (hgr.block k (by simp; omega) (by rw [hv]; simp; omega))
 refine ⟨?_,?_,hk7.far (p:=⟨g,4,none⟩) hkg _,((Off.refl [g] w7).setCell (p:=⟨g,4,none⟩) (.inl (by simp)) _).own hown7 (by intro x hx; simp [Value.ownBlock] at hx; subst hx; simpa using hgg)⟩
 ·exact ((hb6.alloc (by omega) o).grown hgr (by simp; omega) (fun x hx => by rw [hv] at hx; injection hx with hx; omega)).setCell hgB _
 ·simpa using hg7.put 4 (.slice (some ⟨gg,0,none⟩) n7 cap7)
theorem srow_sl {w : World} {S : Nat -> Prop} {q : Rw} {ss : List ByteArray} (h : SRow w S q ss) : Sl w q.A (ss.map Value.string):=by
 intro j u hu
 rw [List.getElem?_map] at hu
 cases hs : ss[j]? with
 | none => rw [hs] at hu; cases hu
 | some s =>
  rw [hs] at hu
  injection hu with hu
  subst hu
  obtain ⟨b,o,c,h1,h2,h3,h4,h5,h6⟩:=h.2.2.2 j s hs
  subst h5
  have:=h4 0 _ rfl
  rw [Nat.mul_one,Nat.add_zero] at this
  exact ⟨b,o,h1,h2.2,this⟩
theorem dq (s : ByteArray) : PB.enc (tstr s) = tlvB 4 s.data.toList:=by
 unfold tstr PB.enc tlvB
 rw [if_neg (by decide)]
 rfl
theorem fg (c g : Nat) (b : ByteArray) : PB.enc (.mk c false g b []) = tlvB (bi c false g) b.data.toList:=by
 unfold PB.enc tlvB bi
 rw [if_neg (by decide),if_neg (by decide)]
 rfl
theorem dH (c g : Nat) (ks : List Tl) : PB.enc (.mk c true g ⟨#[]⟩ ks) = tlvB (bi c true g) (PB.encs ks):=by
 unfold PB.enc tlvB bi
 rw [if_pos rfl,if_pos rfl]
 rfl
theorem enc_list (ks : List Tl) : PB.enc (aF ks) = tlvB 48 (PB.encs ks):=dH 0 16 ks
theorem bC (x : UInt8) (l : List UInt8) : l.length < (tlvB x l).length:=by
 unfold tlvB
 rw [List.length_cons,List.length_append]
 omega
theorem cE (ks : List Tl) (j : Nat) : (PB.encs (ks.take j)).length <= (PB.encs ks).length:=by
 have h:=PB.encs_app (ks.take j) (ks.drop j)
 rw [List.take_append_drop] at h
 rw [h,List.length_append]
 omega
theorem cL {ks : List Tl} {k : Tl} (h : k ∈ ks) : (PB.enc k).length <= (PB.encs ks).length:=by
 induction ks with
 | nil => cases h
 | cons x ks ih =>
  unfold PB.encs
  rw [List.length_append]
  rcases List.mem_cons.1 h with rfl | h
  ·omega
  ·have:=ih h; omega
theorem cF {α : Type} {tl : α -> Tl} {ss : List α} {j : Nat} {x : α} (h : ss[j]? = some x) : PB.encs ((ss.take (j + 1)).map tl) = PB.encs ((ss.take j).map tl) ++ PB.enc (tl x):=by
 rw [take_more h,List.map_append,PB.encs_app]
 simp [PB.encs]
theorem aS {s : ByteArray} {l : List UInt8} (h : s.data.toList = l) : s.size = l.length:=by rw [<- h]; rfl
theorem cv (c : Nat) (k : Bool) (g : Nat) (x : UInt8) (b : ByteArray) (l : List UInt8) (w : World) (hx : bi c k g = x) (hc : c <= 3) (hg : g <= 30) (h : b.data.toList = l) (hb : l.length < 16777216) :
  Calls Tryz.prog 29 #[.int .i64 c,.bool k,.int .i64 g,.string b] w (RefS (tlvB x l) w):=by
 subst h
 subst hx
 exact dl c k g b w hc hg hb
theorem rlist_at (b : ByteArray) (l : List UInt8) (w : World) (h : b.data.toList = l) (hb : l.length < 16777216) : Calls Tryz.prog 28 #[.string b] w (RefS (tlvB 48 l) w):=by
 subst h
 exact rlist_any b w hb
theorem rtexts_any (A : Option Addr) (cap : Nat) (ss : List ByteArray) (w : World) (hsl : Sl w A (ss.map Value.string)) (hn : ss.length <= 1000000) (hl : (PB.encs (ss.map tstr)).length < 16000000) :
  Calls Tryz.prog 58 #[.slice A ss.length cap] w (RefS (PB.encs (ss.map tstr)) w):=by
 have HSL:=aa hsl
 have HL:=aa hl
 clear hsl hl
 go_enter Tryz.func58,Tryz.ntmps58
 go_wp2_with fail
 go_loopw [3,4] (fun u i wr => ∃ (j : Nat) (s : ByteArray),i = .int .i64 j /\ u = .string s /\ j <= ss.length /\ Hid (s.data.toList = PB.encs ((ss.take j).map tstr)) /\ Below w.heap.size w wr) (fun _ i _ => ss.length - (intOf i).toNat)
 case atStart => exact ⟨0,⟨#[]⟩,rfl,rfl,Nat.zero_le _,by unfold Hid; simp [PB.encs],Below.refl _ _⟩
 case round =>
  obtain ⟨j,s,rfl,rfl,hj,HS,hbw⟩:=hrel
  have HBW:=aa hbw
  clear hbw
  by_cases hlt : j < ss.length
  ·have z1 : decide ((j : Int) < (ss.length : Int)) = true:=ab (by omega)
   have hx : ss[j]? = some ss[j]:=List.getElem?_eq_getElem hlt
   obtain ⟨b,o,rfl,hbl,hc⟩:=HSL.out j (.string ss[j]) (by rw [List.getElem?_map,hx]; rfl)
   have c0 : wr.cell? ⟨b,o + j,none⟩ = some (.string ss[j]):=((bcell HBW.out).1 b (o + j) hbl).trans hc
   obtain ⟨t,ht⟩ : ∃ t,t = ss[j]:=⟨_,rfl⟩
   rw [<- ht] at c0 hx
   have HX:=aa (cF (tl:=tstr) hx)
   have hle : (PB.enc (tstr t)).length <= (PB.encs (ss.map tstr)).length:=cL (List.mem_map_of_mem (by rw [ht]; exact List.getElem_mem hlt))
   have hll:=HL.out
   rw [dq] at hle
   have htl:=bC 4 t.data.toList
   have hts : t.size = t.data.toList.length:=rfl
   have HC:=aa (dd t wr (by omega))
   have hsz : s.size <= 16000000:=by
    have:=cE (ss.map tstr) j
    rw [<- List.map_take] at this
    rw [aS HS.out]; omega
   have hnx : ∀ x : ByteArray,x.data.toList = tlvB 4 t.data.toList -> ¬ 9223372036854775807 < s.size + x.size:=fun x hx => by rw [aS hx]; omega
   have HNX:=aa hnx
   clear hx hc ht hle hll htl hts hsz hnx
   go_wp2_with (first
    | (go_at_call 26; refine HC.out.mono ?_; rintro e w2 ⟨hb2,x,rfl,hx⟩; have hnx:=HNX.out x hx; have HB2:=aa (HBW.out.trans (hb2.mono HBW.out.size)); have HXL:=aa hx; clear hb2 hx)
    | fail)
   go_roundw
   case rel => exact ⟨j + 1,s ++ x,by go_num,rfl,by omega,by unfold Hid; rw [aM,HS.out,HXL.out,HX.out,dq],HB2.out⟩
   case measure => simp [intOf]; omega
  ·have z1 : decide ((j : Int) < (ss.length : Int)) = false:=ae (by omega)
   have HF:=aa (show s.data.toList = PB.encs (ss.map tstr) by rw [HS.out,List.take_of_length_le (by omega)])
   go_wp2_with fail
   go_ret
   exact ⟨HBW.out,s,rfl,HF.out⟩
theorem rattr_any (name : ByteArray) (A : Option Addr) (cap : Nat) (ss : List ByteArray) (w : World) (hsl : Sl w A (ss.map Value.string)) (hn : ss.length <= 1000000) (hl : (PB.enc (bX name ss)).length < 16000000) :
  Calls Tryz.prog 60 #[.string name,.slice A ss.length cap] w (RefS (PB.enc (bX name ss)) w):=by
 have e0 : PB.enc (bX name ss) = tlvB 48 (tlvB 4 name.data.toList ++ tlvB 49 (PB.encs (ss.map tstr))):=by
  unfold bX
  rw [enc_list,PB.encs,dq,PB.encs,show (PB.enc (.mk 0 true 17 ⟨#[]⟩ (ss.map tstr))) = tlvB 49 (PB.encs (ss.map tstr)) from dH 0 17 _,PB.encs,List.append_nil]
 rw [e0] at hl |-
 have t1:=bC 48 (tlvB 4 name.data.toList ++ tlvB 49 (PB.encs (ss.map tstr)))
 rw [List.length_append] at t1
 have t2:=bC 4 name.data.toList
 have t3:=bC 49 (PB.encs (ss.map tstr))
 have t4 : name.size = name.data.toList.length:=rfl
 have H1:=aa fun W => dd name W (by omega)
 have H2:=aa fun W (hb : Below w.heap.size w W) => rtexts_any A cap ss W (hsl.off (Off.of_below hb []) (by simp)) hn (by omega)
 have H3:=aa fun (s : ByteArray) (h : s.data.toList = PB.encs (ss.map tstr)) (W : World) => cv 0 true 17 49 s _ W rfl (by omega) (by omega) h (by omega)
 have hnx : ∀ x y : ByteArray,x.data.toList = tlvB 4 name.data.toList -> y.data.toList = tlvB 49 (PB.encs (ss.map tstr)) -> ¬ 9223372036854775807 < x.size + y.size:=fun x y hx hy => by rw [aS hx,aS hy]; omega
 have H4:=aa fun (s : ByteArray) (h : s.data.toList = tlvB 4 name.data.toList ++ tlvB 49 (PB.encs (ss.map tstr))) (W : World) => rlist_at s _ W h (by rw [List.length_append]; omega)
 have HNX:=aa hnx
 clear hl e0 hsl t1 t2 t3 t4 hnx
 go_enter Tryz.func60,Tryz.ntmps60
 go_wp2_with (first
  | (go_at_call 26; refine (H1.out _).mono ?_; rintro e w2 ⟨hb2,x,rfl,hx⟩; have HB2:=aa hb2; have HX:=aa hx; clear hb2 hx)
  | (go_at_call 58; refine (H2.out _ HB2.out).mono ?_; rintro e w3 ⟨hb3,y,rfl,hy⟩; have HB3:=aa (HB2.out.trans (hb3.mono HB2.out.size)); have HY:=aa hy; clear hb3 hy)
  | (go_at_call 29; refine (H3.out y HY.out _).mono ?_; rintro e w4 ⟨hb4,z,rfl,hz⟩; have hnx:=HNX.out x z HX.out hz; have HB4:=aa (HB3.out.trans (hb4.mono HB3.out.size)); have HZ:=aa (show (x ++ z).data.toList = tlvB 4 name.data.toList ++ tlvB 49 (PB.encs (ss.map tstr)) by rw [aM,HX.out,hz]); clear hb4 hz)
  | (go_at_call 28; refine (H4.out (x ++ z) HZ.out _).mono ?_; rintro e w5 ⟨hb5,r,rfl,hr⟩; have HB5:=aa (HB4.out.trans (hb5.mono HB4.out.size)); have HR:=aa hr; clear hb5 hr)
  | fail)
 go_ret
 exact ⟨HB5.out,r,rfl,HR.out⟩
abbrev tz5 : Array Value:=#[.int .i64 0,.bool false,.int .i64 0,.string ⟨#[]⟩,.slice none 0 0]
def LeafC (t : Tl) (c : List Value) : Prop:=c.length = 5 /\ ∀ W S,TlAt W S t c.toArray
theorem All2.app {α β : Type} {R : α -> β -> Prop} {a : α} {b : β} (hr : R a b) : ∀ {l : List α} {k : List β},All2 R l k -> All2 R (l ++ [a]) (k ++ [b])
 | [],[],_ => ⟨hr,trivial⟩
 | _ :: _,_ :: _,h => ⟨h.1,h.2.app hr⟩
 | [],_ :: _,h => h.elim
 | _ :: _,[],h => h.elim
def NodeC (w wx : World) (T : TypeId) (cs : Array Value) (c tag : Int) (g bo n cap : Nat) (css : List (List Value)) (ts : List Tl) : Prop :=
 Below w.heap.size w wx /\ Bk wx w.heap.size T cs /\ Bk wx (w.heap.size + 1) 42 tz5 /\ Bk wx g 42 #[.int .i64 c,.bool true,.int .i64 tag,.string ⟨#[]⟩,.slice (some ⟨bo,0,none⟩) n cap] ∧
  (w.heap.size + 2 <= g /\ bo ≠ g /\ w.heap.size + 2 <= bo /\ n <= 50) /\ wx.ownsRow w.heap.size 42 5 (.slice (some ⟨bo,0,none⟩) n cap) n css.flatten /\ All2 LeafC ts css /\ n = ts.length
theorem NodeC.push {w wx w6 w7 : World} {T : TypeId} {cs : Array Value} {c tag : Int} {g bo n cap gg cap7 : Nat} {css : List (List Value)} {ts : List Tl} {t : Tl} {r : List Value} {o : Obj} (h : NodeC w wx T cs c tag g bo n cap css ts) (hb6 : Below wx.heap.size wx.drew w6) (hr : LeafC t r) (hn : n <= 49)
  (hown7 : w7.ownsRow w.heap.size 42 5 (.slice (some ⟨gg,0,none⟩) (n + 1) cap7) (n + 1) (css.flatten ++ r)) (hgr : (w6.alloc o).grownBy w7 (Value.slice (some ⟨bo,0,none⟩) n cap).ownBlock) (hat : (Value.slice (some ⟨bo,0,none⟩) n cap).ownBlock = some gg \/ gg = w6.heap.size + 1) :
  NodeC w (w7.setCell ⟨g,4,none⟩ (.slice (some ⟨gg,0,none⟩) (n + 1) cap7)) T cs c tag g gg (n + 1) cap7 (css ++ [r]) (ts ++ [t]):=by
 obtain ⟨h1,h2,h3,h4,⟨h5,h6,h7,h7'⟩,h8,h9,h10⟩:=h
 have hb:=h1.drew.trans (hb6.mono h1.size)
 have hg6:=af h4.drew hb6
 have hk6:=af h2.drew hb6
 have hz6:=af h3.drew hb6
 have hN:=fD (bo:=bo) hb (Nat.le_refl _) hg6 hk6 (by omega) rfl h6 (by omega) (by omega) (by omega) hown7 hgr hat
 have hN2:=fD (bo:=bo) hb (Nat.le_refl _) hg6 hz6 (by omega) rfl h6 (by omega) (by omega) (by omega) hown7 hgr hat
 have hgl:=hg6.lt
 have hgg : gg ≠ g /\ w.heap.size + 2 <= gg:=by
  rcases hat with h | h
  ·have h : some bo = some gg:=h
   injection h with h
   omega
  ·omega
 exact ⟨hN.1,hN.2.2.1,hN2.2.2.1,hN.2.1,⟨h5,hgg.1,hgg.2,by omega⟩,by simpa using hN.2.2.2,h9.app hr,by simp [h10]⟩
theorem own_base {w : World} {B B' bo n cap k : Nat} {E : TypeId} {xs : List Value} (h : w.ownsRow B E k (.slice (some ⟨bo,0,none⟩) n cap) n xs) (hB : B' <= bo) : w.ownsRow B' E k (.slice (some ⟨bo,0,none⟩) n cap) n xs:=by
 obtain ⟨h1,h2⟩:=h
 refine ⟨h1,?_⟩
 rcases h2 with ⟨h,-⟩ | ⟨g,c,cur,hv,hb,r⟩
 ·cases h
 ·refine .inr ⟨g,c,cur,hv,?_,r⟩
  injection hv with hv _ _
  injection hv with hv
  injection hv with hv
  omega
theorem NodeC.tree {w wx : World} {T : TypeId} {cs : Array Value} {c tag : Int} {g bo n cap : Nat} {css : List (List Value)} {ts : List Tl} (h : NodeC w wx T cs c tag g bo n cap css ts) (hc : (Lit.int .i64 c).wf = true) (ht : (Lit.int .i64 tag).wf = true) :
  TlAt wx (fun x => w.heap.size + 2 <= x) (.mk c true tag ⟨#[]⟩ ts) #[.int .i64 c,.bool true,.int .i64 tag,.string ⟨#[]⟩,.slice (some ⟨bo,0,none⟩) n cap]:=by
 obtain ⟨h1,h2,h3,h4,h5,h8,h9,rfl⟩:=h
 exact grow_at c tag (GRow.leaves (own_base h8 h5.2.2.1) h9.len.symm (fun c hx => h9.right (P:=fun c => c.length = 5) (fun _ _ h => h.1) c hx) (fun i t c hi hx => (h9.get i t c hi hx).2)) hc ht
theorem NodeC.done {w wx w5 : World} {T : TypeId} {cs : Array Value} {c tag : Int} {g bo n cap : Nat} {css : List (List Value)} {ts : List Tl} {t : Tl} (h : NodeC w wx T cs c tag g bo n cap css ts) (hc : (Lit.int .i64 c).wf = true) (ht : (Lit.int .i64 tag).wf = true) (hof : Off [w.heap.size + 1] wx w5) (he : t = .mk c true tag ⟨#[]⟩ ts) :
  RetT t w (.returned (.agg #[.int .i64 c,.bool true,.int .i64 tag,.string ⟨#[]⟩,.slice (some ⟨bo,0,none⟩) n cap])) w5:=by
 subst he
 refine ⟨h.1.trans (hof.below h.1.size (by simp)),_,rfl,TlAt.keep hof.size (fun x hx hlt => hof.block x hlt ?_) (fun x hx _ => ?_) _ _ (h.tree hc ht)⟩
 ·have hx : w.heap.size + 2 <= x:=hx
  simp
  omega
 ·have hx : w.heap.size + 2 <= x:=hx
  show w.heap.size <= x
  omega
structure FilW (w wc : World) (k : Int) (fc : List Value) : Prop where
 size : wc.heap.size = w.heap.size + 3
 below : Below w.heap.size w wc
 box : Bk wc w.heap.size 25 fc.toArray
 res : Bk wc (w.heap.size + 1) 42 tz5
 val : Bk wc (w.heap.size + 2) 42 #[.int .i64 2,.bool true,.int .i64 k,.string ⟨#[]⟩,.slice none 0 0]
theorem FilW.done {w wc w1 w9 : World} {k : Int} {fc : List Value} {q : Rw} {ts : List Tl} {g : Int} (h : FilW w wc k fc) (hb : Below wc.heap.size wc w1) (hq : RowOf 5 TlL w1 (fun x => wc.heap.size <= x) q ts) (hg : (Lit.int .i64 g).wf = true) (hof : Off [w.heap.size + 1,w.heap.size + 2] w1 w9) :
  RetT (.mk 2 true g ⟨#[]⟩ ts) w (.returned (.agg #[.int .i64 2,.bool true,.int .i64 g,.string ⟨#[]⟩,.slice q.A q.n q.c])) w9:=by
 have h1:=h.below.trans (hb.mono h.below.size)
 refine ⟨h1.trans (hof.below h1.size (by intro x hx; simp at hx; omega)),_,rfl,TlAt.keep hof.size (fun x hx hlt => hof.block x hlt ?_) (fun x hx _ => ?_) _ _ (kids_at 2 g true ⟨#[]⟩ hq rfl hg (Nat.zero_le _))⟩
 ·have hx : wc.heap.size <= x:=hx
  have:=h.size
  simp
  omega
 ·have hx : wc.heap.size <= x:=hx
  have:=h.size
  show w.heap.size <= x
  omega
mutual
def Fl.slim : Fl -> Prop
 | .mk _ _ _ _ any _ kids => any.length <= 1000000 /\ kids.length <= 1000000 /\ Fl.slims kids
def Fl.slims : List Fl -> Prop
 | [] => True
 | k :: ks => k.slim /\ Fl.slims ks
end
structure OpWd (w wz : World) (op : Int) (k : Bool) (cs : Array Value) : Prop where
 size : wz.heap.size = w.heap.size + 3
 below : Below w.heap.size w wz
 box : Bk wz w.heap.size 30 cs
 res : Bk wz (w.heap.size + 1) 42 tz5
 val : Bk wz (w.heap.size + 2) 42 #[.int .i64 1,.bool k,.int .i64 op,.string ⟨#[]⟩,.slice none 0 0]
def Ms.small (M : Ms) : Prop:=M.attrs.length <= 40000 /\ M.dest.length <= 40000 /\ (M.list.length <= 40000 /\ ∀ a ∈ M.list,a.2.length <= 40000) /\ (M.mods.length <= 40000 /\ ∀ a ∈ M.mods,a.2.2.length <= 40000) /\ M.controls.length <= 40000
theorem dZ {n lo hi : Int} (h : inB n lo hi = true) : lo <= n /\ n <= hi:=by simpa [inB] using h
theorem Ms.ops (M : Ms) (h : M.ranged = true) : M.op = 0 \/ M.op = 3 \/ M.op = 4 \/ M.op = 8 \/ M.op = 6 \/ M.op = 12 \/ M.op = 14 \/ M.op = 23 \/ M.op = 2 \/ M.op = 10 \/ M.op = 16 ∨
  (aD M.op = true /\ inB M.code 0 127 = true /\ M.op ≠ 0 /\ M.op ≠ 3 /\ M.op ≠ 4 /\ M.op ≠ 8 /\ M.op ≠ 6 /\ M.op ≠ 12 /\ M.op ≠ 14 /\ M.op ≠ 23 /\ M.op ≠ 2 /\ M.op ≠ 10 /\ M.op ≠ 16):=by
 by_cases h0 : M.op = 0; · exact .inl h0
 by_cases h3 : M.op = 3; · simp [h3]
 by_cases h4 : M.op = 4; · simp [h4]
 by_cases h8 : M.op = 8; · simp [h8]
 by_cases h6 : M.op = 6; · simp [h6]
 by_cases h12 : M.op = 12; · simp [h12]
 by_cases h14 : M.op = 14; · simp [h14]
 by_cases h23 : M.op = 23; · simp [h23]
 by_cases h2 : M.op = 2; · simp [h2]
 by_cases h10 : M.op = 10; · simp [h10]
 by_cases h16 : M.op = 16; · simp [h16]
 unfold Ms.ranged at h
 rw [if_neg h0,if_neg h3,if_neg h6,if_neg h12,if_neg h16,if_neg h23,if_neg (by simp [h2,h4,h8,h10,h14])] at h
 simp only [Bool.and_eq_true] at h
 simp [h0,h3,h4,h8,h6,h12,h14,h23,h2,h10,h16,h.1,h.2]
structure EncN (w wx : World) (cs : Array Value) (g sb : Nat) (t1 t2 : Tl) (xs ys : List Value) : Prop where
 below : Below w.heap.size w wx
 box : Bk wx w.heap.size 30 cs
 val : Bk wx g 42 #[.int .i64 0,.bool true,.int .i64 16,.string ⟨#[]⟩,.slice (some ⟨sb,0,none⟩) 2 2]
 row : Bk wx sb 42 (xs ++ ys).toArray
 leaf : LeafC t1 xs
 tree : ys.length = 5 /\ TlAt wx (fun x => x ≠ g /\ x ≠ sb) t2 ys.toArray
 ne : sb ≠ g /\ w.heap.size < g /\ w.heap.size < sb
def AnyAt (w : World) (t : Tl) (c : List Value) : Prop:=c.length = 5 /\ TlAt w (fun _ => True) t c.toArray
theorem anyRow {w : World} {S : Nat -> Prop} {q : Rw} {ts : List Tl} (h : RowOf 5 (fun _ _ t c => AnyAt w t c) w S q ts) : RowOf 5 TlL w (fun _ => True) q ts:=by
 obtain ⟨h1,h2,h3,h4⟩:=h
 refine ⟨h1,h2,h3,fun i d hd => ?_⟩
 obtain ⟨b,o,c,q1,q2,q3,q4,q5⟩:=h4 i d hd
 exact ⟨b,o,c,q1,⟨trivial,q2.2⟩,q3,q4,q5.2⟩
theorem row_any {w : World} {B n cap : Nat} {A : Option Addr} {ts : List Tl} {css : List (List Value)} (hown : w.ownsRow B 42 5 (.slice A n cap) ts.length css.flatten) (hA : All2 (AnyAt w) ts css) : RowOf 5 TlL w (fun _ => True) ⟨A,n,cap⟩ ts:=by
 have hG : GRow 42 5 (fun _ _ t c => AnyAt w t c) w B (.slice A n cap) ts:=⟨css,hA.len.symm,fun c hx => hA.right (P:=fun c => c.length = 5) (fun _ _ h => h.1) c hx,hown,fun i t c ht hc => hA.get i t c ht hc⟩
 obtain ⟨q,e,hq⟩:=GRow.row (fun _ _ _ _ _ h => h) hG
 injection e with e1 e2 e3
 have:=anyRow hq
 obtain ⟨qA,qn,qc⟩:=q
 simp only at e1 e2 e3
 subst e1 e2 e3
 exact this
theorem EncN.own {w wx : World} {cs : Array Value} {g sb : Nat} {t1 t2 : Tl} {xs ys : List Value} (h : EncN w wx cs g sb t1 t2 xs ys) : wx.ownsRow w.heap.size 42 5 (.slice (some ⟨sb,0,none⟩) 2 2) 2 (xs ++ ys) :=
 ⟨by rw [List.length_append,h.leaf.1,h.tree.1],.inr ⟨sb,2,(xs ++ ys).toArray,rfl,by have:=h.ne.2.2; omega,h.row,Nat.le_refl _,by unfold maxLen; omega,by simp [h.leaf.1,h.tree.1],by rw [List.take_of_length_le (by simp [h.leaf.1,h.tree.1])]⟩⟩
theorem EncN.two {w wx : World} {cs : Array Value} {g sb : Nat} {t1 t2 : Tl} {xs ys : List Value} (h : EncN w wx cs g sb t1 t2 xs ys) : TlAt wx (fun _ => True) (aF [t1,t2]) #[.int .i64 0,.bool true,.int .i64 16,.string ⟨#[]⟩,.slice (some ⟨sb,0,none⟩) 2 2] :=
 kids_at 0 16 true ⟨#[]⟩ (row_any (css:=[xs,ys]) (ts:=[t1,t2]) (by simpa using h.own) ⟨⟨h.leaf.1,h.leaf.2 _ _⟩,⟨h.tree.1,TlAt.keep (Nat.le_refl _) (fun _ _ _ => rfl) (fun _ _ _ => trivial) _ _ h.tree.2⟩,trivial⟩) rfl rfl (Nat.zero_le _)
theorem EncN.three {w wx w6 w7 : World} {cs : Array Value} {g sb gg cap7 : Nat} {t1 t2 t3 : Tl} {xs ys zs : List Value} {o : Obj} (h : EncN w wx cs g sb t1 t2 xs ys) (hb6 : Below wx.heap.size wx.drew w6) (hz : zs.length = 5) (ht : TlAt w6 (fun x => wx.heap.size <= x) t3 zs.toArray)
  (hown7 : w7.ownsRow w.heap.size 42 5 (.slice (some ⟨gg,0,none⟩) 3 cap7) 3 ((xs ++ ys) ++ zs)) (hgr : (w6.alloc o).grownBy w7 (Value.slice (some ⟨sb,0,none⟩) 2 2).ownBlock) (hat : (Value.slice (some ⟨sb,0,none⟩) 2 2).ownBlock = some gg \/ gg = w6.heap.size + 1) :
  Below w.heap.size w (w7.setCell ⟨g,4,none⟩ (.slice (some ⟨gg,0,none⟩) 3 cap7)) /\ Bk (w7.setCell ⟨g,4,none⟩ (.slice (some ⟨gg,0,none⟩) 3 cap7)) g 42 #[.int .i64 0,.bool true,.int .i64 16,.string ⟨#[]⟩,.slice (some ⟨gg,0,none⟩) 3 cap7] ∧
   TlAt (w7.setCell ⟨g,4,none⟩ (.slice (some ⟨gg,0,none⟩) 3 cap7)) (fun _ => True) (aF [t1,t2,t3]) #[.int .i64 0,.bool true,.int .i64 16,.string ⟨#[]⟩,.slice (some ⟨gg,0,none⟩) 3 cap7]:=by
 have hb:=h.below.drew.trans (hb6.mono h.below.size)
 have hg6:=af h.val.drew hb6
 have hk6:=af h.box.drew hb6
 obtain ⟨n1,n2,n3⟩:=h.ne
 have hN:=fD (bo:=sb) hb (Nat.le_refl _) hg6 hk6 (by omega) rfl n1 (by omega) (by omega) (by omega) hown7 hgr hat
 have hs6:=hb6.size
 have hgl:=h.val.lt
 have hsl:=h.row.lt
 have hs6' : wx.heap.size <= w6.heap.size:=hs6
 have hgs:=hgr.size
 have hkeep : ∀ x,x ≠ g -> x ≠ sb -> x < w6.heap.size -> (w7.setCell ⟨g,4,none⟩ (.slice (some ⟨gg,0,none⟩) 3 cap7)).heap[x]? = w6.heap[x]?:=fun x h1 h2 h3 => by
  have e1:=Below.heap_setCell w7 ⟨g,4,none⟩ (.slice (some ⟨gg,0,none⟩) 3 cap7) x h1
  have e2:=hgr.block x (by simp; omega) (by simp [Value.ownBlock]; exact h2)
  have e3:=Below.heap_alloc w6 o x h3
  exact e1.trans (e2.trans e3)
 have hsz : w6.heap.size <= (w7.setCell ⟨g,4,none⟩ (.slice (some ⟨gg,0,none⟩) 3 cap7)).heap.size:=by simp at hgs |-; omega
 have ht2 : TlAt w6 (fun x => x ≠ g /\ x ≠ sb) t2 ys.toArray:=TlAt.below (w:=wx.drew) hb6 _ _ (TlAt.keep (w:=wx) (w':=wx.drew) (Nat.le_refl _) (fun _ _ _ => rfl) (fun _ hx _ => hx) _ _ h.tree.2)
 refine ⟨hN.1,hN.2.1,kids_at 0 16 true ⟨#[]⟩ (row_any (css:=[xs,ys,zs]) (ts:=[t1,t2,t3]) (by simpa using hN.2.2.2) ⟨⟨h.leaf.1,h.leaf.2 _ _⟩,⟨h.tree.1,?_⟩,⟨hz,?_⟩,trivial⟩) rfl rfl (Nat.zero_le _)⟩
 ·exact TlAt.keep hsz (fun x hx hlt => hkeep x hx.1 hx.2 hlt) (fun _ _ _ => trivial) _ _ ht2
 ·exact TlAt.keep hsz (fun x hx hlt => hkeep x (by have hx : wx.heap.size <= x:=hx; omega) (by have hx : wx.heap.size <= x:=hx; omega) hlt) (fun _ _ _ => trivial) _ _ ht
theorem rattrs_any (q : Rw) (S : Nat -> Prop) (ds : List At) (w : World) (h : RowOf 2 dk w S q ds) (hn : ds.length <= 1000000) (hnn : ∀ d ∈ ds,d.2.length <= 1000000) (hl : (PB.encs (ds.map tat)).length < 16000000) :
  Calls Tryz.prog 59 #[.slice q.A q.n q.c] w (RefS (PB.encs (ds.map tat)) w):=by
 obtain ⟨A,n,cap⟩:=q
 obtain ⟨r1,r2,r3,r4⟩:=h
 simp only at r1 r2 r3 r4
 subst r1
 have H4:=aa r4
 have HL:=aa hl
 have HNN:=aa hnn
 have hcm : cap <= 9223372036854775807:=by unfold maxLen at r3; omega
 clear r4 r3 hl hnn
 go_enter Tryz.func59,Tryz.ntmps59
 go_wp2_with fail
 go_loopw [3,4] (fun u i wr => ∃ (j : Nat) (s : ByteArray),i = .int .i64 j /\ u = .string s /\ j <= ds.length /\ Hid (s.data.toList = PB.encs ((ds.take j).map tat)) /\ Below w.heap.size w wr) (fun _ i _ => ds.length - (intOf i).toNat)
 case atStart => exact ⟨0,⟨#[]⟩,rfl,rfl,Nat.zero_le _,by unfold Hid; simp [PB.encs],Below.refl _ _⟩
 case round =>
  obtain ⟨j,s,rfl,rfl,hj,HS,hbw⟩:=hrel
  have HBW:=aa hbw
  by_cases hlt : j < ds.length
  ·have z1 : decide ((j : Int) < (ds.length : Int)) = true:=ab (by omega)
   obtain ⟨b,o,c,rfl,hS,hcl,hc,hat9⟩:=H4.out j ds[j] (List.getElem?_eq_getElem hlt)
   have hbl : b < wr.heap.size:=Nat.lt_of_lt_of_le hS.2 hbw.size
   have hcw : ∀ o',wr.cell? ⟨b,o',none⟩ = w.cell? ⟨b,o',none⟩:=fun o' => hbw.cell (p:=⟨b,o',none⟩) hS.2
   have hx : ds[j]? = some ds[j]:=List.getElem?_eq_getElem hlt
   have hmem:=List.getElem_mem hlt
   obtain ⟨d,hd⟩ : ∃ d,d = ds[j]:=⟨_,rfl⟩
   rw [<- hd] at hat9 hx hmem
   obtain ⟨⟨qA,qn,qc⟩,rfl,hsz,hss⟩:=hat9
   have hsl:=srow_sl hss
   obtain ⟨s1,s2,s3,s4⟩:=hss
   simp only at s1 s2 s3 hsl
   subst s1
   have q1 : wr.cell? ⟨b,o + j * 2,none⟩ = some (.string d.1):=(hcw _).trans (hc 0 _ rfl)
   have q2 : wr.cell? ⟨b,o + j * 2 + 1,none⟩ = some (.slice qA d.2.length qc):=(hcw _).trans (hc 1 _ rfl)
   have HX:=aa (cF (tl:=tat) hx)
   have hle : (PB.enc (tat d)).length <= (PB.encs (ds.map tat)).length:=cL (List.mem_map_of_mem hmem)
   have hll:=HL.out
   have HC:=aa fun (W : World) (hb : Below wr.heap.size wr W) => rattr_any d.1 qA qc d.2 W (hsl.off (Off.of_below (hbw.trans (hb.mono hbw.size)) []) (by simp)) (HNN.out d hmem) (by show (PB.enc (tat d)).length < _; omega)
   have hsize : s.size <= 16000000:=by
    have:=cE (ds.map tat) j
    rw [<- List.map_take] at this
    rw [aS HS.out]; omega
   have HNX:=aa fun (x : ByteArray) (hx : x.data.toList = PB.enc (tat d)) => show ¬ 9223372036854775807 < s.size + x.size by rw [aS hx]; omega
   have HKS:=aa fun (W : World) (hb : Below wr.heap.size wr W) => (show W.cell? ⟨b,o + j * 2,none⟩ = some (.string d.1) /\ W.cell? ⟨b,o + j * 2 + 1,none⟩ = some (.slice qA d.2.length qc) from ⟨(hb.cell (p:=⟨b,o + j * 2,none⟩) hbl).trans q1,(hb.cell (p:=⟨b,o + j * 2 + 1,none⟩) hbl).trans q2⟩)
   have HBR:=aa (Below.refl wr.heap.size wr).drew
   clear hx hc hd hle hll hsize hS hcl hcw hsl s4 hbw hmem
   go_wp2_with fail
   go_region_held3 (fun W => W.cell? ⟨b,o + j * 2,none⟩ = some (.string d.1) /\ W.cell? ⟨b,o + j * 2 + 1,none⟩ = some (.slice qA d.2.length qc))
    (first | (with_reducible exact HKS.out _ HBR.out) | (with_reducible exact HKS.out _ (by assumption)))
    (first
     | (go_at_call 60; refine (HC.out _ HBR.out).mono ?_; rintro e w2 ⟨hb2,x,rfl,hxl⟩; have hnx:=HNX.out x hxl; have hn2:=aj HBR.out hb2; have HXL:=aa hxl)
     | fail)
   all_goals
    have HB2:=aa (HBW.out.trans (hn2.mono HBW.out.size))
    go_wp2_with fail
    go_roundw
    case rel => exact ⟨j + 1,s ++ x,by go_num,rfl,by omega,by unfold Hid; rw [aM,HS.out,HXL.out,HX.out]; rfl,HB2.out⟩
    case measure => simp [intOf]; omega
  ·have z1 : decide ((j : Int) < (ds.length : Int)) = false:=ae (by omega)
   have HF:=aa (show s.data.toList = PB.encs (ds.map tat) by rw [HS.out,List.take_of_length_le (by omega)])
   clear hbw
   go_wp2_with fail
   go_ret
   exact ⟨HBW.out,s,rfl,HF.out⟩
end Go.Proofs.YtbiglfpikfjbpaaGreatDoor
