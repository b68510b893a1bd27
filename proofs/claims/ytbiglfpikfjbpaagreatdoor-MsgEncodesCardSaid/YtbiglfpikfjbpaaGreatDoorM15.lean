import Derived.Test.YtbiglfpikfjbpaaGreatDoorM14
import Derived.Deep.DeepCutAuto
namespace Go.Proofs.YtbiglfpikfjbpaaGreatDoor
open Go.RowKit
set_option maxRecDepth 100000
set_option linter.unusedVariables false
set_option linter.unusedSimpArgs false
set_option maxHeartbeats 40000000
def opP (id : Int) : Tl -> Option Ms
 | .mk c k op s ks =>
  if c ≠ 1 then none
  else if op = 2 /\ k = false /\ aj s = false then some (Ms.base id 2)
  else if op = 10 /\ k = false then some { Ms.base id 10 with name:=s }
  else if op = 16 /\ k = false then (dx false s 0 2147483647).map fun n => { Ms.base id 16 with other:=n }
  else if k = false \/ op = 2 \/ op = 10 \/ op = 16 then none
  else (bg id op ks).bind fun p => if p.2 = [] then some p.1 else none
theorem fF (id c op : Int) (k : Bool) (s : ByteArray) (ks : List Tl) : opP id (.mk c k op s ks) =
  if c ≠ 1 then none
  else if op = 2 /\ k = false /\ aj s = false then some (Ms.base id 2)
  else if op = 10 /\ k = false then some { Ms.base id 10 with name:=s }
  else if op = 16 /\ k = false then (dx false s 0 2147483647).map fun n => { Ms.base id 16 with other:=n }
  else if k = false \/ op = 2 \/ op = 10 \/ op = 16 then none
  else (bg id op ks).bind fun p => if p.2 = [] then some p.1 else none:=rfl
def RdO (g : Nat) (r : Option Ms) (w : World) (e : Ending) (w' : World) : Prop :=
 Off [g] w w' /\ ((r = none /\ bG e /\ OldM w' g) \/ ∃ (M : Ms) (m : MC),r = some M /\ e = .returned (.tuple #[]) /\ Bk w' g 30 m.cells /\ MsAt w' (fun x => w.heap.size <= x) M m)
theorem base_op (id op : Int) : (MC.base id 0).cells.setIfInBounds 1 (.int .i64 op) = (MC.base id op).cells:=MC.put_op _ _
abbrev tlv5 (c : Int) (k : Bool) (t : Int) (s : ByteArray) (A : Option Addr) (n cap : Nat) : Obj:=.cells #[.int .i64 c,.bool k,.int .i64 t,.string s,.slice A n cap] 42
theorem ea {w : World} {g : Nat} {id : Int} (hg : Bk w g 30 (MC.base id 0).cells) (op : Int) (o : Obj) : Bk ((w.setCell ⟨g,1,none⟩ (.int .i64 op)).alloc o) g 30 (MC.base id op).cells /\ Off [g] w ((w.setCell ⟨g,1,none⟩ (.int .i64 op)).alloc o):=by
 have h:=(hg.put 1 (.int .i64 op)).alloc o
 rw [base_op] at h
 exact ⟨h,((Off.refl [g] w).setCell (.inl (by simp)) _).alloc o⟩
theorem oper_class (id c op : Int) (k : Bool) (s : ByteArray) (A : Option Addr) (n cap : Nat) (g : Nat) (w : World) (hg : Bk w g 30 (MC.base id 0).cells) (hc : c ≠ 1) :
  Calls Tryz.prog 42 #[.agg #[.int .i64 c,.bool k,.int .i64 op,.string s,.slice A n cap],.pointer (some ⟨g,0,none⟩)] w fun e w' => Off [g] w w' /\ bG e /\ OldM w' g:=by
 have HO:=aa (ea hg op (tlv5 c k op s A n cap)).2
 have HOB:=aa (ea hg op (tlv5 c k op s A n cap)).1
 have c1 : w.cell? ⟨g,1,none⟩ = some (.int .i64 0):=hg.cell 1
 have f1:=hg.frozen 1
 have hlt:=hg.lt
 have h1 : (c == 1) = false:=by simpa using hc
 have h2 : (c != 1) = true:=by simpa using hc
 clear hg hc
 go_enter Tryz.func42,Tryz.ntmps42
 go_wp2_with fail
 exact ⟨rfl,HO.out,rfl,⟨_,HOB.out,rfl⟩⟩
theorem oper_no (id op : Int) (k : Bool) (s : ByteArray) (A : Option Addr) (n cap : Nat) (g : Nat) (w : World) (hg : Bk w g 30 (MC.base id 0).cells)
  (h : (k = false /\ op = 2 /\ aj s = true) \/ (k = false /\ op ≠ 2 /\ op ≠ 10 /\ op ≠ 16) \/ (k = true /\ op = 2) \/ (k = true /\ op = 10) \/ (k = true /\ op = 16)) :
  Calls Tryz.prog 42 #[.agg #[.int .i64 1,.bool k,.int .i64 op,.string s,.slice A n cap],.pointer (some ⟨g,0,none⟩)] w fun e w' => Off [g] w w' /\ bG e /\ OldM w' g:=by
 have HO:=aa (ea hg op (tlv5 1 k op s A n cap)).2
 have HOB:=aa (ea hg op (tlv5 1 k op s A n cap)).1
 have c1 : w.cell? ⟨g,1,none⟩ = some (.int .i64 0):=hg.cell 1
 have f1:=hg.frozen 1
 have hlt:=hg.lt
 clear hg
 rcases h with ⟨rfl,rfl,hs⟩ | ⟨rfl,h2,h10,h16⟩ | ⟨rfl,rfl⟩ | ⟨rfl,rfl⟩ | ⟨rfl,rfl⟩
 ·have hf1 : (!s.toList.isEmpty) = true:=hs
  have hf2 : s.toList.isEmpty = false:=by simpa using hf1
  clear hs
  go_enter Tryz.func42,Tryz.ntmps42
  go_wp2_with fail
  exact ⟨rfl,HO.out,rfl,⟨_,HOB.out,rfl⟩⟩
 ·have q2 : (op == 2) = false:=by simpa using h2
  have q10 : (op == 10) = false:=by simpa using h10
  have q16 : (op == 16) = false:=by simpa using h16
  clear h2 h10 h16
  go_enter Tryz.func42,Tryz.ntmps42
  go_wp2_with fail
  exact ⟨rfl,HO.out,rfl,⟨_,HOB.out,rfl⟩⟩
 all_goals
  go_enter Tryz.func42,Tryz.ntmps42
  go_wp2_with fail
  exact ⟨rfl,HO.out,rfl,⟨_,HOB.out,rfl⟩⟩
theorem oper_unbind (id : Int) (s : ByteArray) (A : Option Addr) (n cap : Nat) (g : Nat) (w : World) (hg : Bk w g 30 (MC.base id 0).cells) (hs : aj s = false) :
  Calls Tryz.prog 42 #[.agg #[.int .i64 1,.bool false,.int .i64 2,.string s,.slice A n cap],.pointer (some ⟨g,0,none⟩)] w (RdO g (some (Ms.base id 2)) w):=by
 have HO:=aa (ea hg 2 (tlv5 1 false 2 s A n cap))
 have c1 : w.cell? ⟨g,1,none⟩ = some (.int .i64 0):=hg.cell 1
 have f1:=hg.frozen 1
 have hlt:=hg.lt
 have hf1 : (!s.toList.isEmpty) = false:=hs
 have hf2 : s.toList.isEmpty = true:=by simpa using hf1
 have hf3 : s.toList = []:=by simpa using hf2
 clear hg hs
 go_enter Tryz.func42,Tryz.ntmps42
 go_wp2_with fail
 go_end0
 exact ⟨HO.out.2,.inr ⟨_,_,rfl,rfl,HO.out.1,MsAt.flat rfl rfl rfl rfl rfl rfl ⟨Nat.zero_le _,Nat.zero_le _,Nat.zero_le _,Nat.zero_le _,Nat.zero_le _,Nat.zero_le _⟩⟩⟩
theorem oper_delete (id : Int) (s : ByteArray) (A : Option Addr) (n cap : Nat) (g : Nat) (w : World) (hg : Bk w g 30 (MC.base id 0).cells) (hs : s.size <= maxLen) :
  Calls Tryz.prog 42 #[.agg #[.int .i64 1,.bool false,.int .i64 10,.string s,.slice A n cap],.pointer (some ⟨g,0,none⟩)] w (RdO g (some { Ms.base id 10 with name:=s }) w):=by
 have HS:=aa hs
 have c1 : w.cell? ⟨g,1,none⟩ = some (.int .i64 0):=hg.cell 1
 have f1:=hg.frozen 1
 have c3 : w.cell? ⟨g,3,none⟩ = some (.string ⟨#[]⟩):=hg.cell 3
 have f3:=hg.frozen 3
 have hlt:=hg.lt
 have hb:=((hg.put 1 (.int .i64 10)).put 3 (.string s)).alloc (tlv5 1 false 10 s A n cap)
 rw [base_op,MC.put_name] at hb
 have HB:=aa hb
 have HO:=aa ((((Off.refl [g] w).setCell (p:=⟨g,1,none⟩) (.inl (by simp)) (.int .i64 10)).setCell (p:=⟨g,3,none⟩) (.inl (by simp)) (.string s)).alloc (tlv5 1 false 10 s A n cap))
 clear hg hs hb
 go_enter Tryz.func42,Tryz.ntmps42
 go_wp2_with fail
 go_end0
 exact ⟨HO.out,.inr ⟨{ Ms.base id 10 with name:=s },_,rfl,rfl,HB.out,MsAt.flat rfl rfl rfl rfl rfl rfl ⟨HS.out,Nat.zero_le _,Nat.zero_le _,Nat.zero_le _,Nat.zero_le _,Nat.zero_le _⟩⟩⟩
theorem oper_abandon (id : Int) (s : ByteArray) (A : Option Addr) (n cap : Nat) (g : Nat) (w : World) (hg : Bk w g 30 (MC.base id 0).cells) (hs : s.size <= maxLen) :
  Calls Tryz.prog 42 #[.agg #[.int .i64 1,.bool false,.int .i64 16,.string s,.slice A n cap],.pointer (some ⟨g,0,none⟩)] w (RdO g ((dx false s 0 2147483647).map fun n => { Ms.base id 16 with other:=n }) w):=by
 have HO:=aa (ea hg 16 (tlv5 1 false 16 s A n cap))
 have c1 : w.cell? ⟨g,1,none⟩ = some (.int .i64 0):=hg.cell 1
 have f1:=hg.frozen 1
 have hlt:=hg.lt
 clear hg
 cases hn : PB.isNum false s.data.toList with
 | false =>
  have H2:=aa (fun W => number_no 1 16 false s A n cap W hs hn)
  have HN:=aa hn
  clear hn hs
  go_enter Tryz.func42,Tryz.ntmps42
  go_wp2_with fail
  (go_at_call 68)
  refine (H2.out _).mono ?_
  rintro e w3 ⟨rfl,hb3⟩
  have HB3:=aa hb3
  clear hb3
  go_wp2_with fail
  exact ⟨rfl,HO.out.2.trans (Off.of_below HB3.out _),.inl ⟨by simp [dx,HN.out],rfl,⟨_,af HO.out.1 HB3.out,rfl⟩⟩⟩
 | true =>
  have H2:=aa (fun W => number_yes 1 16 s A n cap W hn)
  have HN:=aa hn
  obtain ⟨z,hz⟩ : ∃ z,z = PB.sgn s.data.toList:=⟨_,rfl⟩
  rw [<- hz] at H2
  have HZ:=aa hz
  clear hn hz hs
  go_enter Tryz.func42,Tryz.ntmps42
  go_wp2_with fail
  (go_at_call 68)
  refine (H2.out _).mono ?_
  rintro e w3 ⟨rfl,hb3⟩
  have HB3:=aa hb3
  have hb4:=(Off.of_below hb3 []).bk HO.out.1 (by simp)
  have e1 : w3.cell? ⟨g,29,none⟩ = some (.int .i64 0):=hb4.cell 29
  have e2:=hb4.frozen 29
  have HB4:=aa hb4
  have H3:=aa (bh z 0 2147483647 w3)
  clear hb3 hb4
  go_wp2_with fail
  (go_at_call 30)
  refine H3.out.mono ?_
  cases hin : inB z 0 2147483647 with
  | false =>
   rintro e w4 ⟨rfl,rfl⟩
   have HI:=aa hin
   clear hin
   go_wp2_with fail
   exact ⟨rfl,HO.out.2.trans (Off.of_below HB3.out _),.inl ⟨by simp [dx,HN.out,<- HZ.out,HI.out],rfl,⟨_,HB4.out,rfl⟩⟩⟩
  | true =>
   rintro e w4 ⟨rfl,rfl⟩
   have HI:=aa hin
   clear hin
   have hp:=HB4.out.put 29 (.int .i64 z)
   rw [MC.put_other] at hp
   have HP:=aa hp
   clear hp
   go_wp2_with fail
   go_end0
   exact ⟨(HO.out.2.trans (Off.of_below HB3.out _)).setCell (.inl (by simp)) _,.inr ⟨{ Ms.base id 16 with other:=z },_,by simp [dx,HN.out,<- HZ.out,HI.out],rfl,HP.out,MsAt.flat rfl rfl rfl rfl rfl rfl ⟨Nat.zero_le _,Nat.zero_le _,Nat.zero_le _,Nat.zero_le _,Nat.zero_le _,Nat.zero_le _⟩⟩⟩
theorem oper_parts (id op : Int) (s : ByteArray) (A : Option Addr) (ks : List Tl) (cap : Nat) (S : Nat -> Prop) (g : Nat) (w : World) (hg : Bk w g 30 (MC.base id 0).cells) (h2 : op ≠ 2) (h10 : op ≠ 10) (h16 : op ≠ 16)
  (hfew : Few ks) (hl : ks.length <= cap /\ cap <= maxLen) (hk : KsAt w S ks A 0) (hSg : ∀ x,S x -> x ≠ g) (ha : AnsAt w) (hga : g ≠ 0) :
  Calls Tryz.prog 42 #[.agg #[.int .i64 1,.bool true,.int .i64 op,.string s,.slice A ks.length cap],.pointer (some ⟨g,0,none⟩)] w (RdO g ((bg id op ks).bind fun p => if p.2 = [] then some p.1 else none) w):=by
 have hO:=ea hg op (tlv5 1 true op s A ks.length cap)
 have hO2:=hO.2.alloc (.cells #[.slice A ks.length cap] 76)
 have hb2:=hO.1.alloc (.cells #[.slice A ks.length cap] 76)
 have hlt:=hg.lt
 have hsz : (((w.setCell ⟨g,1,none⟩ (.int .i64 op)).alloc (tlv5 1 true op s A ks.length cap)).alloc (.cells #[.slice A ks.length cap] 76)).heap.size = w.heap.size + 2:=by simp [World.setCell]
 have hrw : Bk (((w.setCell ⟨g,1,none⟩ (.int .i64 op)).alloc (tlv5 1 true op s A ks.length cap)).alloc (.cells #[.slice A ks.length cap] 76)) (w.heap.size + 1) 76 #[.slice A ks.length cap]:=by
  have h:=Bk.new ((w.setCell ⟨g,1,none⟩ (.int .i64 op)).alloc (tlv5 1 true op s A ks.length cap)) 76 #[.slice A ks.length cap]
  have e : ((w.setCell ⟨g,1,none⟩ (.int .i64 op)).alloc (tlv5 1 true op s A ks.length cap)).heap.size = w.heap.size + 1:=by simp [World.setCell]
  rwa [e] at h
 have htr : TRow (((w.setCell ⟨g,1,none⟩ (.int .i64 op)).alloc (tlv5 1 true op s A ks.length cap)).alloc (.cells #[.slice A ks.length cap] 76)) (fun x => S x /\ x < w.heap.size) (.slice A ks.length cap) ks :=
  (TRow.of_kids hl hk).keep hO2.size (fun x hx hlt => hO2.block x hlt (by simpa using hSg x hx)) (fun x hx hlt => ⟨hx,hlt⟩)
 have hFx : Fix (fun x => S x /\ x < w.heap.size) (w.heap.size + 1) g (((w.setCell ⟨g,1,none⟩ (.int .i64 op)).alloc (tlv5 1 true op s A ks.length cap)).alloc (.cells #[.slice A ks.length cap] 76)).heap.size :=
  ⟨by omega,by rw [hsz]; omega,by rw [hsz]; omega,fun x hx => ⟨by have:=hx.2; omega,hSg x hx.1,by rw [hsz]; have:=hx.2; omega⟩⟩
 have HC:=aa (parts_any id op (w.heap.size + 1) g _ ks _ _ hFx hrw htr hb2 hfew (ha.off hO2 (by simpa using fun e => hga e.symm)))
 have HO:=aa hO2
 have c1 : w.cell? ⟨g,1,none⟩ = some (.int .i64 0):=hg.cell 1
 have f1:=hg.frozen 1
 have q2 : (op == 2) = false:=by simpa using h2
 have q10 : (op == 10) = false:=by simpa using h10
 have q16 : (op == 16) = false:=by simpa using h16
 clear hO hO2 hb2 hg hsz hrw htr hFx h2 h10 h16 hfew hl hk hSg ha hga
 go_enter Tryz.func42,Tryz.ntmps42
 go_wp2_with fail
 (go_at_call 70)
 refine HC.out.mono ?_
 rintro e w3 ⟨ho,hcs⟩
 have hof:=HO.out.then ho (by intro z hz; simp at hz; rcases hz with rfl | rfl; exact .inr (by omega); exact .inl (by simp))
 rcases hcs with ⟨hn,rfl,hold⟩ | ⟨M,rest,v',m,hn,rfl,hbr,htr,hbg,hms⟩
 ·exact ⟨rfl,hof,.inl ⟨by simp [hn],rfl,hold⟩⟩
 have HN:=aa hn
 have HOF:=aa hof
 have HBG:=aa hbg
 have HMS:=aa hms
 obtain ⟨A3,cap3,rfl,-⟩:=htr
 have HE:=aa (bw (w.heap.size + 1) rest.length A3 cap3 _ hbr)
 clear hn ho hof hbr hbg hms HC
 go_wp2_with fail
 (go_at_call 45)
 refine HE.out.mono ?_
 rintro e w4 ⟨ho,hcs⟩
 have hof:=HOF.out.then ho (by simp)
 rcases hcs.symm with ⟨hn,rfl⟩ | ⟨hn,rfl⟩
 ·have hl : rest ≠ []:=by intro h; rw [h] at hn; simp at hn
  exact ⟨rfl,hof,.inl ⟨by simp [HN.out,hl],rfl,⟨_,ho.bk HBG.out (by simp),rfl⟩⟩⟩
 have hl : rest = []:=by simpa using hn
 have HL:=aa (show ((bg id op ks).bind fun p => if p.2 = [] then some p.1 else none) = some M by rw [HN.out]; exact if_pos hl)
 have HO4:=aa hof
 have HB4:=aa (ho.bk HBG.out (by simp))
 have HM4:=aa (HMS.out.keep (T:=fun x => w.heap.size <= x) ho.size (fun x hx hlt => ho.block x hlt (by simp)) (fun x hx _ => Nat.le_trans HO.out.size hx))
 clear hn hl hof ho
 go_wp2_with fail
 go_end0
 exact ⟨HO4.out,.inr ⟨M,m,HL.out,rfl,HB4.out,HM4.out⟩⟩
theorem oper_any (id : Int) (t : Tl) (cs : Array Value) (S : Nat -> Prop) (g : Nat) (w : World) (hg : Bk w g 30 (MC.base id 0).cells) (ht : TlAt w S t cs) (hfew : t.few) (hSg : ∀ x,S x -> x ≠ g) (ha : AnsAt w) (hga : g ≠ 0) :
  Calls Tryz.prog 42 #[.agg cs,.pointer (some ⟨g,0,none⟩)] w (RdO g (opP id t) w):=by
 obtain ⟨c,k,op,s,ks⟩:=t
 unfold TlAt at ht
 obtain ⟨A,cap,rfl,hl,hwc,hwt,hs,hk⟩:=ht
 unfold Tl.few at hfew
 by_cases hc : c = 1
 case neg =>
  refine (oper_class id c op k s A ks.length cap g w hg hc).mono fun e w' h => ⟨h.1,.inl ⟨?_,h.2.1,h.2.2⟩⟩
  rw [fF,if_pos hc]
 subst hc
 by_cases h2 : op = 2 /\ k = false /\ aj s = false
 ·obtain ⟨rfl,rfl,hf⟩:=h2
  have e : opP id (.mk 1 false 2 s ks) = some (Ms.base id 2):=by rw [fF,if_neg (by omega),if_pos ⟨rfl,rfl,hf⟩]
  rw [e]
  exact oper_unbind id s A ks.length cap g w hg hf
 by_cases h10 : op = 10 /\ k = false
 ·obtain ⟨rfl,rfl⟩:=h10
  have e : opP id (.mk 1 false 10 s ks) = some { Ms.base id 10 with name:=s }:=by rw [fF,if_neg (by omega),if_neg h2,if_pos ⟨rfl,rfl⟩]
  rw [e]
  exact oper_delete id s A ks.length cap g w hg hs
 by_cases h16 : op = 16 /\ k = false
 ·obtain ⟨rfl,rfl⟩:=h16
  have e : opP id (.mk 1 false 16 s ks) = (dx false s 0 2147483647).map fun n => { Ms.base id 16 with other:=n }:=by rw [fF,if_neg (by omega),if_neg h2,if_neg h10,if_pos ⟨rfl,rfl⟩]
  rw [e]
  exact oper_abandon id s A ks.length cap g w hg hs
 by_cases hno : k = false \/ op = 2 \/ op = 10 \/ op = 16
 ·have e : opP id (.mk 1 k op s ks) = none:=by rw [fF,if_neg (by omega),if_neg h2,if_neg h10,if_neg h16,if_pos hno]
  refine (oper_no id op k s A ks.length cap g w hg ?_).mono fun e' w' h => ⟨h.1,.inl ⟨e,h.2.1,h.2.2⟩⟩
  cases k with
  | false =>
   by_cases q2 : op = 2
   ·refine .inl ⟨rfl,q2,?_⟩
    cases hf : aj s with
    | true => rfl
    | false => exact absurd ⟨q2,rfl,hf⟩ h2
   ·exact .inr (.inl ⟨rfl,q2,fun h => h10 ⟨h,rfl⟩,fun h => h16 ⟨h,rfl⟩⟩)
  | true =>
   rcases hno with h | h | h | h
   ·cases h
   ·exact .inr (.inr (.inl ⟨rfl,h⟩))
   ·exact .inr (.inr (.inr (.inl ⟨rfl,h⟩)))
   ·exact .inr (.inr (.inr (.inr ⟨rfl,h⟩)))
 ·have hk2 : k = true:=by cases k with | true => rfl | false => exact absurd (.inl rfl) hno
  subst hk2
  have e : opP id (.mk 1 true op s ks) = (bg id op ks).bind fun p => if p.2 = [] then some p.1 else none:=by rw [fF,if_neg (by omega),if_neg h2,if_neg h10,if_neg h16,if_neg hno]
  rw [e]
  exact oper_parts id op s A ks cap S g w hg (fun h => hno (.inr (.inl h))) (fun h => hno (.inr (.inr (.inl h)))) (fun h => hno (.inr (.inr (.inr h)))) hfew hl hk hSg ha hga
def crP (ks : List Tl) : Option (Bool × List Tl):=if bP ks 0 1 false then dl ks else some (false,ks)
def ctlP (ks : List Tl) : Option Co:=(bc ks).bind fun a => (crP a.2).bind fun q => match headP 0 4 false q.2 with
 | some (h,rest) => if rest = [] then some (a.1,q.1,true,h.body) else none
 | none => if q.2 = [] then some (a.1,q.1,false,⟨#[]⟩) else none
def cD : List Tl -> Option (List Co)
 | [] => some []
 | k :: rest => match headP 0 16 true (k :: rest) with
  | some (t,_) => (ctlP t.kids).bind fun a => (cD rest).map (a :: ·)
  | none => none
theorem ctlsP_none {k : Tl} {rest : List Tl} (h : aZ 16 (k :: rest) = none) : cD (k :: rest) = none:=by
 unfold cD
 unfold aZ at h
 cases hh : headP 0 16 true (k :: rest) with
 | none => rfl
 | some p => rw [hh] at h; simp at h
theorem eK {k : Tl} {rest l r : List Tl} (h : aZ 16 (k :: rest) = some (l,r)) (ha : ctlP l = none) : cD (k :: rest) = none:=by
 obtain ⟨t,he,rfl,hh⟩:=ct h
 rw [cD,hh]
 simp [ha]
theorem ctlsP_some {k : Tl} {rest l r : List Tl} {a : Co} (h : aZ 16 (k :: rest) = some (l,r)) (ha : ctlP l = some a) : r = rest /\ cD (k :: rest) = (cD rest).map (a :: ·):=by
 obtain ⟨t,he,rfl,hh⟩:=ct h
 obtain ⟨-,he2⟩:=List.cons.inj he
 refine ⟨he2.symm,?_⟩
 rw [cD,hh]
 simp [ha]
def CtlPost (r : Option (List Co)) (w : World) (e : Ending) (w' : World) : Prop :=
 Below w.heap.size w w' /\ ((r = none /\ bG e) \/ ∃ (az : List Co) (q : Rw),r = some az /\ e = .returned (.slice q.A q.n q.c) /\ RowOf 4 CoAt w' (fun x => w.heap.size <= x) q az)
def bO (w : World) (c : Int) (k : Bool) (t : Int) (s : ByteArray) (A : Option Addr) (n cap : Nat) : World :=
 (w.alloc (.cells #[.int .i64 c,.bool k,.int .i64 t,.string s,.slice A n cap] 42)).alloc (.cells #[.slice A n cap] 76)
theorem et (w : World) (c : Int) (k : Bool) (t : Int) (s : ByteArray) (A : Option Addr) (n cap : Nat) : Below w.heap.size w (bO w c k t s A n cap) /\ (bO w c k t s A n cap).heap.size = w.heap.size + 2 :=
 ⟨((Below.refl _ w).alloc (Nat.le_refl _) _).alloc (by simp) _,by simp [bO]⟩
theorem copen_st {w : World} {S : Nat -> Prop} {c t : Int} {k : Bool} {s : ByteArray} {ks : List Tl} {A : Option Addr} {cap : Nat} (hl : ks.length <= cap /\ cap <= maxLen) (hk : KsAt w S ks A 0) :
  Fix (fun x => S x /\ x < w.heap.size) (w.heap.size + 1) w.heap.size (bO w c k t s A ks.length cap).heap.size ∧
  St (bO w c k t s A ks.length cap) (fun x => S x /\ x < w.heap.size) (w.heap.size + 1) w.heap.size 42 (bO w c k t s A ks.length cap) (.slice A ks.length cap) ks #[.int .i64 c,.bool k,.int .i64 t,.string s,.slice A ks.length cap]:=by
 obtain ⟨hb,hsz⟩:=et w c k t s A ks.length cap
 have hr : TRow w (fun x => S x /\ x < w.heap.size) (.slice A ks.length cap) ks:=(TRow.of_kids hl hk).keep (Nat.le_refl _) (fun _ _ _ => rfl) (fun _ h hl => ⟨h,hl⟩)
 refine ⟨⟨by omega,by omega,by omega,fun x hx => ⟨by have:=hx.2; omega,by have:=hx.2; omega,by have:=hx.2; omega⟩⟩,⟨Off.refl _ _,?_,hr.below hb,?_⟩⟩
 ·have h:=Bk.new (w.alloc (.cells #[.int .i64 c,.bool k,.int .i64 t,.string s,.slice A ks.length cap] 42)) 76 #[.slice A ks.length cap]
  simpa [bO] using h
 ·have h:=(Bk.new w 42 #[.int .i64 c,.bool k,.int .i64 t,.string s,.slice A ks.length cap]).alloc (.cells #[.slice A ks.length cap] 76)
  simpa [bO] using h
theorem copen_end {w w' : World} {c t : Int} {k : Bool} {s : ByteArray} {A : Option Addr} {n cap : Nat} (h : Off [w.heap.size + 1,w.heap.size] (bO w c k t s A n cap) w') : Below w.heap.size w w':=by
 obtain ⟨hb,hsz⟩:=et w c k t s A n cap
 exact hb.trans (h.below hb.size (by simp))
def CAt (w W0 wr : World) (S : Nat -> Prop) (b g : Nat) (cs : Array Value) (l0 : List Tl) (u : Value) (az : List Co) (rest : List Tl) : Prop :=
 ∃ (vl : Value),St W0 S b g 42 wr vl rest cs /\ GRow 54 4 CoAt wr W0.heap.size u az /\ cD l0 = (cD rest).map (az ++ ·) /\ az.length + rest.length <= 8192 /\ Few rest
theorem CAt.next {w W0 wr w3 w5 : World} {S : Nat -> Prop} {b g : Nat} {cs : Array Value} {l0 : List Tl} {u v2 : Value} {az : List Co} {k : Tl} {rest l r2 : List Tl} {vl : Value} {a : Co} {cl : List Value} {css : List (List Value)} {gg cap5 : Nat}
  (F : Fix S b g W0.heap.size) (hst : St W0 S b g 42 wr vl (k :: rest) cs)
  (hcl : css.length = az.length) (hck : ∀ c ∈ css,c.length = 4) (hown : wr.ownsRow W0.heap.size 54 4 u az.length css.flatten)
  (hall : ∀ (i : Nat) (d : Co) (c : List Value),az[i]? = some d -> css[i]? = some c -> CoAt wr (fun b => W0.heap.size <= b /\ u.ownBlock ≠ some b) d c)
  (hpar : cD l0 = (cD (k :: rest)).map (az ++ ·)) (hlen : az.length + (k :: rest).length <= 8192) (hfw : Few (k :: rest))
  (hl : aZ 16 (k :: rest) = some (l,r2)) (ha : ctlP l = some a)
  (ho : Off [b] wr w3) (hs3 : St W0 S b g 42 w3 v2 r2 cs) (hat : CoAt w3 (fun x => wr.heap.size <= x) a cl)
  (hown5 : w5.ownsRow W0.heap.size 54 4 (.slice (some ⟨gg,0,none⟩) (az.length + 1) cap5) (az.length + 1) (css.flatten ++ cl)) (hgr : (w3.alloc (.cells cl.toArray 54)).grownBy w5 u.ownBlock) (hgg : u.ownBlock = some gg \/ gg = w3.heap.size + 1) :
  CAt w W0 w5 S b g cs l0 (.slice (some ⟨gg,0,none⟩) (az.length + 1) cap5) (az ++ [a]) rest:=by
 have s3:=ho.size
 have s5:=hgr.size
 have hsa : (w3.alloc (.cells cl.toArray 54)).heap.size = w3.heap.size + 1:=by simp
 have hba : Below w3.heap.size w3 (w3.alloc (.cells cl.toArray 54)):=(Below.refl _ w3).alloc (Nat.le_refl _) _
 have hrow : ∀ x,u.ownBlock = some x -> W0.heap.size <= x:=fun x hx => (hown.lt x hx).1
 obtain ⟨rfl,hp2⟩:=ctlsP_some hl ha
 have q2:=(hs3.new (.cells cl.toArray 54)).grown F hgr hrow
 have hbB:=F.bB
 have hp:=GRow.push bV (w:=wr) (w1:=w3) (w2:=w3.alloc (.cells cl.toArray 54)) (v':=.slice (some ⟨gg,0,none⟩) (az.length + 1) cap5) hst.off.size hcl hck hown hall (fun x hx hlt => ho.block x hlt (by simp; omega)) (by omega)
  (by obtain ⟨h1,-⟩:=hat; rw [h1]; rfl) hat hba hown5 hgr (by rw [hsa]; exact hgg.elim (fun h => .inl h.symm) (fun h => .inr (by rw [h]; rfl)))
 refine ⟨v2,q2,hp,?_,?_,hfw.tail⟩
 ·rw [hpar,hp2,Option.map_map]
  congr 1
  funext l
  simp
 ·simp at hlen |-; omega
theorem info_ctl : (Tryz.prog.info? 54).map (fun i => (i.zero,i.size,i.bytes)) = some (some (.agg #[.string ⟨#[]⟩,.bool false,.bool false,.string ⟨#[]⟩]),4,40):=by kernel_rfl
theorem controls_any (c t : Int) (kk : Bool) (ks : List Tl) (S : Nat -> Prop) (A : Option Addr) (s : ByteArray) (cap : Nat) (w : World) (hfew : Few ks) (hl : ks.length <= cap /\ cap <= maxLen) (hk : KsAt w S ks A 0) :
  Calls Tryz.prog 44 #[.agg #[.int .i64 c,.bool kk,.int .i64 t,.string s,.slice A ks.length cap]] w (CtlPost (cD ks) w):=by
 obtain ⟨i0,hi,iz0,iz1,iz2⟩:=info_parts info_ctl
 obtain ⟨hB,hsz⟩:=et w c kk t s A ks.length cap
 obtain ⟨hF,hSt⟩:=copen_st (c:=c) (k:=kk) (t:=t) (s:=s) hl hk
 have HE0:=aa (show CAt w (bO w c kk t s A ks.length cap) (bO w c kk t s A ks.length cap) (fun x => S x /\ x < w.heap.size) (w.heap.size + 1) w.heap.size #[.int .i64 c,.bool kk,.int .i64 t,.string s,.slice A ks.length cap] ks (.slice none 0 0) [] ks from ⟨_,hSt,GRow.nil _ _,by cases cD ks <;> rfl,by simpa using hfew.1,hfew⟩)
 have HF:=aa hF
 have HSZ:=aa hsz
 clear hB hsz hF hSt hfew hl hk
 go_enter Tryz.func44,Tryz.ntmps44
 go_wp2_with fail
 go_loopw [3] (fun u wr => ∃ (az : List Co) (rest : List Tl),CAt w (bO w c kk t s A ks.length cap) wr (fun x => S x /\ x < w.heap.size) (w.heap.size + 1) w.heap.size #[.int .i64 c,.bool kk,.int .i64 t,.string s,.slice A ks.length cap] ks u az rest) (fun _ wr => eQ (wr.cell? ⟨w.heap.size + 1,0,none⟩))
 case atStart => exact ⟨_,_,HE0.out⟩
 case round =>
  clear HE0
  obtain ⟨az,rest,vl,hst,hgr,hpar,hlen,hfk⟩:=hrel
  obtain ⟨A3,cap3,rfl,hlc3,hcm3,-⟩:=_root_.id hst.tr
  have k0 : wr.cell? ⟨w.heap.size + 1,0,none⟩ = some (.slice A3 rest.length cap3):=hst.row.cell 0
  have HST:=aa hst
  have HPAR:=aa hpar
  have HLEN:=aa hlen
  have HFK:=aa hfk
  have hws:=hst.off.size
  have hz2:=HSZ.out
  rw [hz2] at hws
  clear hst hpar hlen hlc3 hcm3 hfk hz2
  cases rest with
  | nil =>
   obtain ⟨q,rfl,hrow⟩:=GRow.row bV hgr
   have HROW:=aa hrow
   have HAZ:=aa (show cD ks = some az by rw [HPAR.out]; simp [cD])
   clear hgr hrow
   go_wp2_with fail
   go_ret
   exact ⟨copen_end HST.out.off,.inr ⟨az,q,HAZ.out,rfl,HROW.out.keep bV (Nat.le_refl _) (fun _ _ _ => rfl) (fun x hx _ => by have:=HSZ.out; omega)⟩⟩
  | cons k rest =>
   obtain ⟨css,hcl,hck,hown,hall⟩:=hgr
   obtain ⟨uA,uc,rfl,hu1,hu2⟩:=dI hown
   have HCL:=aa hcl
   have HCK:=aa hck
   have HOWN:=aa hown
   have HALL:=aa hall
   have z0 : decide ((0 : Int) < (rest.length : Int) + 1) = true:=ab (by omega)
   have hal : az.length < 8192:=by have:=HLEN.out; simp at this; omega
   have HTH:=aa (fun (W : World) (ho : Off [w.heap.size + 1] wr W) => copen_end (HST.out.off.trans (ho.mono (by simp))))
   clear hcl hck hown hall hu2
   go_wp2_with fail
   (go_at_call 71)
   refine (bA 16 (w.heap.size + 1) _ (k :: rest) (fun x => S x /\ x < w.heap.size) wr HST.out.row HST.out.tr HF.out.nb).mono ?_
   rintro e w4 ⟨ho4,hcs⟩
   rcases hcs with ⟨hn,rfl⟩ | ⟨l4,rest4,v4,hn,⟨c4,vl4,rfl,hc4,hbc4,hrc4⟩,hb4,hr4⟩
   ·exact ⟨rfl,HTH.out _ ho4,.inl ⟨by rw [HPAR.out,ctlsP_none hn]; rfl,rfl⟩⟩
   have HN4:=aa hn
   have HO4:=aa ho4
   have HS4:=aa (HST.out.rd HF.out ho4 hb4 hr4)
   have hc4' : wr.heap.size <= c4:=hc4
   have hcB : (bO w c kk t s A ks.length cap).heap.size <= c4:=Nat.le_trans HST.out.off.size hc4'
   have HCB:=aa hcB
   have HD4:=aa (show Ax (fun x => S x /\ x < w.heap.size) (bO w c kk t s A ks.length cap).heap.size c4 w4 vl4 l4 from ⟨hbc4,hrc4,hcB⟩)
   have HF4:=aa (HFK.out.list hn).1
   have hs4:=ho4.size
   have hl4 : c4 < w4.heap.size:=hbc4.lt
   clear hn ho4 hb4 hr4 hbc4 hrc4 hcB
   go_wp2_with fail
   (go_at_call 72)
   refine (aW c4 _ l4 _ _ HD4.out.row HD4.out.tr (HD4.out.nb HF.out)).mono ?_
   rintro e w5 ⟨ho5,hcs⟩
   have hof5:=HO4.out.then ho5 (by intro z hz; simp at hz; rw [hz]; exact .inr hc4')
   have hss5:=HS4.out.quiet HF.out ho5 (by intro z hz; simp at hz; rw [hz]; exact HCB.out)
   rcases hcs with ⟨hn,rfl⟩ | ⟨n5,rest5,v5,hn,⟨hz5,rfl⟩,hb5,hr5⟩
   ·exact ⟨rfl,HTH.out _ hof5,.inl ⟨by rw [HPAR.out,eK HN4.out (show ctlP l4 = none by simp [ctlP,hn])]; rfl,rfl⟩⟩
   have HN5:=aa hn
   have HZ5:=aa hz5
   have HF5:=aa (HF4.out.text hn)
   have hs5:=ho5.size
   have hd5 : Ax (fun x => S x /\ x < w.heap.size) (bO w c kk t s A ks.length cap).heap.size c4 (w5.alloc (.cells #[.string n5,.bool false,.bool false,.string ⟨#[]⟩] 54)) v5 rest5:=(show Ax _ _ c4 w5 v5 rest5 from ⟨hb5,hr5,HCB.out⟩).new _
   have HD5:=aa hd5
   have HO5:=aa (hof5.alloc (.cells #[.string n5,.bool false,.bool false,.string ⟨#[]⟩] 54))
   have HS5:=aa (hss5.new (.cells #[.string n5,.bool false,.bool false,.string ⟨#[]⟩] 54))
   have HX5:=aa (Bk.new w5 54 #[.string n5,.bool false,.bool false,.string ⟨#[]⟩])
   have g5 : w5.cell? ⟨c4,0,none⟩ = some v5:=hb5.cell 0
   have gl5 : c4 < w5.heap.size:=hb5.lt
   obtain ⟨A5,cap5,rfl,hlc5,hcm5,hel5⟩:=_root_.id hr5
   clear hn ho5 hof5 hss5 hb5 hr5 hd5 hz5 HO4 HS4 HD4
   go_upto_region 6 with fail
   go_cut [38] (fun s38 wx => s38 = .bool (bP rest5 0 1 false) /\ Below (w5.heap.size + 1) (w5.alloc (.cells #[.string n5,.bool false,.bool false,.string ⟨#[]⟩] 54)) wx)
   case first =>
    cases rest5 with
    | nil =>
     clear hel5
     go_wp2_with fail
     go_meet
     exact ⟨rfl,Below.refl _ _⟩
    | cons k5 r5 =>
     obtain ⟨b0,o,k0',k1,k2,k3,k4,hA,hS,q0,q1,q2,q3,q4,ht⟩:=hel5 0 (by simp)
     subst hA
     obtain ⟨x0,x1,x2,x3,xA,xn,xc,he⟩:=ak ht
     simp only [Array.mk.injEq,List.cons.injEq,and_true] at he
     obtain ⟨rfl,rfl,rfl,rfl,rfl⟩:=he
     simp only [Nat.zero_mul,Nat.add_zero] at q0 q1 q2 q3 q4
     have hb0 : b0 < w5.heap.size:=hS.2
     have z4 : (0 : Int) < (r5.length : Int) + 1:=by omega
     have z5 : decide ((0 : Int) < (r5.length : Int) + 1) = true:=ab z4
     have hhd : bP (k5 :: r5) 0 1 false = (x0 == 0 && (x2 == 1 && x1 == false)):=by
      obtain ⟨a1,a2,a3,a4,a5⟩:=k5
      simp only [List.getElem_cons_zero] at ht
      unfold TlAt at ht
      obtain ⟨yA,yc,he,-⟩:=ht
      simp only [Array.mk.injEq,List.cons.injEq,and_true,Value.int.injEq,Value.bool.injEq,true_and] at he
      obtain ⟨rfl,rfl,rfl,-⟩:=he
      rfl
     have HHD:=aa hhd
     clear hel5 ht hS hhd hlc5 hcm5
     go_wp2_with fail
     (go_at_call 39)
     refine (dK x0 x2 x1 _ _ 0 1 false _).mono ?_
     rw [<- HHD.out]
     obtain ⟨qq,hqq⟩ : ∃ q,q = bP (k5 :: r5) 0 1 false:=⟨_,rfl⟩
     rw [<- hqq]
     have HQQ:=aa hqq
     clear hqq
     rintro e w6 ⟨rfl,hb6⟩
     have HB6:=aa hb6
     clear hb6
     go_wp2_with fail
     go_meet
     exact ⟨by rw [HQQ.out],by simpa using HB6.out⟩
   case rest =>
    obtain ⟨rfl,hbc⟩:=hcut
    have hbc' : Below (w5.alloc (.cells #[.string n5,.bool false,.bool false,.string ⟨#[]⟩] 54)).heap.size (w5.alloc (.cells #[.string n5,.bool false,.bool false,.string ⟨#[]⟩] 54)) wc:=by simpa using hbc
    have hofc:=HO5.out.then (Off.of_below hbc' []) (by simp)
    have hssc:=HS5.out.quiet HF.out (Off.of_below hbc' []) (by simp)
    have hdc:=HD5.out.quiet HF.out (Off.of_below hbc' []) (by simp)
    have hxc:=af HX5.out hbc'
    have HOc:=aa hofc
    have HSc:=aa hssc
    have HDc:=aa hdc
    have HXc:=aa hxc
    have hsc : w5.heap.size + 1 <= wc.heap.size:=by simpa using hbc'.size
    clear hbc hbc' hofc hssc hdc hxc HO5 HS5 HD5 HX5 g5 hlc5 hcm5 hel5
    go_upto_if 38 with fail
    go_cut [40] (fun _ wx => ∃ (q6 : Bool) (rest6 : List Tl) (v6 : Value),crP rest5 = some (q6,rest6) /\ Off [w.heap.size + 1] wr wx /\ St (bO w c kk t s A ks.length cap) (fun x => S x /\ x < w.heap.size) (w.heap.size + 1) w.heap.size 42 wx v4 rest4 #[.int .i64 c,.bool kk,.int .i64 t,.string s,.slice A ks.length cap] /\ Ax (fun x => S x /\ x < w.heap.size) (bO w c kk t s A ks.length cap).heap.size c4 wx v6 rest6 /\ Bk wx w5.heap.size 54 #[.string n5,.bool q6,.bool false,.string ⟨#[]⟩] /\ Few rest6)
    case first =>
     cases hq : bP rest5 0 1 false with
     | false =>
      have HCR:=aa (show crP rest5 = some (false,rest5) by unfold crP; rw [hq]; rfl)
      clear hq
      go_wp2_with fail
      go_meet
      exact ⟨false,rest5,_,HCR.out,HOc.out,HSc.out,HDc.out,HXc.out,HF5.out⟩
     | true =>
      have HQ:=aa hq
      clear hq
      go_wp2_with fail
      (go_at_call 73)
      refine (fJ c4 _ rest5 _ _ HDc.out.row HDc.out.tr (HDc.out.nb HF.out)).mono ?_
      rintro e w6 ⟨ho6,hcs⟩
      have hof6:=HOc.out.then ho6 (by intro z hz; simp at hz; rw [hz]; exact .inr hc4')
      have hss6:=HSc.out.quiet HF.out ho6 (by intro z hz; simp at hz; rw [hz]; exact HCB.out)
      rcases hcs with ⟨hn,rfl⟩ | ⟨n6,rest6,v6,hn,rfl,hb6,hr6⟩
      ·exact ⟨rfl,HTH.out _ hof6,.inl ⟨by rw [HPAR.out,eK HN4.out (show ctlP l4 = none by simp [ctlP,HN5.out,crP,HQ.out,hn])]; rfl,rfl⟩⟩
      have HCR:=aa (show crP rest5 = some (n6,rest6) by unfold crP; rw [HQ.out,if_pos rfl]; exact hn)
      have HF6:=aa (HF5.out.truth hn)
      have hne : (c4 : Nat) ≠ w5.heap.size:=by omega
      have hx6:=ho6.bk HXc.out (by simp; omega)
      have e1 : w6.cell? ⟨w5.heap.size,1,none⟩ = some (.bool false):=hx6.cell 1
      have e2:=hx6.frozen 1
      have hx7:=hx6.put 1 (.bool n6)
      have HX7:=aa hx7
      have HB6:=aa hb6
      have HR6:=aa hr6
      have HO6:=aa hof6
      have HS6:=aa hss6
      have HOP:=aa ((Off.refl [w5.heap.size] w6).setCell (p:=⟨w5.heap.size,1,none⟩) (.inl (by simp)) (.bool n6))
      clear hn ho6 hof6 hss6 hx6 hx7 hb6 hr6
      go_wp2_with fail
      go_meet
      have hwB : (bO w c kk t s A ks.length cap).heap.size <= w5.heap.size:=by have:=HCB.out; omega
      refine ⟨n6,rest6,v6,HCR.out,HO6.out.then HOP.out (by intro z hz; simp at hz; rw [hz]; exact .inr (by omega)),HS6.out.quiet HF.out HOP.out (by intro z hz; simp at hz; rw [hz]; exact hwB),⟨HOP.out.bk HB6.out (by simpa using hne),HR6.out.keep HOP.out.size (fun x hx hlt => HOP.out.block x hlt (by have:=(HF.out.apart x hx).2.2; simp; omega)) (fun _ h _ => h),HCB.out⟩,?_,HF6.out⟩
      simpa using HX7.out
    case rest =>
     obtain ⟨q6,rest6,v6,hcr,ho6,hs6,hd6,hx6,hf6⟩:=hcut
     have HCR:=aa hcr
     have HO6:=aa ho6
     have HS6:=aa hs6
     have HD6:=aa hd6
     have HX6:=aa hx6
     have hne : (c4 : Nat) ≠ w5.heap.size:=by omega
     have hlx:=hx6.lt
     have hwB : (bO w c kk t s A ks.length cap).heap.size <= w5.heap.size:=by have:=HCB.out; omega
     clear hcr ho6 hs6 hd6 hx6 hf6 HOc HSc HDc HXc
     go_wp2_with fail
     (go_at_call 43)
     refine (ed c4 _ rest6 _ 0 4 false _ HD6.out.row HD6.out.tr (HD6.out.nb HF.out)).mono ?_
     rintro e w7 ⟨ho7,hcs⟩
     have hof7:=HO6.out.then ho7 (by intro z hz; simp at hz; rw [hz]; exact .inr hc4')
     have hss7:=HS6.out.quiet HF.out ho7 (by intro z hz; simp at hz; rw [hz]; exact HCB.out)
     have hx7:=ho7.bk HX6.out (by simp; omega)
     have hlx7:=hx7.lt
     have hs7:=ho7.size
     rcases hcs with ⟨hn,rfl,hb7,hr7⟩ | ⟨s7,l7,rest7,A7,cap7,v7,hn,hz7,rfl,hb7,hr7,hk7⟩
     ·have HN7:=aa hn
      have HA7:=aa ((show Ax (fun x => S x /\ x < w.heap.size) (bO w c kk t s A ks.length cap).heap.size c4 w7 v6 rest6 from ⟨hb7,hr7,HCB.out⟩).new (.cells #[.int .i64 0,.bool false,.int .i64 0,.string ⟨#[]⟩,.slice none 0 0] 42))
      have HO7:=aa (hof7.alloc (.cells #[.int .i64 0,.bool false,.int .i64 0,.string ⟨#[]⟩,.slice none 0 0] 42))
      have HS7:=aa (hss7.new (.cells #[.int .i64 0,.bool false,.int .i64 0,.string ⟨#[]⟩,.slice none 0 0] 42))
      have HX7:=aa (hx7.alloc (.cells #[.int .i64 0,.bool false,.int .i64 0,.string ⟨#[]⟩,.slice none 0 0] 42))
      clear hn ho7 hof7 hss7 hx7 hb7 hr7 HO6 HS6 HD6 HX6
      obtain ⟨A8,cap8,hv8,-⟩:=_root_.id HA7.out.tr
      subst hv8
      have HE:=aa (bw c4 rest6.length A8 cap8 _ HA7.out.row)
      go_wp2_with fail
      (go_at_call 45)
      refine HE.out.mono ?_
      rintro e w9 ⟨ho9,hcs⟩
      have hof9:=HO7.out.then ho9 (by simp)
      have hss9:=HS7.out.quiet HF.out ho9 (by simp)
      have hx9:=ho9.bk HX7.out (by simp)
      rcases hcs.symm with ⟨hn,rfl⟩ | ⟨hn,rfl⟩
      ·have hl : rest6 ≠ []:=by intro h; rw [h] at hn; simp at hn
       exact ⟨rfl,HTH.out _ hof9,.inl ⟨by rw [HPAR.out,eK HN4.out (show ctlP l4 = none by simp [ctlP,HN5.out,HCR.out,HN7.out,hl])]; rfl,rfl⟩⟩
      have hl : rest6 = []:=by simpa using hn
      have HL:=aa (show ctlP l4 = some (n5,q6,false,⟨#[]⟩) by unfold ctlP; rw [HN5.out]; simp only [Option.bind_some]; rw [HCR.out]; simp only [Option.bind_some]; rw [HN7.out]; exact if_pos hl)
      have e0 : w9.cell? ⟨w5.heap.size,0,none⟩ = some (.string n5):=hx9.cell 0
      have e1 : w9.cell? ⟨w5.heap.size,1,none⟩ = some (.bool q6):=hx9.cell 1
      have e2 : w9.cell? ⟨w5.heap.size,2,none⟩ = some (.bool false):=hx9.cell 2
      have e3 : w9.cell? ⟨w5.heap.size,3,none⟩ = some (.string ⟨#[]⟩):=hx9.cell 3
      have hown9:=hof9.own HOWN.out (by intro x hx; have:=(HOWN.out.lt x hx).1; have:=HSZ.out; simp; omega)
      have hs9:=hof9.size
      have HO9:=aa hof9
      have HS9:=aa hss9
      clear hn hl ho9 hof9 hss9 hx9 HE HO7 HS7 HA7 HX7
      go_wp2_with (at_builtin; refine wpList_append_lies _ rfl (.tmp 54) (.tmp 56) 28 rfl (bO w c kk t s A ks.length cap).heap.size 54 i0 _ 4 40 Tryz.underlying28 hi iz0 iz1 iz2 rfl (by omega) (.slice uA az.length uc) az.length css.flatten rfl (hown9.alloc _) ⟨w9.heap.size,0,none⟩ 1 1 [.string n5,.bool q6,.bool false,.string ⟨#[]⟩] rfl rfl (World.news_of_block (cs:=#[.string n5,.bool q6,.bool false,.string ⟨#[]⟩]) (heap_alloc_new w9 _)) (by simp [Value.oneCell']) (by omega) (by unfold maxLen; omega) (by omega) (by have:=HSZ.out; simp; omega) (w9.heap.size + 1) (by simp) ?_; intro gg cap10 w10 hown10 hgrow10 hat10 hlt10)
      have HN:=aa (CAt.next (w:=w) HF.out HST.out HCL.out HCK.out HOWN.out HALL.out HPAR.out HLEN.out HFK.out HN4.out HL.out HO9.out HS9.out ⟨rfl,HZ5.out,Nat.zero_le _⟩ hown10 hgrow10 hat10)
      clear hown10 hgrow10 hat10 hown9 e0 e1 e2 e3
      go_roundw
      case rel => exact ⟨_,_,HN.out⟩
      case measure =>
       obtain ⟨vl9,hst9,-⟩:=HN.out
       obtain ⟨A9,cap9,rfl,-⟩:=hst9.tr
       have e9:=hst9.row.cell 0
       rw [e9,k0]
       show rest.length < rest.length + 1
       omega
     ·have HN7:=aa hn
      have HZ7:=aa hz7
      have f2 : w7.cell? ⟨w5.heap.size,2,none⟩ = some (.bool false):=hx7.cell 2
      have f3 : w7.cell? ⟨w5.heap.size,3,none⟩ = some (.string ⟨#[]⟩):=hx7.cell 3
      have f2':=hx7.frozen 2
      have f3':=hx7.frozen 3
      have hnx : ¬ (w5.heap.size = w7.heap.size):=by omega
      have hnx' : ¬ (w7.heap.size = w5.heap.size):=by omega
      have ho8:=((Off.refl [w5.heap.size] w7).setCell (p:=⟨w5.heap.size,2,none⟩) (.inl (by simp)) (.bool true)).setCell (p:=⟨w5.heap.size,3,none⟩) (.inl (by simp)) (.string s7)
      have hx8:=(hx7.put 2 (.bool true)).put 3 (.string s7)
      have hx8' : Bk ((w7.setCell ⟨w5.heap.size,2,none⟩ (.bool true)).setCell ⟨w5.heap.size,3,none⟩ (.string s7)) w5.heap.size 54 #[.string n5,.bool q6,.bool true,.string s7]:=by simpa using hx8
      have HA7:=aa (((show Ax (fun x => S x /\ x < w.heap.size) (bO w c kk t s A ks.length cap).heap.size c4 w7 v7 rest7 from ⟨hb7,hr7,HCB.out⟩).quiet HF.out ho8 (by intro z hz; simp at hz; omega)).new (.cells #[.int .i64 0,.bool false,.int .i64 4,.string s7,.slice A7 l7.length cap7] 42)).drew
      have HO7:=aa ((hof7.then ho8 (by intro z hz; simp at hz; rw [hz]; exact .inr (by omega))).alloc (.cells #[.int .i64 0,.bool false,.int .i64 4,.string s7,.slice A7 l7.length cap7] 42)).drew
      have HS7:=aa ((hss7.quiet HF.out ho8 (by intro z hz; simp at hz; omega)).new (.cells #[.int .i64 0,.bool false,.int .i64 4,.string s7,.slice A7 l7.length cap7] 42)).drew
      have HX7:=aa (hx8'.alloc (.cells #[.int .i64 0,.bool false,.int .i64 4,.string s7,.slice A7 l7.length cap7] 42))
      clear hn hz7 ho7 hof7 hss7 hx7 hb7 hr7 hk7 HO6 HS6 HD6 HX6 ho8 hx8 hx8'
      go_wp2_with fail
      go_region
      all_goals
       obtain ⟨A8,cap8,hv8,-⟩:=_root_.id HA7.out.tr
       subst hv8
       have HE:=aa (bw c4 rest7.length A8 cap8 _ HA7.out.row)
       go_wp2_with fail
       (go_at_call 45)
       refine HE.out.mono ?_
       rintro e w9 ⟨ho9,hcs⟩
       have hof9:=HO7.out.then ho9 (by simp)
       have hss9:=HS7.out.quiet HF.out ho9 (by simp)
       have hx9:=ho9.bk HX7.out (by simp)
       rcases hcs.symm with ⟨hn,rfl⟩ | ⟨hn,rfl⟩
       ·have hl : rest7 ≠ []:=by intro h; rw [h] at hn; simp at hn
        exact ⟨rfl,HTH.out _ hof9,.inl ⟨by rw [HPAR.out,eK HN4.out (show ctlP l4 = none by simp [ctlP,HN5.out,HCR.out,HN7.out,hl])]; rfl,rfl⟩⟩
       have hl : rest7 = []:=by simpa using hn
       have HL:=aa (show ctlP l4 = some (n5,q6,true,s7) by unfold ctlP; rw [HN5.out]; simp only [Option.bind_some]; rw [HCR.out]; simp only [Option.bind_some]; rw [HN7.out]; exact if_pos hl)
       have e0 : w9.cell? ⟨w5.heap.size,0,none⟩ = some (.string n5):=hx9.cell 0
       have e1 : w9.cell? ⟨w5.heap.size,1,none⟩ = some (.bool q6):=hx9.cell 1
       have e2 : w9.cell? ⟨w5.heap.size,2,none⟩ = some (.bool true):=hx9.cell 2
       have e3 : w9.cell? ⟨w5.heap.size,3,none⟩ = some (.string s7):=hx9.cell 3
       have hown9:=hof9.own HOWN.out (by intro x hx; have:=(HOWN.out.lt x hx).1; have:=HSZ.out; simp; omega)
       have hs9:=hof9.size
       have HO9:=aa hof9
       have HS9:=aa hss9
       clear hn hl ho9 hof9 hss9 hx9 HE HO7 HS7 HA7 HX7
       go_wp2_with (at_builtin; refine wpList_append_lies _ rfl (.tmp 54) (.tmp 56) 28 rfl (bO w c kk t s A ks.length cap).heap.size 54 i0 _ 4 40 Tryz.underlying28 hi iz0 iz1 iz2 rfl (by omega) (.slice uA az.length uc) az.length css.flatten rfl (hown9.alloc _) ⟨w9.heap.size,0,none⟩ 1 1 [.string n5,.bool q6,.bool true,.string s7] rfl rfl (World.news_of_block (cs:=#[.string n5,.bool q6,.bool true,.string s7]) (heap_alloc_new w9 _)) (by simp [Value.oneCell']) (by omega) (by unfold maxLen; omega) (by omega) (by have:=HSZ.out; simp; omega) (w9.heap.size + 1) (by simp) ?_; intro gg cap10 w10 hown10 hgrow10 hat10 hlt10)
       have HN:=aa (CAt.next (w:=w) HF.out HST.out HCL.out HCK.out HOWN.out HALL.out HPAR.out HLEN.out HFK.out HN4.out HL.out HO9.out HS9.out ⟨rfl,HZ5.out,HZ7.out⟩ hown10 hgrow10 hat10)
       clear hown10 hgrow10 hat10 hown9 e0 e1 e2 e3
       go_roundw
       case rel => exact ⟨_,_,HN.out⟩
       case measure =>
        obtain ⟨vl9,hst9,-⟩:=HN.out
        obtain ⟨A9,cap9,rfl,-⟩:=hst9.tr
        have e9:=hst9.row.cell 0
        rw [e9,k0]
        show rest.length < rest.length + 1
        omega
end Go.Proofs.YtbiglfpikfjbpaaGreatDoor
