import Derived.Test.YtbiglfpikfjbpaaGreatDoorM6
import Derived.Test.YtbiglfpikfjbpaaGreatDoorM3
namespace Go.Proofs.YtbiglfpikfjbpaaGreatDoor
open Go.RowKit
set_option maxRecDepth 100000
set_option linter.unusedVariables false
set_option linter.unusedSimpArgs false
set_option maxHeartbeats 40000000
theorem grown_keep {w w' : World} {row : Option Nat} (hg : w.grownBy w' row) {B : Nat} (hr : ∀ g,row = some g -> B <= g) : ∀ x,x < B -> x < w.heap.size -> w'.heap[x]? = w.heap[x]? :=
 fun x hx hlt => hg.block x hlt (fun e => by have:=hr x e.symm; omega)
theorem Bk.keep {w w' : World} {g : Nat} {t : TypeId} {cs : Array Value} (h : Bk w g t cs) (hk : w'.heap[g]? = w.heap[g]?) : Bk w' g t cs:=hk.trans h
theorem Off.off {S : List Nat} {w w' : World} (h : Off S w w') : ∀ x,x < w.heap.size -> x ∉ S -> w'.heap[x]? = w.heap[x]?:=h.block
def cf : List Tl -> Option (List ByteArray)
 | [] => some []
 | k :: rest => match headP 0 4 false (k :: rest) with
  | some (t,_) => (cf rest).map (t.body :: ·)
  | none => none
theorem bi {cls tag : Int} {cons : Bool} {ks : List Tl} {t : Tl} {rest : List Tl} (h : headP cls tag cons ks = some (t,rest)) : ks = t :: rest /\ t.isB cls tag cons = true:=by
 cases ks with
 | nil => simp [headP] at h
 | cons k r =>
  simp only [headP] at h
  by_cases hq : k.isB cls tag cons = true
  ·rw [if_pos hq] at h
   simp at h
   obtain ⟨rfl,rfl⟩:=h
   exact ⟨rfl,hq⟩
  ·rw [if_neg hq] at h; simp at h
theorem textP_some {ks : List Tl} {s : ByteArray} {rest : List Tl} (h : bc ks = some (s,rest)) : ∃ t : Tl,ks = t :: rest /\ t.body = s /\ headP 0 4 false ks = some (t,rest):=by
 unfold bc at h
 cases hh : headP 0 4 false ks with
 | none => rw [hh] at h; simp at h
 | some p =>
  obtain ⟨t,r⟩:=p
  rw [hh] at h
  simp at h
  obtain ⟨h1,rfl⟩:=h
  exact ⟨t,(bi hh).1,h1,rfl⟩
theorem textsP_none {ks : List Tl} (h0 : ks ≠ []) (h : bc ks = none) : cf ks = none:=by
 cases ks with
 | nil => exact absurd rfl h0
 | cons k r =>
  unfold cf
  unfold bc at h
  cases hh : headP 0 4 false (k :: r) with
  | none => rfl
  | some p => rw [hh] at h; simp at h
theorem eq {ks : List Tl} {s : ByteArray} {rest : List Tl} (h : bc ks = some (s,rest)) : cf ks = (cf rest).map (s :: ·) /\ ks.length = rest.length + 1:=by
 obtain ⟨t,rfl,rfl,hh⟩:=textP_some h
 exact ⟨by rw [cf,hh],rfl⟩
theorem info_strE : (Tryz.prog.info? 9).map (fun i => (i.zero,i.size,i.bytes)) = some (some (.string ByteArray.empty),1,16):=by kernel_rfl
def eQ (v : Option Value) : Nat:=match v with | some (.slice _ n _) => n | _ => 0
def TextsAt (b : Nat) (S : Nat -> Prop) (ks : List Tl) (w : World) (ss : List ByteArray) (rest : List Tl) (u v : Value) (wr : World) : Prop :=
 Off [b] w wr /\ Bk wr b 76 #[v] /\ TRow wr S v rest /\ GRow 9 1 StrAt wr w.heap.size u ss /\ cf ks = (cf rest).map (ss ++ ·) /\ ss.length + rest.length <= 8192
def TextsPost (b : Nat) (r : Option (List ByteArray)) (w : World) (e : Ending) (w' : World) : Prop :=
 Off [b] w w' /\ ((r = none /\ bG e) \/ ∃ (ss : List ByteArray) (q : Rw),r = some ss /\ e = .returned (.slice q.A q.n q.c) /\ SRow w' (fun x => w.heap.size <= x) q ss)
theorem TextsAt.next {b : Nat} {S : Nat -> Prop} {ks rest rest2 : List Tl} {w wr w2 w3 : World} {ss : List ByteArray} {s : ByteArray} {u v2 u3 : Value} {css : List (List Value)} (hbw : b < w.heap.size) (hS : ∀ x,S x -> x ≠ b /\ x < w.heap.size)
  (h1 : Off [b] w wr) (hpar : cf ks = (cf rest).map (ss ++ ·)) (hlen : ss.length + rest.length <= 8192) (htx : bc rest = some (s,rest2)) (hsm : s.size <= maxLen)
  (hcl : css.length = ss.length) (hck : ∀ c ∈ css,c.length = 1) (hown : wr.ownsRow w.heap.size 9 1 u ss.length css.flatten)
  (hall : ∀ (i : Nat) (d : ByteArray) (c : List Value),ss[i]? = some d -> css[i]? = some c -> StrAt wr (fun b => w.heap.size <= b /\ u.ownBlock ≠ some b) d c)
  (ho : Off [b] wr w2) (hb2 : Bk w2 b 76 #[v2]) (hr2 : TRow w2 S v2 rest2)
  (hown3 : w3.ownsRow w.heap.size 9 1 u3 (ss.length + 1) (css.flatten ++ [.string s])) (hgr : (w2.alloc (.cells #[.string s] 9)).grownBy w3 u.ownBlock) (hat : u3.ownBlock = u.ownBlock \/ u3.ownBlock = some (w2.alloc (.cells #[.string s] 9)).heap.size) :
  TextsAt b S ks w (ss ++ [s]) rest2 u3 v2 w3:=by
 have ha : Below w2.heap.size w2 (w2.alloc (.cells #[.string s] 9)):=(Below.refl _ w2).alloc (Nat.le_refl _) _
 have s1:=h1.size
 have s2:=ho.size
 have s3:=ha.size
 have hk:=grown_keep hgr (B:=w.heap.size) (fun g hg => (hown.lt g hg).1)
 have hk2 : ∀ x,x < w.heap.size -> w3.heap[x]? = w2.heap[x]?:=fun x hx => (hk x hx (by omega)).trans (ha.block x (by omega))
 obtain ⟨hp,hl⟩:=eq htx
 refine ⟨((h1.trans ho).alloc _).grown hgr (fun g hg => .inr (hown.lt g hg).1),hb2.keep (hk2 b hbw),hr2.keep (by have:=hgr.size; omega) (fun x hx hlt => hk2 x (hS x hx).2) (fun _ h _ => h),
  GRow.push al (w:=wr) (w1:=w2) (w2:=w2.alloc (.cells #[.string s] 9)) s1 hcl hck hown hall (fun x hx hlt => ho.block x hlt (by simp; omega)) s2 rfl ⟨rfl,hsm⟩ ha hown3 hgr hat,?_,?_⟩
 ·rw [hpar,hp,Option.map_map]
  congr 1
  funext l
  simp
 ·rw [List.length_append,List.length_singleton]; omega
theorem fL (b : Nat) (v : Value) (ks : List Tl) (S : Nat -> Prop) (w : World) (hb : Bk w b 76 #[v]) (hr : TRow w S v ks) (hS : ∀ x,S x -> x ≠ b /\ x < w.heap.size) (hlen : ks.length <= 8192) :
  Calls Tryz.prog 104 #[.pointer (some ⟨b,0,none⟩)] w (TextsPost b (cf ks) w):=by
 obtain ⟨i0,hi,hz0,hz1,hz2⟩:=info_parts info_strE
 have hbw:=hb.lt
 have HS:=aa hS
 have h0 : TextsAt b S ks w [] ks (.slice none 0 0) v w:=⟨Off.refl _ _,hb,hr,GRow.nil _ _,by cases cf ks <;> rfl,by simpa using hlen⟩
 have H0:=aa h0
 clear hb hr h0 hS hlen
 go_enter Tryz.func104,Tryz.ntmps104
 go_wp2_with fail
 go_loopw [3] (fun u wr => ∃ (ss : List ByteArray) (rest : List Tl) (v : Value),TextsAt b S ks w ss rest u v wr) (fun _ wr => eQ (wr.cell? ⟨b,0,none⟩))
 case atStart => exact ⟨_,_,_,H0.out⟩
 case round =>
  clear H0
  obtain ⟨ss,rest,v1,h1,h2,h3,h4,h5,h6⟩:=hrel
  obtain ⟨A,cap,rfl,hc1,hc2,-⟩:=id h3
  have c0 : wr.cell? ⟨b,0,none⟩ = some (.slice A rest.length cap):=h2.cell 0
  have H1:=aa h1
  have H2:=aa h2
  have H3:=aa h3
  have H5:=aa h5
  have H6:=aa h6
  have hs1:=h1.size
  clear h1 h2 h3 h5 hc1 hc2 h6
  cases rest with
  | nil =>
   obtain ⟨q,rfl,hq⟩:=GRow.row al h4
   have HQ:=aa hq
   clear h4 hq
   go_wp2_with fail
   go_ret
   exact ⟨H1.out,.inr ⟨ss,q,by rw [H5.out]; simp [cf],rfl,HQ.out⟩⟩
  | cons k rest =>
   have HX:=aa (aW b _ (k :: rest) S wr H2.out H3.out (fun x hx => (HS.out x hx).1))
   obtain ⟨css,hcl,hck,hown,hall⟩:=h4
   have HCL:=aa hcl
   have HCK:=aa hck
   have HALL:=aa hall
   clear hcl hck hall
   have z1 : decide ((0 : Int) < (rest.length : Int) + 1) = true:=ab (by omega)
   have z2 : ss.length < 8192:=by have:=H6.out; simp at this; omega
   go_wp2_with fail
   (go_at_call 72)
   refine HX.out.mono ?_
   rintro e w2 ⟨ho,hcs⟩
   have HO:=aa ho
   rcases hcs with ⟨hn,rfl⟩ | ⟨s,rest2,v2,hn,⟨hsm,rfl⟩,hb2,hr2⟩
   ·exact ⟨rfl,H1.out.trans ho,.inl ⟨by rw [H5.out,textsP_none (by simp) hn]; rfl,rfl⟩⟩
   ·have hown2:=ho.own hown (fun g hg => by have:=(hown.lt g hg).1; simp; omega)
    have HN:=aa hn
    have HB2:=aa hb2
    have HR2:=aa hr2
    have HSM:=aa hsm
    have hs2:=ho.size
    clear hn hb2 hr2 hsm ho
    go_wp2_with (at_builtin; refine wpList_append_own_at _ rfl (.tmp 10) (.tmp 13) 22 rfl w.heap.size 9 i0 (.string ByteArray.empty) 1 16 Tryz.underlying22 hi hz0 hz1 hz2 rfl (by decide) u3 _ _ rfl (World.ownsRow.alloc (w:=w2) hown2 _) ⟨w2.heap.size,0,none⟩ 1 1 [.string s] rfl rfl (cell_one_new _ _ _) (fun x hx => by simp at hx; subst hx; rfl) (by unfold maxLen; omega) (by omega) (by simp; omega) ?_; intro v' w3 hown3 hgrow3 hnil3 hat3)
    have HT:=aa (TextsAt.next hbw HS.out H1.out H5.out H6.out HN.out HSM.out HCL.out HCK.out hown HALL.out HO.out HB2.out HR2.out hown3 hgrow3 hat3)
    clear hgrow3 hnil3 hat3 hown3 hown2 hown
    go_roundw
    case rel => exact ⟨_,_,_,HT.out⟩
    case measure =>
     obtain ⟨-,hbk,⟨A2,cap2,rfl,-⟩,-⟩:=HT.out
     have e1 : w3.cell? ⟨b,0,none⟩ = some (.slice A2 rest2.length cap2):=hbk.cell 0
     have hl2 : rest.length + 1 = rest2.length + 1:=(eq HN.out).2
     rw [e1,c0]
     show rest2.length < rest.length + 1
     omega
def dH (ks : List Tl) : Option ((ByteArray × List ByteArray)):=(bc ks).bind fun p => (aZ 17 p.2).bind fun q => (cf q.1).bind fun ss => if q.2 = [] then some (p.1,ss) else none
def AttrPost (b : Nat) (r : Option (ByteArray × List ByteArray)) (w : World) (e : Ending) (w' : World) : Prop :=
 Off [b] w w' /\ ((r = none /\ bG e) \/ ∃ (d : ByteArray × List ByteArray) (c : List Value),r = some d /\ e = .returned (.agg c.toArray) /\ bQ w' (fun x => w.heap.size <= x) d c)
theorem ct {tag : Int} {ks l rest : List Tl} (h : aZ tag ks = some (l,rest)) : ∃ t : Tl,ks = t :: rest /\ t.kids = l /\ headP 0 tag true ks = some (t,rest):=by
 unfold aZ at h
 cases hh : headP 0 tag true ks with
 | none => rw [hh] at h; simp at h
 | some p =>
  obtain ⟨t,r⟩:=p
  rw [hh] at h
  simp at h
  obtain ⟨h1,rfl⟩:=h
  exact ⟨t,(bi hh).1,h1,rfl⟩
mutual
def Tl.few : Tl -> Prop | .mk _ _ _ _ ks => ks.length <= 8192 /\ Tl.fews ks
def Tl.fews : List Tl -> Prop | [] => True | k :: ks => k.few /\ Tl.fews ks
end
def Few (ks : List Tl) : Prop:=ks.length <= 8192 /\ Tl.fews ks
theorem Few.tail {k : Tl} {ks : List Tl} (h : Few (k :: ks)) : Few ks:=by
 obtain ⟨h1,h2⟩:=h
 unfold Tl.fews at h2
 exact ⟨by simp at h1; omega,h2.2⟩
theorem Few.kids {k : Tl} {ks : List Tl} (h : Few (k :: ks)) : Few k.kids:=by
 obtain ⟨h1,h2⟩:=h
 unfold Tl.fews at h2
 obtain ⟨c,q,t,b,l⟩:=k
 have:=h2.1
 unfold Tl.few at this
 exact this
theorem Few.text {ks rest : List Tl} {s : ByteArray} (h : Few ks) (ht : bc ks = some (s,rest)) : Few rest:=by
 obtain ⟨t,rfl,-,-⟩:=textP_some ht
 exact h.tail
theorem Few.list {tag : Int} {ks l rest : List Tl} (h : Few ks) (ht : aZ tag ks = some (l,rest)) : Few l /\ Few rest:=by
 obtain ⟨t,rfl,rfl,-⟩:=ct ht
 exact ⟨h.kids,h.tail⟩
theorem attr_any (b : Nat) (v : Value) (ks : List Tl) (S : Nat -> Prop) (w : World) (hb : Bk w b 76 #[v]) (hr : TRow w S v ks) (hS : ∀ x,S x -> x ≠ b /\ x < w.heap.size) (hf : Few ks) :
  Calls Tryz.prog 96 #[.pointer (some ⟨b,0,none⟩)] w (AttrPost b (dH ks) w):=by
 have hbw:=hb.lt
 have ha:=(Below.refl w.heap.size w).alloc (Nat.le_refl _) (.cells #[.string ByteArray.empty,.slice none 0 0] 50)
 have HA:=aa ha
 have HS:=aa hS
 have HX:=aa (aW b v ks S _ (hb.alloc (.cells #[.string ByteArray.empty,.slice none 0 0] 50)) (hr.below ha) (fun x hx => (hS x hx).1))
 have HF:=aa hf
 clear hb hr hS ha hf
 go_enter Tryz.func96,Tryz.ntmps96
 go_wp2_with fail
 (go_at_call 72)
 refine HX.out.mono ?_
 rintro e w2 ⟨ho,hcs⟩
 have HO:=aa ((((Off.refl [b] w).alloc (.cells #[.string ByteArray.empty,.slice none 0 0] 50)).trans ho))
 have hz:=ho.bk (Bk.new w 50 #[.string ByteArray.empty,.slice none 0 0]) (by simp; omega)
 have HZ:=aa hz
 clear ho hz
 rcases hcs with ⟨hn,rfl⟩ | ⟨s,rest2,v2,hn,⟨hsm,rfl⟩,hb2,hr2⟩
 ·exact ⟨rfl,HO.out,.inl ⟨by simp [dH,hn],rfl⟩⟩
 ·have HN:=aa hn
  have HSM:=aa hsm
  have hb3:=hb2.alloc (.cells #[.string s,.slice none 0 0] 50)
  have hr3:=hr2.below ((Below.refl w2.heap.size w2).alloc (Nat.le_refl _) (.cells #[.string s,.slice none 0 0] 50))
  have HL:=aa (bA 17 b v2 rest2 S _ hb3 hr3 (fun x hx => (HS.out x hx).1))
  have hs2:=HO.out.size
  clear hn hb2 hr2 hsm hb3 hr3
  go_wp2_with fail
  (go_at_call 71)
  refine HL.out.mono ?_
  rintro e w3 ⟨ho,hcs⟩
  have HO3:=aa ho
  rcases hcs with ⟨hn,rfl⟩ | ⟨l,rest3,v3,hn,⟨c,vl,rfl,hc,hbc,hrc⟩,hb3,hr3⟩
  ·exact ⟨rfl,(HO.out.alloc _).trans ho,.inl ⟨by simp [dH,HN.out,hn],rfl⟩⟩
  ·have HN3:=aa hn
   have hal : Below w2.heap.size w2 (w2.alloc (.cells #[.string s,.slice none 0 0] 50)):=(Below.refl _ _).alloc (Nat.le_refl _) _
   have hs3 : w2.heap.size + 1 <= w3.heap.size:=by simpa using ho.size
   have hsa:=hal.size
   have hw2:=HZ.out.lt
   have hc' : w2.heap.size + 1 <= c:=by simpa using hc
   have hz3:=ho.bk (HZ.out.alloc (.cells #[.string s,.slice none 0 0] 50)) (by simp; omega)
   have hy3:=ho.bk (Bk.new w2 50 #[.string s,.slice none 0 0]) (by simp; omega)
   have HT:=aa (fL c vl l S w3 hbc hrc (fun x hx => ⟨by have:=(HS.out x hx).2; omega,by have:=(HS.out x hx).2; omega⟩) ((HF.out.text HN.out).list hn).1.1)
   have HZ3:=aa hz3
   have HY3:=aa hy3
   have HB3:=aa hb3
   have HR3:=aa hr3
   clear hn hb3 hr3 hbc hrc hz3 hy3 ho hal hsa
   go_wp2_with fail
   (go_at_call 104)
   refine HT.out.mono ?_
   rintro e w4 ⟨ho,hcs⟩
   have HO4:=aa ho
   have hoc : Off [b] w w4:=((HO.out.alloc _).trans HO3.out).then ho (by simp; omega)
   have HOC:=aa hoc
   rcases hcs with ⟨hn,rfl⟩ | ⟨ss,q,hn,rfl,hq⟩
   ·exact ⟨rfl,hoc,.inl ⟨by simp [dH,HN.out,HN3.out,hn],rfl⟩⟩
   ·have HN4:=aa hn
    have HQ:=aa hq
    have hs4:=ho.size
    have hz4:=ho.bk HZ3.out (by simp; omega)
    have hy4:=ho.bk HY3.out (by simp; omega)
    have hb4:=ho.bk HB3.out (by simp; omega)
    have hr4:=HR3.out.keep hs4 (fun x hx hlt => ho.block x hlt (by have:=(HS.out x hx).2; simp; omega)) (fun _ h _ => h)
    have y1 : w4.cell? ⟨w2.heap.size,1,none⟩ = some (.slice none 0 0):=hy4.cell 1
    have y0 : w4.cell? ⟨w2.heap.size,0,none⟩ = some (.string s):=hy4.cell 0
    have g1:=hy4.frozen 1
    have g0:=hy4.frozen 0
    have z1 : w4.cell? ⟨w.heap.size,1,none⟩ = some (.slice none 0 0):=hz4.cell 1
    have z0 : w4.cell? ⟨w.heap.size,0,none⟩ = some (.string ByteArray.empty):=hz4.cell 0
    have f1:=hz4.frozen 1
    have f0:=hz4.frozen 0
    obtain ⟨A5,cap5,rfl,-⟩:=id hr4
    have HE:=aa (bw b rest3.length A5 cap5 (w4.setCell ⟨w2.heap.size,1,none⟩ (.slice q.A q.n q.c)) (hb4.far (by simp; omega) _))
    have HOW:=aa (hoc.setCell (p:=⟨w2.heap.size,1,none⟩) (.inr (by simp; omega)) (.slice q.A q.n q.c))
    have hy5 : Bk (w4.setCell ⟨w2.heap.size,1,none⟩ (.slice q.A q.n q.c)) w2.heap.size 50 #[.string s,.slice q.A q.n q.c]:=hy4.put 1 (.slice q.A q.n q.c)
    have hz5 : Bk (w4.setCell ⟨w2.heap.size,1,none⟩ (.slice q.A q.n q.c)) w.heap.size 50 #[.string ByteArray.empty,.slice none 0 0]:=hz4.far (by simp; omega) _
    have HY5:=aa hy5
    have HZ5:=aa hz5
    have hne : ¬ (w2.heap.size = w.heap.size):=by omega
    have hne2 : ¬ (w.heap.size = w2.heap.size):=by omega
    have hl2 : w2.heap.size < w4.heap.size:=by omega
    have hl3 : w.heap.size < w4.heap.size:=by omega
    clear hn hq hz4 hy4 hb4 hr4 hoc ho hy5 hz5
    go_wp2_with fail
    (go_at_call 45)
    refine HE.out.mono ?_
    rintro e w5 ⟨ho5,hcs⟩
    rcases hcs with ⟨hn,rfl⟩ | ⟨hn,rfl⟩
    ·have hy6:=ho5.bk HY5.out (by simp)
     have hz6:=ho5.bk HZ5.out (by simp)
     have x0 : w5.cell? ⟨w2.heap.size,0,none⟩ = some (.string s):=hy6.cell 0
     have x1 : w5.cell? ⟨w2.heap.size,1,none⟩ = some (.slice q.A q.n q.c):=hy6.cell 1
     have v0 : w5.cell? ⟨w.heap.size,0,none⟩ = some (.string ByteArray.empty):=hz6.cell 0
     have v1 : w5.cell? ⟨w.heap.size,1,none⟩ = some (.slice none 0 0):=hz6.cell 1
     have k0:=hz6.frozen 0
     have k1:=hz6.frozen 1
     have HO5:=aa ho5
     clear hy6 hz6 ho5 y0 y1 z0 z1 g0 g1 f0 f1
     go_wp2_with fail
     refine bodyPost_ret (v:=.agg #[.string s,.slice q.A q.n q.c]) (by simp [results,Tryz.results96,go_sem,v0,v1,k0,k1]) rfl ⟨?_,.inr ⟨(s,ss),[.string s,.slice q.A q.n q.c],?_,rfl,q,rfl,HSM.out,?_⟩⟩
     ·exact ((HOW.out.trans (HO5.out.mono (by simp))).setCell (.inr (Nat.le_refl _)) _).setCell (.inr (Nat.le_refl _)) _
     ·have : rest3 = []:=by simpa using hn
      simp [dH,HN.out,HN3.out,HN4.out,this]
     ·have ho6 : Off [w.heap.size] w5 _:=((Off.refl [w.heap.size] w5).setCell (p:=⟨w.heap.size,0,none⟩) (.inl (by simp)) (.string s)).setCell (p:=⟨w.heap.size,1,none⟩) (.inl (by simp)) (.slice q.A q.n q.c)
      have ho7 : Off [w2.heap.size,w.heap.size] w4 _:=(((Off.refl [w2.heap.size,w.heap.size] w4).setCell (p:=⟨w2.heap.size,1,none⟩) (.inl (by simp)) (.slice q.A q.n q.c)).trans (HO5.out.mono (by simp))).trans (ho6.mono (by simp))
      exact HQ.out.keep al ho7.size (fun x hx hlt => ho7.block x hlt (by simp; omega)) (fun x hx _ => by omega)
    ·exact ⟨rfl,HOW.out.trans (ho5.mono (by simp)),.inl ⟨by
      have : rest3 ≠ []:=by rintro rfl; simp at hn
      simp [dH,HN.out,HN3.out,HN4.out,this],rfl⟩⟩
def MayR (b : Nat) (S : Nat -> Prop) (ks : List Tl) (cls tag : Int) (cons : Bool) (v : Value) (w : World) (e : Ending) (w' : World) : Prop :=
 Off [b] w w' /\ ((headP cls tag cons ks = none /\ e = .returned (.tuple #[.agg #[.int .i64 0,.bool false,.int .i64 0,.string ⟨#[]⟩,.slice none 0 0],.bool false]) /\ Bk w' b 76 #[v] /\ TRow w' S v ks) ∨
  ∃ (s : ByteArray) (l rest : List Tl) (A : Option Addr) (cap : Nat) (v' : Value),headP cls tag cons ks = some (.mk cls cons tag s l,rest) /\ s.size <= maxLen /\ e = .returned (.tuple #[.agg #[.int .i64 cls,.bool cons,.int .i64 tag,.string s,.slice A l.length cap],.bool true]) ∧
   Bk w' b 76 #[v'] /\ TRow w' S v' rest /\ TRow w' S (.slice A l.length cap) l)
theorem ed (b : Nat) (v : Value) (ks : List Tl) (S : Nat -> Prop) (cls tag : Int) (cons : Bool) (w : World) (hb : Bk w b 76 #[v]) (hr : TRow w S v ks) (hnb : ∀ x,S x -> x ≠ b) :
  Calls Tryz.prog 43 #[.pointer (some ⟨b,0,none⟩),.int .i64 cls,.int .i64 tag,.bool cons] w (MayR b S ks cls tag cons v w):=by
 refine (may_any b v ks S cls tag cons w hb hr hnb).mono ?_
 rintro e w' ⟨ho,hcs⟩
 refine ⟨ho,?_⟩
 rcases hcs with ⟨hq,rfl,hb2⟩ | ⟨hq,k,rest,cs,v',hks,rfl,hb2,ht,hr2⟩
 ·exact .inl ⟨dM hq,rfl,hb2,hr.keep ho.size (fun x hx hlt => ho.block x hlt (by simpa using hnb x hx)) (fun _ h _ => h)⟩
 ·have hp:=df hks hq
  obtain ⟨c,k,t,s,l⟩:=k
  subst hks
  obtain ⟨rfl,rfl,rfl⟩:=fm hq
  unfold TlAt at ht
  obtain ⟨A,cap,rfl,hl,-,-,hs,hk⟩:=ht
  exact .inr ⟨s,l,rest,A,cap,v',hp,hs,rfl,hb2,hr2,TRow.of_kids hl hk⟩
theorem must_r (b : Nat) (v : Value) (ks : List Tl) (S : Nat -> Prop) (cls tag : Int) (cons : Bool) (w : World) (hb : Bk w b 76 #[v]) (hr : TRow w S v ks) (hnb : ∀ x,S x -> x ≠ b) :
  Calls Tryz.prog 69 #[.pointer (some ⟨b,0,none⟩),.int .i64 cls,.int .i64 tag,.bool cons] w fun e w' => Off [b] w w' /\ ((headP cls tag cons ks = none /\ bG e) ∨
   ∃ (s : ByteArray) (l rest : List Tl) (A : Option Addr) (cap : Nat) (v' : Value),headP cls tag cons ks = some (.mk cls cons tag s l,rest) /\ s.size <= maxLen /\ e = .returned (.agg #[.int .i64 cls,.bool cons,.int .i64 tag,.string s,.slice A l.length cap]) ∧
    Bk w' b 76 #[v'] /\ TRow w' S v' rest /\ TRow w' S (.slice A l.length cap) l):=by
 refine (em b v ks S cls tag cons w hb hr hnb).mono ?_
 rintro e w' ⟨ho,hcs⟩
 refine ⟨ho,?_⟩
 rcases hcs with ⟨hq,h⟩ | ⟨hq,k,rest,cs,v',hks,rfl,hb2,ht,hr2⟩
 ·exact .inl ⟨dM hq,h⟩
 ·have hp:=df hks hq
  obtain ⟨c,k,t,s,l⟩:=k
  subst hks
  obtain ⟨rfl,rfl,rfl⟩:=fm hq
  unfold TlAt at ht
  obtain ⟨A,cap,rfl,hl,-,-,hs,hk⟩:=ht
  exact .inr ⟨s,l,rest,A,cap,v',hp,hs,rfl,hb2,hr2,TRow.of_kids hl hk⟩
structure Fix (S : Nat -> Prop) (b g B : Nat) : Prop where
 ne : b ≠ g
 bB : b < B
 gB : g < B
 apart : ∀ x,S x -> x ≠ b /\ x ≠ g /\ x < B
structure St (w0 : World) (S : Nat -> Prop) (b g : Nat) (T : TypeId) (w : World) (v : Value) (ks : List Tl) (cs : Array Value) : Prop where
 off : Off [b,g] w0 w
 row : Bk w b 76 #[v]
 tr : TRow w S v ks
 ms : Bk w g T cs
section
variable {w0 w w' : World} {S : Nat -> Prop} {b g : Nat} {T : TypeId} {v v' : Value} {ks rest : List Tl} {cs : Array Value}
theorem Fix.nb {B : Nat} (F : Fix S b g B) : ∀ x,S x -> x ≠ b:=fun x hx => (F.apart x hx).1
theorem St.rd (F : Fix S b g w0.heap.size) (h : St w0 S b g T w v ks cs) (ho : Off [b] w w') (hb : Bk w' b 76 #[v']) (hr : TRow w' S v' rest) : St w0 S b g T w' v' rest cs :=
 ⟨h.off.trans (ho.mono (by simp)),hb,hr,ho.bk h.ms (by simpa using F.ne.symm)⟩
theorem St.put (F : Fix S b g w0.heap.size) (h : St w0 S b g T w v ks cs) (i : Nat) (u : Value) : St w0 S b g T (w.setCell ⟨g,i,none⟩ u) v ks (cs.setIfInBounds i u) :=
 ⟨h.off.setCell (.inl (by simp)) _,h.row.far F.ne _,h.tr.keep (by simp [World.setCell]) (fun x hx _ => Below.heap_setCell w ⟨g,i,none⟩ u x (F.apart x hx).2.1) (fun _ h _ => h),h.ms.put i u⟩
theorem St.new (h : St w0 S b g T w v ks cs) (o : Obj) : St w0 S b g T (w.alloc o) v ks cs :=
 ⟨h.off.alloc o,h.row.alloc o,h.tr.below ((Below.refl _ w).alloc (Nat.le_refl _) o),h.ms.alloc o⟩
theorem St.drew (h : St w0 S b g T w v ks cs) : St w0 S b g T w.drew v ks cs:=⟨h.off.drew,h.row,h.tr.keep (Nat.le_refl _) (fun _ _ _ => rfl) (fun _ h _ => h),h.ms⟩
theorem St.quiet (F : Fix S b g w0.heap.size) (h : St w0 S b g T w v ks cs) {Z : List Nat} (ho : Off Z w w') (hZ : ∀ z ∈ Z,w0.heap.size <= z) : St w0 S b g T w' v ks cs :=
 ⟨h.off.then ho (fun z hz => .inr (hZ z hz)),ho.bk h.row (fun hm => by have:=hZ _ hm; have:=F.bB; omega),h.tr.keep ho.size (fun x hx hlt => ho.block x hlt (fun hm => by have:=hZ _ hm; have:=(F.apart x hx).2.2; omega)) (fun _ h _ => h),
  ho.bk h.ms (fun hm => by have:=hZ _ hm; have:=F.gB; omega)⟩
structure Ax (S : Nat -> Prop) (B c : Nat) (w : World) (v : Value) (ks : List Tl) : Prop where
 row : Bk w c 76 #[v]
 tr : TRow w S v ks
 le : B <= c
theorem Ax.put {B c : Nat} (F : Fix S b g B) (h : Ax S B c w v ks) (i : Nat) (u : Value) : Ax S B c (w.setCell ⟨g,i,none⟩ u) v ks :=
 ⟨h.row.far (by have:=F.gB; have:=h.le; show c ≠ g; omega) _,h.tr.keep (by simp [World.setCell]) (fun x hx _ => Below.heap_setCell w ⟨g,i,none⟩ u x (F.apart x hx).2.1) (fun _ h _ => h),h.le⟩
theorem Ax.new {B c : Nat} (h : Ax S B c w v ks) (o : Obj) : Ax S B c (w.alloc o) v ks:=⟨h.row.alloc o,h.tr.below ((Below.refl _ w).alloc (Nat.le_refl _) o),h.le⟩
theorem Ax.drew {B c : Nat} (h : Ax S B c w v ks) : Ax S B c w.drew v ks:=⟨h.row,h.tr.keep (Nat.le_refl _) (fun _ _ _ => rfl) (fun _ h _ => h),h.le⟩
theorem Ax.quiet {B c : Nat} (F : Fix S b g B) (h : Ax S B c w v ks) {Z : List Nat} (ho : Off Z w w') (hZ : ∀ z ∈ Z,(z = b \/ z = g \/ B <= z) /\ z ≠ c) : Ax S B c w' v ks :=
 ⟨ho.bk h.row (fun hm => (hZ _ hm).2 rfl),h.tr.keep ho.size (fun x hx hlt => ho.block x hlt (fun hm => by have h1:=hZ _ hm; have h2:=F.apart x hx; omega)) (fun _ h _ => h),h.le⟩
theorem Ax.nb {B c : Nat} (F : Fix S b g B) (h : Ax S B c w v ks) : ∀ x,S x -> x ≠ c:=fun x hx => by have:=(F.apart x hx).2.2; have:=h.le; omega
theorem St.cell (h : St w0 S b g T w v ks cs) (i : Nat) : w.cell? ⟨g,i,none⟩ = cs[i]?:=h.ms.cell i
theorem St.frozen (h : St w0 S b g T w v ks cs) (i : Nat) : w.frozen? ⟨g,i,none⟩ = false:=h.ms.frozen i
end
theorem MC.put_id (m : MC) (x : Int) : m.cells.setIfInBounds 0 (.int .i64 x) = ({ m with id:=x } : MC).cells:=by simp only [MC.cells,List.setIfInBounds_toArray,List.set_cons_succ,List.set_cons_zero]
theorem MC.put_op (m : MC) (x : Int) : m.cells.setIfInBounds 1 (.int .i64 x) = ({ m with op:=x } : MC).cells:=by simp only [MC.cells,List.setIfInBounds_toArray,List.set_cons_succ,List.set_cons_zero]
theorem MC.put_version (m : MC) (x : Int) : m.cells.setIfInBounds 2 (.int .i64 x) = ({ m with version:=x } : MC).cells:=by simp only [MC.cells,List.setIfInBounds_toArray,List.set_cons_succ,List.set_cons_zero]
theorem MC.put_name (m : MC) (x : ByteArray) : m.cells.setIfInBounds 3 (.string x) = ({ m with name:=x } : MC).cells:=by simp only [MC.cells,List.setIfInBounds_toArray,List.set_cons_succ,List.set_cons_zero]
theorem MC.put_sasl (m : MC) (x : Bool) : m.cells.setIfInBounds 4 (.bool x) = ({ m with sasl:=x } : MC).cells:=by simp only [MC.cells,List.setIfInBounds_toArray,List.set_cons_succ,List.set_cons_zero]
theorem MC.put_secret (m : MC) (x : ByteArray) : m.cells.setIfInBounds 5 (.string x) = ({ m with secret:=x } : MC).cells:=by simp only [MC.cells,List.setIfInBounds_toArray,List.set_cons_succ,List.set_cons_zero]
theorem MC.put_kind (m : MC) (x : ByteArray) : m.cells.setIfInBounds 6 (.string x) = ({ m with kind:=x } : MC).cells:=by simp only [MC.cells,List.setIfInBounds_toArray,List.set_cons_succ,List.set_cons_zero]
theorem MC.put_has (m : MC) (x : Bool) : m.cells.setIfInBounds 7 (.bool x) = ({ m with has:=x } : MC).cells:=by simp only [MC.cells,List.setIfInBounds_toArray,List.set_cons_succ,List.set_cons_zero]
theorem MC.put_value (m : MC) (x : ByteArray) : m.cells.setIfInBounds 8 (.string x) = ({ m with value:=x } : MC).cells:=by simp only [MC.cells,List.setIfInBounds_toArray,List.set_cons_succ,List.set_cons_zero]
theorem MC.put_code (m : MC) (x : Int) : m.cells.setIfInBounds 9 (.int .i64 x) = ({ m with code:=x } : MC).cells:=by simp only [MC.cells,List.setIfInBounds_toArray,List.set_cons_succ,List.set_cons_zero]
theorem MC.put_text (m : MC) (x : ByteArray) : m.cells.setIfInBounds 10 (.string x) = ({ m with text:=x } : MC).cells:=by simp only [MC.cells,List.setIfInBounds_toArray,List.set_cons_succ,List.set_cons_zero]
theorem MC.put_scope (m : MC) (x : Int) : m.cells.setIfInBounds 11 (.int .i64 x) = ({ m with scope:=x } : MC).cells:=by simp only [MC.cells,List.setIfInBounds_toArray,List.set_cons_succ,List.set_cons_zero]
theorem MC.put_deref (m : MC) (x : Int) : m.cells.setIfInBounds 12 (.int .i64 x) = ({ m with deref:=x } : MC).cells:=by simp only [MC.cells,List.setIfInBounds_toArray,List.set_cons_succ,List.set_cons_zero]
theorem MC.put_size (m : MC) (x : Int) : m.cells.setIfInBounds 13 (.int .i64 x) = ({ m with size:=x } : MC).cells:=by simp only [MC.cells,List.setIfInBounds_toArray,List.set_cons_succ,List.set_cons_zero]
theorem MC.put_time (m : MC) (x : Int) : m.cells.setIfInBounds 14 (.int .i64 x) = ({ m with time:=x } : MC).cells:=by simp only [MC.cells,List.setIfInBounds_toArray,List.set_cons_succ,List.set_cons_zero]
theorem MC.put_types (m : MC) (x : Bool) : m.cells.setIfInBounds 15 (.bool x) = ({ m with types:=x } : MC).cells:=by simp only [MC.cells,List.setIfInBounds_toArray,List.set_cons_succ,List.set_cons_zero]
theorem MC.put_attrs (m : MC) (x : Rw) : m.cells.setIfInBounds 23 (.slice x.A x.n x.c) = ({ m with attrs:=x } : MC).cells:=by simp only [MC.cells,List.setIfInBounds_toArray,List.set_cons_succ,List.set_cons_zero]
theorem MC.put_list (m : MC) (x : Rw) : m.cells.setIfInBounds 24 (.slice x.A x.n x.c) = ({ m with list:=x } : MC).cells:=by simp only [MC.cells,List.setIfInBounds_toArray,List.set_cons_succ,List.set_cons_zero]
theorem MC.put_mods (m : MC) (x : Rw) : m.cells.setIfInBounds 25 (.slice x.A x.n x.c) = ({ m with mods:=x } : MC).cells:=by simp only [MC.cells,List.setIfInBounds_toArray,List.set_cons_succ,List.set_cons_zero]
theorem MC.put_rdn (m : MC) (x : ByteArray) : m.cells.setIfInBounds 26 (.string x) = ({ m with rdn:=x } : MC).cells:=by simp only [MC.cells,List.setIfInBounds_toArray,List.set_cons_succ,List.set_cons_zero]
theorem MC.put_old (m : MC) (x : Bool) : m.cells.setIfInBounds 27 (.bool x) = ({ m with old:=x } : MC).cells:=by simp only [MC.cells,List.setIfInBounds_toArray,List.set_cons_succ,List.set_cons_zero]
theorem MC.put_dest (m : MC) (x : Rw) : m.cells.setIfInBounds 28 (.slice x.A x.n x.c) = ({ m with dest:=x } : MC).cells:=by simp only [MC.cells,List.setIfInBounds_toArray,List.set_cons_succ,List.set_cons_zero]
theorem MC.put_other (m : MC) (x : Int) : m.cells.setIfInBounds 29 (.int .i64 x) = ({ m with other:=x } : MC).cells:=by simp only [MC.cells,List.setIfInBounds_toArray,List.set_cons_succ,List.set_cons_zero]
theorem MC.put_controls (m : MC) (x : Rw) : m.cells.setIfInBounds 30 (.slice x.A x.n x.c) = ({ m with controls:=x } : MC).cells:=by simp only [MC.cells,List.setIfInBounds_toArray,List.set_cons_succ,List.set_cons_zero]
def OldM (w : World) (g : Nat) : Prop:=∃ cs : Array Value,Bk w g 30 cs /\ cs.size = 31
def RdM (b g : Nat) (S : Nat -> Prop) (r : Option (Ms × List Tl)) (w : World) (e : Ending) (w' : World) : Prop :=
 Off [b,g] w w' /\ ((r = none /\ bG e /\ OldM w' g) \/ ∃ (M : Ms) (rest : List Tl) (v' : Value) (m : MC),r = some (M,rest) /\ e = .returned (.tuple #[]) /\ Bk w' b 76 #[v'] /\ TRow w' S v' rest /\ Bk w' g 30 m.cells /\ MsAt w' (fun x => w.heap.size <= x) M m)
theorem sRow_one {W : World} {k B : Nat} {s : ByteArray} (h : Bk W k 9 #[.string s]) (hB : B <= k) (hz : s.size <= maxLen) : SRow W (fun x => B <= x) ⟨some ⟨k,0,none⟩,1,1⟩ [s]:=by
 refine ⟨rfl,Nat.le_refl _,by show 1 <= maxLen; unfold maxLen; omega,fun i d hd => ?_⟩
 have hi : i < [s].length:=(List.getElem?_eq_some_iff.1 hd).1
 obtain rfl : i = 0:=by simp at hi; omega
 obtain rfl : s = d:=by simpa using hd
 refine ⟨k,0,[.string s],rfl,⟨hB,h.lt⟩,rfl,fun j u hu => ?_,rfl,hz⟩
 have hj : j < 1:=(List.getElem?_eq_some_iff.1 hu).1
 obtain rfl : j = 0:=by omega
 rw [show 0 + 0 * 1 + 0 = 0 from rfl,h.cell 0]
 simpa using hu
theorem bk_new2 (w : World) (p : Addr) (u : Value) (o : Obj) (t : TypeId) (cs : Array Value) : Bk (((w.setCell p u).alloc o).alloc (.cells cs t)) (w.heap.size + 1) t cs:=by
 have h:=Bk.new ((w.setCell p u).alloc o) t cs
 have e : ((w.setCell p u).alloc o).heap.size = w.heap.size + 1:=by simp [World.setCell]
 rwa [e] at h
def dk (id : Int) (ks : List Tl) : Option (Ms × List Tl) :=
 (numP 2 1 127 ks).bind fun p => (bc p.2).bind fun q => match headP 2 0 false q.2 with
  | some (t,rest) => some ({ Ms.base id 0 with version:=p.1,name:=q.1,secret:=t.body },rest)
  | none => (headP 2 3 true q.2).bind fun x => (bc x.1.kids).bind fun y => match headP 0 4 false y.2 with
   | some (t,l) => if l = [] then some ({ Ms.base id 0 with version:=p.1,name:=q.1,sasl:=true,kind:=y.1,has:=true,value:=t.body },x.2) else none
   | none => if y.2 = [] then some ({ Ms.base id 0 with version:=p.1,name:=q.1,sasl:=true,kind:=y.1 },x.2) else none
theorem readBind_any (id : Int) (b g : Nat) (v : Value) (ks : List Tl) (S : Nat -> Prop) (w : World) (F : Fix S b g w.heap.size) (hb : Bk w b 76 #[v]) (hr : TRow w S v ks) (hg : Bk w g 30 (MC.base id 0).cells) :
  Calls Tryz.prog 94 #[.pointer (some ⟨b,0,none⟩),.pointer (some ⟨g,0,none⟩)] w (RdM b g S (dk id ks) w):=by
 have HF:=aa F
 have HS:=aa (show St w S b g 30 w v ks (MC.base id 0).cells from ⟨Off.refl _ _,hb,hr,hg⟩)
 clear hb hr hg F
 go_enter Tryz.func94,Tryz.ntmps94
 go_wp2_with fail
 (go_at_call 41)
 refine (dz 2 1 127 b v ks S _ HS.out.row HS.out.tr HF.out.nb).mono ?_
 rintro e w1 ⟨ho,hcs⟩
 rcases hcs with ⟨hn,rfl⟩ | ⟨n1,rest1,v1,hn,rfl,hb1,hr1⟩
 ·exact ⟨rfl,HS.out.off.trans (ho.mono (by simp)),.inl ⟨by simp [dk,hn],rfl,⟨_,ho.bk HS.out.ms (by simpa using HF.out.ne.symm),rfl⟩⟩⟩
 have HN1:=aa hn
 have hs1:=HS.out.rd HF.out ho hb1 hr1
 have q2 : w1.cell? ⟨g,2,none⟩ = some (.int .i64 0):=hs1.cell 2
 have f2:=hs1.frozen 2
 have hp1:=hs1.put HF.out 2 (.int .i64 n1)
 rw [MC.put_version] at hp1
 have HS1:=aa hp1
 clear ho hb1 hr1 hn hs1 HS hp1
 go_wp2_with fail
 (go_at_call 72)
 refine (aW b v1 rest1 S _ HS1.out.row HS1.out.tr HF.out.nb).mono ?_
 rintro e w2 ⟨ho,hcs⟩
 rcases hcs with ⟨hn,rfl⟩ | ⟨n2,rest2,v2,hn,⟨hz2,rfl⟩,hb2,hr2⟩
 ·exact ⟨rfl,HS1.out.off.trans (ho.mono (by simp)),.inl ⟨by simp [dk,HN1.out,hn],rfl,⟨_,ho.bk HS1.out.ms (by simpa using HF.out.ne.symm),rfl⟩⟩⟩
 have HN2:=aa hn
 have HZ2:=aa hz2
 have hs2:=HS1.out.rd HF.out ho hb2 hr2
 have q3 : w2.cell? ⟨g,3,none⟩ = some (.string ⟨#[]⟩):=hs2.cell 3
 have f3:=hs2.frozen 3
 have hp2:=hs2.put HF.out 3 (.string n2)
 rw [MC.put_name] at hp2
 have HS2:=aa hp2
 clear ho hb2 hr2 hn hs2 HS1 hp2 hz2 q2 f2
 go_wp2_with fail
 (go_at_call 43)
 refine (ed b v2 rest2 S _ _ _ _ HS2.out.row HS2.out.tr HF.out.nb).mono ?_
 rintro e w3 ⟨ho,hcs⟩
 rcases hcs with ⟨hn,rfl,hb3,hr3⟩ | ⟨s3,l3,rest3,A3,cap3,v3,hn,hz3,rfl,hb3,hr3,hk3⟩
 ·have HN3:=aa hn
  have hs3:=(HS2.out.rd HF.out ho hb3 hr3)
  have HS3:=aa (hs3.new (.cells #[.int .i64 0,.bool false,.int .i64 0,.string ⟨#[]⟩,.slice none 0 0] 42))
  have gl:=hs3.ms.lt
  clear ho hb3 hr3 hn hs3 HS2 q3 f3
  go_wp2_with fail
  (go_at_call 69)
  refine (must_r b v2 rest2 S _ _ _ _ HS3.out.row HS3.out.tr HF.out.nb).mono ?_
  rintro e w4 ⟨ho,hcs⟩
  rcases hcs with ⟨hn,rfl⟩ | ⟨s4,l4,rest4,A4,cap4,v4,hn,hz4,rfl,hb4,hr4,hk4⟩
  ·exact ⟨rfl,HS3.out.off.trans (ho.mono (by simp)),.inl ⟨by simp [dk,HN1.out,HN2.out,HN3.out,hn],rfl,⟨_,ho.bk HS3.out.ms (by simpa using HF.out.ne.symm),rfl⟩⟩⟩
  have HN4:=aa hn
  have hs4:=HS3.out.rd HF.out ho hb4 hr4
  have ha4:=(Below.refl w4.heap.size w4).alloc (Nat.le_refl _) (.cells #[.slice A4 l4.length cap4] 76)
  have HS4:=aa (hs4.new (.cells #[.slice A4 l4.length cap4] 76))
  have HC4:=aa (show Bk (w4.alloc (.cells #[.slice A4 l4.length cap4] 76)) w4.heap.size 76 _ from Bk.new w4 _ #[.slice A4 l4.length cap4])
  have HK4:=aa (hk4.below ha4)
  have hf4:=eY 2 3 true (.string s4) (.slice A4 l4.length cap4)
  have gl4:=hs4.ms.lt
  have hw4:=hs4.off.size
  have q4 : (w4.alloc (.cells #[.slice A4 l4.length cap4] 76)).cell? ⟨g,4,none⟩ = some (.bool false):=HS4.out.cell 4
  clear ho hb4 hr4 hn hs4 HS3 ha4 hk4
  go_wp2_with fail
  (go_at_call 72)
  have hnb4 : ∀ x,S x -> x ≠ w4.heap.size:=fun x hx => by have:=(HF.out.apart x hx).2.2; omega
  refine (aW w4.heap.size _ l4 S _ HC4.out HK4.out hnb4).mono ?_
  rintro e w5 ⟨ho,hcs⟩
  have hs5:=HS4.out.quiet HF.out ho (by simpa using hw4)
  rcases hcs with ⟨hn,rfl⟩ | ⟨n5,rest5,v5,hn,⟨hz5,rfl⟩,hb5,hr5⟩
  ·exact ⟨rfl,hs5.off,.inl ⟨by simp [dk,HN1.out,HN2.out,HN3.out,HN4.out,Tl.kids,hn],rfl,⟨_,hs5.ms,rfl⟩⟩⟩
  have HN5:=aa hn
  have HZ5:=aa hz5
  have q54 : w5.cell? ⟨g,4,none⟩ = some (.bool false):=hs5.cell 4
  have f54:=hs5.frozen 4
  have q56 : w5.cell? ⟨g,6,none⟩ = some (.string ⟨#[]⟩):=hs5.cell 6
  have f56:=hs5.frozen 6
  have hp5:=(hs5.put HF.out 4 (.bool true)).put HF.out 6 (.string n5)
  rw [MC.put_sasl,MC.put_kind] at hp5
  have HS5:=aa hp5
  have hgc : g ≠ w4.heap.size:=by have:=HF.out.gB; omega
  have hx5:=(Off.refl [g] w5).setCell (p:=⟨g,4,none⟩) (.inl (by simp)) (.bool true) |>.setCell (p:=⟨g,6,none⟩) (.inl (by simp)) (.string n5)
  have HC5:=aa (hx5.bk hb5 (by simpa using hgc.symm))
  have HR5:=aa (hr5.keep hx5.size (fun x hx hlt => hx5.block x hlt (by simpa using (HF.out.apart x hx).2.1)) (fun _ h _ => h))
  have HNB:=aa hnb4
  clear ho hb5 hr5 hn hs5 HS4 hp5 hz5 hx5 hnb4
  go_wp2_with fail
  (go_at_call 43)
  refine (ed w4.heap.size _ rest5 S _ _ _ _ HC5.out HR5.out HNB.out).mono ?_
  rintro e w6 ⟨ho,hcs⟩
  have hs6:=HS5.out.quiet HF.out ho (by simpa using hw4)
  rcases hcs with ⟨hn,rfl,hb6,hr6⟩ | ⟨s6,l6,rest6,A6,cap6,v6,hn,hz6,rfl,hb6,hr6,hk6⟩
  ·have HN6:=aa hn
   have HS6:=aa (hs6.new (.cells #[.int .i64 0,.bool false,.int .i64 0,.string ⟨#[]⟩,.slice none 0 0] 42))
   have hc6:=hb6.alloc (.cells #[.int .i64 0,.bool false,.int .i64 0,.string ⟨#[]⟩,.slice none 0 0] 42)
   obtain ⟨A7,cap7,rfl,-⟩:=_root_.id hr6
   have HE:=aa (bw w4.heap.size rest5.length A7 cap7 _ hc6)
   clear ho hb6 hr6 hn hs6 HS5 hc6 q54 f54 q56 f56
   go_wp2_with fail
   (go_at_call 45)
   refine HE.out.mono ?_
   rintro e w7 ⟨ho,hcs⟩
   have hs7:=HS6.out.quiet HF.out ho (by simp)
   rcases hcs with ⟨hn,rfl⟩ | ⟨hn,rfl⟩
   ·have hl : rest5 = []:=by simpa using hn
    have HS7:=aa hs7
    clear ho hs7 hn
    go_wp2_with fail
    go_end0
    refine ⟨HS7.out.off,.inr ⟨_,rest4,v4,_,by simp only [dk,HN1.out,HN2.out,HN3.out,HN4.out,HN5.out,HN6.out,Option.bind_some,Tl.kids,if_pos hl]; rfl,rfl,HS7.out.row,HS7.out.tr,HS7.out.ms,?_⟩⟩
    exact MsAt.flat rfl rfl rfl rfl rfl rfl ⟨HZ2.out,Nat.zero_le _,HZ5.out,Nat.zero_le _,Nat.zero_le _,Nat.zero_le _⟩
   ·have hl : rest5 ≠ []:=by rintro rfl; simp at hn
    exact ⟨rfl,hs7.off,.inl ⟨by simp [dk,HN1.out,HN2.out,HN3.out,HN4.out,HN5.out,HN6.out,Tl.kids,hl],rfl,⟨_,hs7.ms,rfl⟩⟩⟩
  ·have HN6:=aa hn
   have HZ6:=aa hz6
   have q67 : w6.cell? ⟨g,7,none⟩ = some (.bool false):=hs6.cell 7
   have f67:=hs6.frozen 7
   have q68 : w6.cell? ⟨g,8,none⟩ = some (.string ⟨#[]⟩):=hs6.cell 8
   have f68:=hs6.frozen 8
   have gl6:=hs6.ms.lt
   have hp6:=(hs6.put HF.out 7 (.bool true)).put HF.out 8 (.string s6)
   rw [MC.put_has,MC.put_value] at hp6
   have HS6:=aa (hp6.new (.cells #[.int .i64 0,.bool false,.int .i64 4,.string s6,.slice A6 l6.length cap6] 42)).drew
   have hgc : g ≠ w4.heap.size:=by have:=HF.out.gB; omega
   have hx6:=(Off.refl [g] w6).setCell (p:=⟨g,7,none⟩) (.inl (by simp)) (.bool true) |>.setCell (p:=⟨g,8,none⟩) (.inl (by simp)) (.string s6)
   obtain ⟨A7,cap7,rfl,-⟩:=_root_.id hr6
   have HE:=aa (bw w4.heap.size rest6.length A7 cap7 _ ((hx6.bk hb6 (by simpa using hgc.symm)).alloc (.cells #[.int .i64 0,.bool false,.int .i64 4,.string s6,.slice A6 l6.length cap6] 42) |>.drew))
   clear ho hb6 hr6 hn hs6 HS5 hz6 hx6 hp6 q54 f54 q56 f56 hk6
   go_wp2_with fail
   go_region
   all_goals
    go_wp2_with fail
    (go_at_call 45)
    refine HE.out.mono ?_
    rintro e w7 ⟨ho,hcs⟩
    have hs7:=HS6.out.quiet HF.out ho (by simp)
    rcases hcs with ⟨hn,rfl⟩ | ⟨hn,rfl⟩
    ·have hl : rest6 = []:=by simpa using hn
     have HS7:=aa hs7
     clear ho hs7 hn
     go_wp2_with fail
     go_end0
     refine ⟨HS7.out.off,.inr ⟨_,rest4,v4,_,by simp only [dk,HN1.out,HN2.out,HN3.out,HN4.out,HN5.out,HN6.out,Option.bind_some,Tl.kids,if_pos hl]; rfl,rfl,HS7.out.row,HS7.out.tr,HS7.out.ms,?_⟩⟩
     exact MsAt.flat rfl rfl rfl rfl rfl rfl ⟨HZ2.out,Nat.zero_le _,HZ5.out,HZ6.out,Nat.zero_le _,Nat.zero_le _⟩
    ·have hl : rest6 ≠ []:=by rintro rfl; simp at hn
     exact ⟨rfl,hs7.off,.inl ⟨by simp [dk,HN1.out,HN2.out,HN3.out,HN4.out,HN5.out,HN6.out,Tl.kids,hl],rfl,⟨_,hs7.ms,rfl⟩⟩⟩
 ·have HN3:=aa hn
  have HZ3:=aa hz3
  have hs3:=(HS2.out.rd HF.out ho hb3 hr3)
  have q5 : w3.cell? ⟨g,5,none⟩ = some (.string ⟨#[]⟩):=hs3.cell 5
  have f5:=hs3.frozen 5
  have gl:=hs3.ms.lt
  have hp3:=hs3.put HF.out 5 (.string s3)
  rw [MC.put_secret] at hp3
  have HS3:=aa (hp3.new (.cells #[.int .i64 2,.bool false,.int .i64 0,.string s3,.slice A3 l3.length cap3] 42))
  clear ho hb3 hr3 hn hs3 HS2 hp3 hz3 q3 f3 hk3
  go_wp2_with fail
  go_end0
  refine ⟨HS3.out.off,.inr ⟨_,rest3,v3,_,by simp only [dk,HN1.out,HN2.out,HN3.out,Option.bind_some]; rfl,rfl,HS3.out.row,HS3.out.tr,HS3.out.ms,?_⟩⟩
  exact MsAt.flat rfl rfl rfl rfl rfl rfl ⟨HZ2.out,HZ3.out,Nat.zero_le _,Nat.zero_le _,Nat.zero_le _,Nat.zero_le _⟩
end Go.Proofs.YtbiglfpikfjbpaaGreatDoor
