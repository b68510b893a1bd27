import Derived.Test.YtbiglfpikfjbpaaGreatDoorM7
import Derived.Deep.RegionLaw
namespace Go.Proofs.YtbiglfpikfjbpaaGreatDoor
open Go.RowKit
set_option maxRecDepth 100000
set_option linter.unusedVariables false
set_option linter.unusedSimpArgs false
set_option maxHeartbeats 40000000
def anyP : List Tl -> List ByteArray × List Tl
 | [] => ([],[])
 | k :: rest => match headP 2 1 false (k :: rest) with
  | some (t,_) => (t.body :: (anyP rest).1,(anyP rest).2)
  | none => ([],k :: rest)
theorem fV {ks : List Tl} (h : headP 2 1 false ks = none) : anyP ks = ([],ks):=by
 cases ks with
 | nil => rfl
 | cons k r => rw [anyP,h]
theorem anyP_some {ks rest : List Tl} {t : Tl} (h : headP 2 1 false ks = some (t,rest)) : anyP ks = (t.body :: (anyP rest).1,(anyP rest).2):=by
 obtain ⟨rfl,-⟩:=bi h
 rw [anyP,h]
def dj (tag : Int) (ks : List Tl) : ByteArray × List Tl:=match headP 2 tag false ks with
 | some (t,rest) => (t.body,rest)
 | none => (⟨#[]⟩,ks)
def bW (ks : List Tl) : Option (ByteArray × List ByteArray × ByteArray) :=
 let p:=dj 0 ks
 let q:=anyP p.2
 let r:=dj 2 q.2
 if r.2 = [] then some (p.1,q.1,r.1) else none
theorem ej {tag : Int} {ks : List Tl} (h : headP 2 tag false ks = none) : dj tag ks = (⟨#[]⟩,ks):=by rw [dj,h]
theorem dS {tag : Int} {ks rest : List Tl} {t : Tl} (h : headP 2 tag false ks = some (t,rest)) : dj tag ks = (t.body,rest):=by rw [dj,h]
def bE (k : Int) (a v f : ByteArray) (u : Value) (l : ByteArray) (x : Value) : Array Value:=#[.int .i64 k,.string a,.string v,.string f,u,.string l,x]
def PAt (w : World) (S : Nat -> Prop) (b g : Nat) (k : Int) (a : ByteArray) (ks : List Tl) (f : ByteArray) (az : List ByteArray) (rest : List Tl) (u v : Value) (wr : World) : Prop :=
 St w S b g 25 wr v rest (bE k a ⟨#[]⟩ f u ⟨#[]⟩ (.slice none 0 0)) /\ GRow 9 1 StrAt wr w.heap.size u az /\ (dj 0 ks).1 = f /\ anyP (dj 0 ks).2 = (az ++ (anyP rest).1,(anyP rest).2) /\ az.length + rest.length <= 8192
def PiecesPost (b g : Nat) (k : Int) (a : ByteArray) (r : Option (ByteArray × List ByteArray × ByteArray)) (w : World) (e : Ending) (w' : World) : Prop :=
 Off [b,g] w w' /\ ((r = none /\ bG e) \/ ∃ (f l : ByteArray) (az : List ByteArray) (q : Rw),r = some (f,az,l) /\ f.size <= maxLen /\ l.size <= maxLen /\ e = .returned (.tuple #[]) /\ Bk w' g 25 (bE k a ⟨#[]⟩ f (.slice q.A q.n q.c) l (.slice none 0 0)) /\ SRow w' (fun x => w.heap.size <= x) q az)
theorem lies_at {u : Value} {gg n cap H W : Nat} (h : u.ownBlock = some gg \/ gg = H) (hW : W = H) : (Value.slice (some ⟨gg,0,none⟩) n cap).ownBlock = u.ownBlock \/ (Value.slice (some ⟨gg,0,none⟩) n cap).ownBlock = some W:=by
 rcases h with h | h
 ·exact .inl h.symm
 ·exact .inr (by rw [hW,<- h]; rfl)
theorem PAt.next {w wr w2 w4 w5 : World} {S : Nat -> Prop} {b g : Nat} {k : Int} {a : ByteArray} {ks : List Tl} {f s : ByteArray} {az : List ByteArray} {rest rest2 : List Tl} {t : Tl} {u u5 v v2 : Value} {css : List (List Value)}
  (F : Fix S b g w.heap.size) (h : St w S b g 25 wr v rest (bE k a ⟨#[]⟩ f u ⟨#[]⟩ (.slice none 0 0))) (hcl : css.length = az.length) (hck : ∀ c ∈ css,c.length = 1) (hown : wr.ownsRow w.heap.size 9 1 u az.length css.flatten)
  (hall : ∀ (i : Nat) (d : ByteArray) (c : List Value),az[i]? = some d -> css[i]? = some c -> StrAt wr (fun b => w.heap.size <= b /\ u.ownBlock ≠ some b) d c)
  (h3 : (dj 0 ks).1 = f) (h4 : anyP (dj 0 ks).2 = (az ++ (anyP rest).1,(anyP rest).2)) (h5 : az.length + rest.length <= 8192)
  (hn : headP 2 1 false rest = some (t,rest2)) (ht : t.body = s) (hsm : s.size <= maxLen) (ho : Off [b] wr w2) (hb2 : Bk w2 b 76 #[v2]) (hr2 : TRow w2 S v2 rest2)
  (h6 : Below w2.heap.size w2 w4) (hown5 : w5.ownsRow w.heap.size 9 1 u5 (az.length + 1) (css.flatten ++ [.string s])) (hgr : w4.grownBy w5 u.ownBlock) (hat : u5.ownBlock = u.ownBlock \/ u5.ownBlock = some w4.heap.size) :
  PAt w S b g k a ks f (az ++ [s]) rest2 u5 v2 (w5.setCell ⟨g,4,none⟩ u5):=by
 have hs:=h.rd F ho hb2 hr2
 have s1:=h.off.size
 have s2:=ho.size
 have s3:=h6.size
 have s5:=hgr.size
 have hbel : Off [] w2 w4:=Off.of_below h6 []
 have hs4:=hs.quiet F hbel (by simp)
 have ho5 : ∀ x,x < w.heap.size -> w5.heap[x]? = w4.heap[x]?:=fun x hx => grown_keep hgr (B:=w.heap.size) (fun g hg => (hown.lt g hg).1) x hx (by omega)
 have hs5 : St w S b g 25 w5 v2 rest2 (bE k a ⟨#[]⟩ f u ⟨#[]⟩ (.slice none 0 0)) :=
  ⟨hs4.off.grown hgr (fun g hg => .inr (hown.lt g hg).1),hs4.row.keep (ho5 b F.bB),hs4.tr.keep s5 (fun x hx hlt => ho5 x (F.apart x hx).2.2) (fun _ h _ => h),hs4.ms.keep (ho5 g F.gB)⟩
 have hp : (w5.setCell ⟨g,4,none⟩ u5).heap.size = w5.heap.size:=by simp [World.setCell]
 refine ⟨hs5.put F 4 u5,GRow.keep al (GRow.push al (w:=wr) (w1:=w2) (w2:=w4) s1 hcl hck hown hall (fun x hx hlt => ho.block x hlt (by have:=F.bB; simp; omega)) s2 rfl ⟨rfl,hsm⟩ h6 hown5 hgr hat) (by omega) (fun x hx hlt => Below.heap_setCell w5 ⟨g,4,none⟩ u5 x (by have:=F.gB; show x ≠ g; omega)),h3,?_,?_⟩
 ·rw [h4,anyP_some hn,ht]; simp
 ·obtain ⟨rfl,-⟩:=bi hn
  simp at h5 |-; omega
theorem pieces_any (k : Int) (a : ByteArray) (b g : Nat) (v : Value) (ks : List Tl) (S : Nat -> Prop) (w : World) (F : Fix S b g w.heap.size) (hb : Bk w b 76 #[v]) (hr : TRow w S v ks) (hlen : ks.length <= 8192)
  (hg : Bk w g 25 (bE k a ⟨#[]⟩ ⟨#[]⟩ (.slice none 0 0) ⟨#[]⟩ (.slice none 0 0))) :
  Calls Tryz.prog 111 #[.pointer (some ⟨b,0,none⟩),.pointer (some ⟨g,0,none⟩)] w (PiecesPost b g k a (bW ks) w):=by
 obtain ⟨i0,hi,iz0,iz1,iz2⟩:=info_parts info_strE
 have HF:=aa F
 have HS:=aa (show St w S b g 25 w v ks _ from ⟨Off.refl _ _,hb,hr,hg⟩)
 clear hb hr hg F
 go_enter Tryz.func111,Tryz.ntmps111
 go_wp2_with fail
 (go_at_call 43)
 refine (ed b v ks S 2 0 false _ HS.out.row HS.out.tr HF.out.nb).mono ?_
 rintro e w1 ⟨ho,hcs⟩
 rcases hcs with ⟨hn,rfl,hb1,hr1⟩ | ⟨s1,l1,rest1,A1,cap1,v1,hn,hz1,rfl,hb1,hr1,hk1⟩
 ·have hs1:=HS.out.rd HF.out ho hb1 hr1
  have gl1:=hs1.ms.lt
  have HAT:=aa (show PAt w S b g k a ks ⟨#[]⟩ [] ks (.slice none 0 0) v (w1.alloc (.cells #[.int .i64 0,.bool false,.int .i64 0,.string ⟨#[]⟩,.slice none 0 0] 42)) from
   ⟨hs1.new _,GRow.nil _ _,by rw [ej hn],by rw [ej hn]; simp,by simpa using hlen⟩)
  have HZF:=aa (show (⟨#[]⟩ : ByteArray).size <= maxLen from Nat.zero_le _)
  clear ho hb1 hr1 hn hs1 HS hlen
  go_wp2_with fail
  go_loopw [7] (fun _ wr => ∃ (az : List ByteArray) (rest : List Tl) (u v : Value),PAt w S b g k a ks ⟨#[]⟩ az rest u v wr) (fun _ wr => eQ (wr.cell? ⟨b,0,none⟩))
  case atStart => exact ⟨_,_,_,_,HAT.out⟩
  case round =>
   clear HAT
   obtain ⟨az,rest,u,vr,hst,hgr,h3,h4,h5⟩:=hrel
   have HST:=aa hst
   have H3:=aa h3
   have H4:=aa h4
   have H5:=aa h5
   have hsw:=hst.off.size
   clear hst h3 h4 h5
   go_wp2_with fail
   (go_at_call 43)
   refine (ed b vr rest S 2 1 false _ HST.out.row HST.out.tr HF.out.nb).mono ?_
   rintro e w2 ⟨ho,hcs⟩
   rcases hcs with ⟨hn,rfl,hb2,hr2⟩ | ⟨s2,l2,rest2,A2,cap2,v2,hn,hz2',rfl,hb2,hr2,hk2⟩
   ·have hs2:=HST.out.rd HF.out ho hb2 hr2
    obtain ⟨q,rfl,hq⟩:=GRow.row al (hgr.off al ho (by have:=HF.out.bB; simpa using this))
    have HQ:=aa (hq.keep al (w':=w2.alloc (.cells #[.int .i64 0,.bool false,.int .i64 0,.string ⟨#[]⟩,.slice none 0 0] 42)) (by simp) (fun x _ hlt => Below.heap_alloc w2 _ x hlt) (fun _ h _ => h))
    have H4':=aa (show anyP (dj 0 ks).2 = (az,rest) by rw [H4.out,fV hn]; simp)
    have HS2:=aa (hs2.new (.cells #[.int .i64 0,.bool false,.int .i64 0,.string ⟨#[]⟩,.slice none 0 0] 42))
    clear hb2 hr2 hs2 hgr hq ho hn HST
    go_wp2_with fail
    (go_at_call 43)
    refine (ed b vr rest S 2 2 false _ HS2.out.row HS2.out.tr HF.out.nb).mono ?_
    rintro e w3 ⟨ho,hcs⟩
    have hq3:=HQ.out.keep al (w':=w3) ho.size (fun x hx hlt => ho.block x hlt (by have:=HF.out.bB; simp; omega)) (fun _ h _ => h)
    rcases hcs with ⟨hn,rfl,hb3,hr3⟩ | ⟨s3,l3,rest3,A3,cap3,v3,hn,hz3,rfl,hb3,hr3,hk3⟩
    ·have hs3:=(HS2.out.rd HF.out ho hb3 hr3).new (.cells #[.int .i64 0,.bool false,.int .i64 0,.string ⟨#[]⟩,.slice none 0 0] 42)
     have HS3:=aa hs3
     have HQ3:=aa (hq3.keep al (w':=w3.alloc (.cells #[.int .i64 0,.bool false,.int .i64 0,.string ⟨#[]⟩,.slice none 0 0] 42)) (by simp) (fun x _ hlt => Below.heap_alloc w3 _ x hlt) (fun _ h _ => h))
     have HP:=aa (show bW ks = if rest = [] then some (⟨#[]⟩,az,⟨#[]⟩) else none by simp only [bW,H3.out,H4'.out,ej hn])
     obtain ⟨A4,cap4,hv4,-⟩:=_root_.id hr3
     subst hv4
     have HE:=aa (bw b rest.length A4 cap4 _ HS3.out.row)
     clear hb3 hr3 hs3 hq3 ho hn HS2
     go_wp2_with fail
     (go_at_call 45)
     refine HE.out.mono ?_
     rintro e w4 ⟨ho,hcs⟩
     have hs4:=HS3.out.quiet HF.out ho (by simp)
     have hq4:=HQ3.out.keep al (w':=w4) ho.size (fun x hx hlt => ho.block x hlt (by simp)) (fun _ h _ => h)
     rcases hcs.symm with ⟨hn,rfl⟩ | ⟨hn,rfl⟩
     ·have hl : rest ≠ []:=by intro h; rw [h] at hn; simp at hn
      exact ⟨rfl,hs4.off,.inl ⟨by rw [HP.out,if_neg hl],rfl⟩⟩
     ·have hl : rest = []:=by simpa using hn
      have HS4:=aa hs4
      have HQ4:=aa hq4
      have HL:=aa hl
      clear hs4 hq4 ho hn hl HS3
      go_wp2_with fail
      go_end0
      exact ⟨HS4.out.off,.inr ⟨⟨#[]⟩,_,az,q,by rw [HP.out,if_pos HL.out],HZF.out,Nat.zero_le _,rfl,HS4.out.ms,HQ4.out⟩⟩
    ·have hs3:=HS2.out.rd HF.out ho hb3 hr3
     have q5 : w3.cell? ⟨g,5,none⟩ = some (.string ⟨#[]⟩):=hs3.cell 5
     have f5:=hs3.frozen 5
     have gl3:=hs3.ms.lt
     have hs3':=(hs3.put HF.out 5 (.string s3)).new (.cells #[.int .i64 2,.bool false,.int .i64 2,.string s3,.slice A3 l3.length cap3] 42)
     have HS3:=aa hs3'
     have hgne : ∀ x,w.heap.size <= x -> x ≠ g:=fun x hx => by have:=HF.out.gB; omega
     have hq3b:=hq3.keep al (w':=w3.setCell ⟨g,5,none⟩ (.string s3)) (by simp [World.setCell]) (fun x hx hlt => Below.heap_setCell w3 ⟨g,5,none⟩ _ x (hgne x hx)) (fun _ h _ => h)
     have HQ3:=aa (hq3b.keep al (w':=(w3.setCell ⟨g,5,none⟩ (.string s3)).alloc (.cells #[.int .i64 2,.bool false,.int .i64 2,.string s3,.slice A3 l3.length cap3] 42)) (by simp) (fun x _ hlt => Below.heap_alloc _ _ x hlt) (fun _ h _ => h))
     have HP:=aa (show bW ks = if rest3 = [] then some (⟨#[]⟩,az,s3) else none by simp only [bW,H3.out,H4'.out,dS hn,Tl.body])
     obtain ⟨A4,cap4,hv4,-⟩:=_root_.id hr3
     subst hv4
     have HE:=aa (bw b rest3.length A4 cap4 _ HS3.out.row)
     have HZ3:=aa hz3
     clear hb3 hr3 hs3 hs3' hq3 hq3b ho hn HS2 hgne hk3 hz3
     go_wp2_with fail
     (go_at_call 45)
     refine HE.out.mono ?_
     rintro e w4 ⟨ho,hcs⟩
     have hs4:=HS3.out.quiet HF.out ho (by simp)
     have hq4:=HQ3.out.keep al (w':=w4) ho.size (fun x hx hlt => ho.block x hlt (by simp)) (fun _ h _ => h)
     rcases hcs.symm with ⟨hn,rfl⟩ | ⟨hn,rfl⟩
     ·have hl : rest3 ≠ []:=by intro h; rw [h] at hn; simp at hn
      exact ⟨rfl,hs4.off,.inl ⟨by rw [HP.out,if_neg hl],rfl⟩⟩
     ·have hl : rest3 = []:=by simpa using hn
      have HS4:=aa hs4
      have HQ4:=aa hq4
      have HL:=aa hl
      clear hs4 hq4 ho hn hl HS3 q5 f5
      go_wp2_with fail
      go_end0
      exact ⟨HS4.out.off,.inr ⟨⟨#[]⟩,s3,az,q,by rw [HP.out,if_pos HL.out],HZF.out,HZ3.out,rfl,HS4.out.ms,HQ4.out⟩⟩
   ·have hs2:=HST.out.rd HF.out ho hb2 hr2
    have gl2:=hs2.ms.lt
    have q4 : w2.cell? ⟨g,4,none⟩ = some u:=hs2.cell 4
    have f4:=hs2.frozen 4
    obtain ⟨css,hcl,hck,hown,hall⟩:=hgr
    have hown2:=ho.own hown (fun x hx => by have:=(hown.lt x hx).1; have:=HF.out.bB; simp; omega)
    have hune : u.ownBlock ≠ some g:=fun e => by have:=(hown.lt _ e).1; have:=HF.out.gB; omega
    have HX:=aa (fun (w5 : World) (u5 : Value) (W : World) => PAt.next (w4:=W) (w5:=w5) (u5:=u5) HF.out HST.out hcl hck hown hall H3.out H4.out H5.out hn rfl hz2' ho hb2 hr2)
    have haz : az.length < 8192:=by obtain ⟨h,-⟩:=bi hn; have:=H5.out; rw [h] at this; simp at this; omega
    have hl2 : rest2.length < rest.length:=by obtain ⟨h,-⟩:=bi hn; rw [h]; simp
    have hsw2:=ho.size
    have HOWN:=aa hown2
    have hB2 : Below w2.heap.size w2 ((w2.alloc (.cells #[.int .i64 2,.bool false,.int .i64 1,.string s2,.slice A2 l2.length cap2] 42)).alloc (.cells #[.string s2] 9)):=((Below.refl _ w2).alloc (Nat.le_refl _) _).alloc (by simp) _
    have HB2:=aa hB2
    have HBK:=aa HST.out.row
    have HTR:=aa HST.out.tr
    clear hb2 hr2 hs2 ho hn HST hcl hck hall hown hk2 hz2' hown2 hB2 H3 H4 H5
    have hnews : ∀ (j : Nat) (y : Value),[Value.string s2][j]? = some y -> ((w2.alloc (.cells #[.int .i64 2,.bool false,.int .i64 1,.string s2,.slice A2 l2.length cap2] 42)).alloc (.cells #[.string s2] 9)).cell? ((⟨w2.heap.size + 1,0,none⟩ : Addr).add j) = some y:=by
     have h:=World.news_of_block (cs:=#[.string s2]) (t:=9) (fr:=(0,0)) (heap_alloc_new (w2.alloc (.cells #[.int .i64 2,.bool false,.int .i64 1,.string s2,.slice A2 l2.length cap2] 42)) (.cells #[.string s2] 9))
     simpa using h
    have HNEWS:=aa hnews
    have hst0:=aK q4 f4 gl2 (.cells #[.int .i64 2,.bool false,.int .i64 1,.string s2,.slice A2 l2.length cap2] 42)
    have hst:=aK hst0.1 hst0.2 (by simp; omega) (.cells #[.string s2] 9)
    have HSTG:=aa hst
    have HGL:=aa (show g < ((w2.alloc (.cells #[.int .i64 2,.bool false,.int .i64 1,.string s2,.slice A2 l2.length cap2] 42)).alloc (.cells #[.string s2] 9)).heap.size from Nat.lt_of_lt_of_le gl2 HB2.out.size)
    clear hnews hst hst0
    go_wp2_with fail
    go_region_law ((refine step_append_lies _ ?g1 (.tmp 32) (.tmp 35) 22 ?g2 w.heap.size 9 i0 (.string ByteArray.empty) 1 16 Tryz.underlying22 hi iz0 iz1 iz2 ?q1 ?q2 u az.length css.flatten ?q3 ?q4 ⟨w2.heap.size + 1,0,none⟩ 1 1 [.string s2] ?q5 ?q6 ?q7 ?q8 ?q9 ?q10 ?q11 ?q12 (w2.heap.size + 2) ?q13 ?_; (case g1 => (rfl)); (case g2 => (rfl)); (case q1 => (rfl)); (case q2 => (omega)); (case q3 => (rfl)); (case q4 => (exact ((HOWN.out.alloc _).alloc _))); (case q5 => (rfl)); (case q6 => (rfl)); (case q7 => (exact HNEWS.out)); (case q8 => (exact (fun x hx => by simp at hx; subst hx; rfl))); (case q9 => (omega)); (case q10 => (unfold maxLen; omega)); (case q11 => (omega)); (case q12 => (simp; omega)); (case q13 => (simp)); intro gg cap5 w5 hown5 hgrow5 hat5 hlt5; have hkg:=(fun h1 h2 => bC h1 hgrow5 hune h2) HSTG.out HGL.out; have hkg1:=hkg.1; have hkg2:=hkg.2))
    all_goals
     go_wp2_with fail
     have HN:=aa (HX.out w5 (.slice (some ⟨gg,0,none⟩) (az.length + 1) cap5) _ (below_drewN HB2.out 1) hown5 hgrow5 (lies_at hat5 (by simp)))
     clear hown5 hgrow5 hat5 hkg hkg1 hkg2
     go_roundw
     case rel => exact ⟨_,_,_,_,HN.out⟩
     case measure =>
      obtain ⟨-,hbk,⟨A9,cap9,rfl,-⟩,-⟩:=HN.out.1
      have e1:=hbk.cell 0
      obtain ⟨A8,cap8,rfl,-⟩:=HTR.out
      have e2:=HBK.out.cell 0
      rw [e1,e2]
      exact hl2
 ·have hs1:=HS.out.rd HF.out ho hb1 hr1
  have gl1:=hs1.ms.lt
  have q3 : w1.cell? ⟨g,3,none⟩ = some (.string ⟨#[]⟩):=hs1.cell 3
  have f3:=hs1.frozen 3
  have hp1 : St w S b g 25 (w1.setCell ⟨g,3,none⟩ (.string s1)) v1 rest1 (bE k a ⟨#[]⟩ s1 (.slice none 0 0) ⟨#[]⟩ (.slice none 0 0)):=hs1.put HF.out 3 (.string s1)
  have HAT:=aa (show PAt w S b g k a ks s1 [] rest1 (.slice none 0 0) v1 ((w1.setCell ⟨g,3,none⟩ (.string s1)).alloc (.cells #[.int .i64 2,.bool false,.int .i64 0,.string s1,.slice A1 l1.length cap1] 42)) from
   ⟨hp1.new _,GRow.nil _ _,by rw [dS hn]; rfl,by rw [dS hn]; simp,by obtain ⟨h,-⟩:=bi hn; rw [h] at hlen; simp at hlen |-; omega⟩)
  have HZF:=aa hz1
  clear ho hb1 hr1 hn hs1 HS hlen hp1 hz1 hk1
  go_wp2_with fail
  go_loopw [7] (fun _ wr => ∃ (az : List ByteArray) (rest : List Tl) (u v : Value),PAt w S b g k a ks s1 az rest u v wr) (fun _ wr => eQ (wr.cell? ⟨b,0,none⟩))
  case atStart => exact ⟨_,_,_,_,HAT.out⟩
  case round =>
   clear HAT
   obtain ⟨az,rest,u,vr,hst,hgr,h3,h4,h5⟩:=hrel
   have HST:=aa hst
   have H3:=aa h3
   have H4:=aa h4
   have H5:=aa h5
   have hsw:=hst.off.size
   clear hst h3 h4 h5
   go_wp2_with fail
   (go_at_call 43)
   refine (ed b vr rest S 2 1 false _ HST.out.row HST.out.tr HF.out.nb).mono ?_
   rintro e w2 ⟨ho,hcs⟩
   rcases hcs with ⟨hn,rfl,hb2,hr2⟩ | ⟨s2,l2,rest2,A2,cap2,v2,hn,hz2',rfl,hb2,hr2,hk2⟩
   ·have hs2:=HST.out.rd HF.out ho hb2 hr2
    obtain ⟨q,rfl,hq⟩:=GRow.row al (hgr.off al ho (by have:=HF.out.bB; simpa using this))
    have HQ:=aa (hq.keep al (w':=w2.alloc (.cells #[.int .i64 0,.bool false,.int .i64 0,.string ⟨#[]⟩,.slice none 0 0] 42)) (by simp) (fun x _ hlt => Below.heap_alloc w2 _ x hlt) (fun _ h _ => h))
    have H4':=aa (show anyP (dj 0 ks).2 = (az,rest) by rw [H4.out,fV hn]; simp)
    have HS2:=aa (hs2.new (.cells #[.int .i64 0,.bool false,.int .i64 0,.string ⟨#[]⟩,.slice none 0 0] 42))
    clear hb2 hr2 hs2 hgr hq ho hn HST
    go_wp2_with fail
    (go_at_call 43)
    refine (ed b vr rest S 2 2 false _ HS2.out.row HS2.out.tr HF.out.nb).mono ?_
    rintro e w3 ⟨ho,hcs⟩
    have hq3:=HQ.out.keep al (w':=w3) ho.size (fun x hx hlt => ho.block x hlt (by have:=HF.out.bB; simp; omega)) (fun _ h _ => h)
    rcases hcs with ⟨hn,rfl,hb3,hr3⟩ | ⟨s3,l3,rest3,A3,cap3,v3,hn,hz3,rfl,hb3,hr3,hk3⟩
    ·have hs3:=(HS2.out.rd HF.out ho hb3 hr3).new (.cells #[.int .i64 0,.bool false,.int .i64 0,.string ⟨#[]⟩,.slice none 0 0] 42)
     have HS3:=aa hs3
     have HQ3:=aa (hq3.keep al (w':=w3.alloc (.cells #[.int .i64 0,.bool false,.int .i64 0,.string ⟨#[]⟩,.slice none 0 0] 42)) (by simp) (fun x _ hlt => Below.heap_alloc w3 _ x hlt) (fun _ h _ => h))
     have HP:=aa (show bW ks = if rest = [] then some (s1,az,⟨#[]⟩) else none by simp only [bW,H3.out,H4'.out,ej hn])
     obtain ⟨A4,cap4,hv4,-⟩:=_root_.id hr3
     subst hv4
     have HE:=aa (bw b rest.length A4 cap4 _ HS3.out.row)
     clear hb3 hr3 hs3 hq3 ho hn HS2
     go_wp2_with fail
     (go_at_call 45)
     refine HE.out.mono ?_
     rintro e w4 ⟨ho,hcs⟩
     have hs4:=HS3.out.quiet HF.out ho (by simp)
     have hq4:=HQ3.out.keep al (w':=w4) ho.size (fun x hx hlt => ho.block x hlt (by simp)) (fun _ h _ => h)
     rcases hcs.symm with ⟨hn,rfl⟩ | ⟨hn,rfl⟩
     ·have hl : rest ≠ []:=by intro h; rw [h] at hn; simp at hn
      exact ⟨rfl,hs4.off,.inl ⟨by rw [HP.out,if_neg hl],rfl⟩⟩
     ·have hl : rest = []:=by simpa using hn
      have HS4:=aa hs4
      have HQ4:=aa hq4
      have HL:=aa hl
      clear hs4 hq4 ho hn hl HS3
      go_wp2_with fail
      go_end0
      exact ⟨HS4.out.off,.inr ⟨s1,_,az,q,by rw [HP.out,if_pos HL.out],HZF.out,Nat.zero_le _,rfl,HS4.out.ms,HQ4.out⟩⟩
    ·have hs3:=HS2.out.rd HF.out ho hb3 hr3
     have q5 : w3.cell? ⟨g,5,none⟩ = some (.string ⟨#[]⟩):=hs3.cell 5
     have f5:=hs3.frozen 5
     have gl3:=hs3.ms.lt
     have hs3':=(hs3.put HF.out 5 (.string s3)).new (.cells #[.int .i64 2,.bool false,.int .i64 2,.string s3,.slice A3 l3.length cap3] 42)
     have HS3:=aa hs3'
     have hgne : ∀ x,w.heap.size <= x -> x ≠ g:=fun x hx => by have:=HF.out.gB; omega
     have hq3b:=hq3.keep al (w':=w3.setCell ⟨g,5,none⟩ (.string s3)) (by simp [World.setCell]) (fun x hx hlt => Below.heap_setCell w3 ⟨g,5,none⟩ _ x (hgne x hx)) (fun _ h _ => h)
     have HQ3:=aa (hq3b.keep al (w':=(w3.setCell ⟨g,5,none⟩ (.string s3)).alloc (.cells #[.int .i64 2,.bool false,.int .i64 2,.string s3,.slice A3 l3.length cap3] 42)) (by simp) (fun x _ hlt => Below.heap_alloc _ _ x hlt) (fun _ h _ => h))
     have HP:=aa (show bW ks = if rest3 = [] then some (s1,az,s3) else none by simp only [bW,H3.out,H4'.out,dS hn,Tl.body])
     obtain ⟨A4,cap4,hv4,-⟩:=_root_.id hr3
     subst hv4
     have HE:=aa (bw b rest3.length A4 cap4 _ HS3.out.row)
     have HZ3:=aa hz3
     clear hb3 hr3 hs3 hs3' hq3 hq3b ho hn HS2 hgne hk3 hz3
     go_wp2_with fail
     (go_at_call 45)
     refine HE.out.mono ?_
     rintro e w4 ⟨ho,hcs⟩
     have hs4:=HS3.out.quiet HF.out ho (by simp)
     have hq4:=HQ3.out.keep al (w':=w4) ho.size (fun x hx hlt => ho.block x hlt (by simp)) (fun _ h _ => h)
     rcases hcs.symm with ⟨hn,rfl⟩ | ⟨hn,rfl⟩
     ·have hl : rest3 ≠ []:=by intro h; rw [h] at hn; simp at hn
      exact ⟨rfl,hs4.off,.inl ⟨by rw [HP.out,if_neg hl],rfl⟩⟩
     ·have hl : rest3 = []:=by simpa using hn
      have HS4:=aa hs4
      have HQ4:=aa hq4
      have HL:=aa hl
      clear hs4 hq4 ho hn hl HS3 q5 f5
      go_wp2_with fail
      go_end0
      exact ⟨HS4.out.off,.inr ⟨s1,s3,az,q,by rw [HP.out,if_pos HL.out],HZF.out,HZ3.out,rfl,HS4.out.ms,HQ4.out⟩⟩
   ·have hs2:=HST.out.rd HF.out ho hb2 hr2
    have gl2:=hs2.ms.lt
    have q4 : w2.cell? ⟨g,4,none⟩ = some u:=hs2.cell 4
    have f4:=hs2.frozen 4
    obtain ⟨css,hcl,hck,hown,hall⟩:=hgr
    have hown2:=ho.own hown (fun x hx => by have:=(hown.lt x hx).1; have:=HF.out.bB; simp; omega)
    have hune : u.ownBlock ≠ some g:=fun e => by have:=(hown.lt _ e).1; have:=HF.out.gB; omega
    have HX:=aa (fun (w5 : World) (u5 : Value) (W : World) => PAt.next (w4:=W) (w5:=w5) (u5:=u5) HF.out HST.out hcl hck hown hall H3.out H4.out H5.out hn rfl hz2' ho hb2 hr2)
    have haz : az.length < 8192:=by obtain ⟨h,-⟩:=bi hn; have:=H5.out; rw [h] at this; simp at this; omega
    have hl2 : rest2.length < rest.length:=by obtain ⟨h,-⟩:=bi hn; rw [h]; simp
    have hsw2:=ho.size
    have HOWN:=aa hown2
    have hB2 : Below w2.heap.size w2 ((w2.alloc (.cells #[.int .i64 2,.bool false,.int .i64 1,.string s2,.slice A2 l2.length cap2] 42)).alloc (.cells #[.string s2] 9)):=((Below.refl _ w2).alloc (Nat.le_refl _) _).alloc (by simp) _
    have HB2:=aa hB2
    have HBK:=aa HST.out.row
    have HTR:=aa HST.out.tr
    clear hb2 hr2 hs2 ho hn HST hcl hck hall hown hk2 hz2' hown2 hB2 H3 H4 H5
    have hnews : ∀ (j : Nat) (y : Value),[Value.string s2][j]? = some y -> ((w2.alloc (.cells #[.int .i64 2,.bool false,.int .i64 1,.string s2,.slice A2 l2.length cap2] 42)).alloc (.cells #[.string s2] 9)).cell? ((⟨w2.heap.size + 1,0,none⟩ : Addr).add j) = some y:=by
     have h:=World.news_of_block (cs:=#[.string s2]) (t:=9) (fr:=(0,0)) (heap_alloc_new (w2.alloc (.cells #[.int .i64 2,.bool false,.int .i64 1,.string s2,.slice A2 l2.length cap2] 42)) (.cells #[.string s2] 9))
     simpa using h
    have HNEWS:=aa hnews
    have hst0:=aK q4 f4 gl2 (.cells #[.int .i64 2,.bool false,.int .i64 1,.string s2,.slice A2 l2.length cap2] 42)
    have hst:=aK hst0.1 hst0.2 (by simp; omega) (.cells #[.string s2] 9)
    have HSTG:=aa hst
    have HGL:=aa (show g < ((w2.alloc (.cells #[.int .i64 2,.bool false,.int .i64 1,.string s2,.slice A2 l2.length cap2] 42)).alloc (.cells #[.string s2] 9)).heap.size from Nat.lt_of_lt_of_le gl2 HB2.out.size)
    clear hnews hst hst0
    go_wp2_with fail
    go_region_law ((refine step_append_lies _ ?g1 (.tmp 32) (.tmp 35) 22 ?g2 w.heap.size 9 i0 (.string ByteArray.empty) 1 16 Tryz.underlying22 hi iz0 iz1 iz2 ?q1 ?q2 u az.length css.flatten ?q3 ?q4 ⟨w2.heap.size + 1,0,none⟩ 1 1 [.string s2] ?q5 ?q6 ?q7 ?q8 ?q9 ?q10 ?q11 ?q12 (w2.heap.size + 2) ?q13 ?_; (case g1 => (rfl)); (case g2 => (rfl)); (case q1 => (rfl)); (case q2 => (omega)); (case q3 => (rfl)); (case q4 => (exact ((HOWN.out.alloc _).alloc _))); (case q5 => (rfl)); (case q6 => (rfl)); (case q7 => (exact HNEWS.out)); (case q8 => (exact (fun x hx => by simp at hx; subst hx; rfl))); (case q9 => (omega)); (case q10 => (unfold maxLen; omega)); (case q11 => (omega)); (case q12 => (simp; omega)); (case q13 => (simp)); intro gg cap5 w5 hown5 hgrow5 hat5 hlt5; have hkg:=(fun h1 h2 => bC h1 hgrow5 hune h2) HSTG.out HGL.out; have hkg1:=hkg.1; have hkg2:=hkg.2))
    all_goals
     go_wp2_with fail
     have HN:=aa (HX.out w5 (.slice (some ⟨gg,0,none⟩) (az.length + 1) cap5) _ (below_drewN HB2.out 1) hown5 hgrow5 (lies_at hat5 (by simp)))
     clear hown5 hgrow5 hat5 hkg hkg1 hkg2
     go_roundw
     case rel => exact ⟨_,_,_,_,HN.out⟩
     case measure =>
      obtain ⟨-,hbk,⟨A9,cap9,rfl,-⟩,-⟩:=HN.out.1
      have e1:=hbk.cell 0
      obtain ⟨A8,cap8,rfl,-⟩:=HTR.out
      have e2:=HBK.out.cell 0
      rw [e1,e2]
      exact hl2
mutual
def filP : Tl -> Option Fl
 | .mk c k t s ks =>
  if c ≠ 2 \/ k = (t == 7) then none
  else if t <= 2 then (cC ks).map fun l => .mk t ⟨#[]⟩ ⟨#[]⟩ ⟨#[]⟩ [] ⟨#[]⟩ l
  else if t = 7 then some (.mk t s ⟨#[]⟩ ⟨#[]⟩ [] ⟨#[]⟩ [])
  else if t = 4 then (bc ks).bind fun p => (aZ 16 p.2).bind fun q => (bW q.1).bind fun x => if q.2 = [] then some (.mk t p.1 ⟨#[]⟩ x.1 x.2.1 x.2.2 []) else none
  else if t <= 8 then (bc ks).bind fun p => (bc p.2).bind fun q => if q.2 = [] then some (.mk t p.1 q.1 ⟨#[]⟩ [] ⟨#[]⟩ []) else none
  else if t = 9 then some (.mk 7 ⟨#[63]⟩ ⟨#[]⟩ ⟨#[]⟩ [] ⟨#[]⟩ []) else none
def cC : List Tl -> Option (List Fl)
 | [] => some []
 | k :: ks => (filP k).bind fun f => (cC ks).map (f :: ·)
end
def cG (r : Option Fl) (w : World) (e : Ending) (w' : World) : Prop :=
 Below w.heap.size w w' /\ ((r = none /\ bG e) \/ ∃ (f : Fl) (c : List Value),r = some f /\ e = .returned (.agg c.toArray) /\ FlAt w' (fun x => w.heap.size <= x) f c)
def ce (w : World) (c : Int) (k : Bool) (t : Int) (s : ByteArray) (A : Option Addr) (n cap : Nat) : World :=
 (((w.alloc (.cells #[.int .i64 c,.bool k,.int .i64 t,.string s,.slice A n cap] 42)).alloc (.cells #[.int .i64 0,.string ⟨#[]⟩,.string ⟨#[]⟩,.string ⟨#[]⟩,.slice none 0 0,.string ⟨#[]⟩,.slice none 0 0] 25)).alloc
  (.cells #[.int .i64 t,.string ⟨#[]⟩,.string ⟨#[]⟩,.string ⟨#[]⟩,.slice none 0 0,.string ⟨#[]⟩,.slice none 0 0] 25)).alloc (.cells #[.slice A n cap] 76)
theorem bn (w : World) (c : Int) (k : Bool) (t : Int) (s : ByteArray) (A : Option Addr) (n cap : Nat) : Below w.heap.size w (ce w c k t s A n cap) /\ (ce w c k t s A n cap).heap.size = w.heap.size + 4 :=
 ⟨((((Below.refl _ w).alloc (Nat.le_refl _) _).alloc (by simp) _).alloc (by simp; omega) _).alloc (by simp; omega) _,by simp [ce]⟩
theorem filter_no (c : Int) (k : Bool) (t : Int) (s : ByteArray) (A : Option Addr) (n cap : Nat) (w : World) (h : c ≠ 2 \/ k = (t == 7)) :
  Calls Tryz.prog 103 #[.agg #[.int .i64 c,.bool k,.int .i64 t,.string s,.slice A n cap]] w fun e w' => Below w.heap.size w w' /\ bG e:=by
 have hB:=(bn w c k t s A n cap).1
 have HB:=aa hB
 clear hB
 have hcs : (c == 2) = false \/ ((c == 2) = true /\ (k == (t == 7)) = true):=by
  rcases h with h | h
  ·exact .inl (by simpa using h)
  ·by_cases hc : c = 2
   ·exact .inr ⟨by simpa using hc,by simpa using h⟩
   ·exact .inl (by simpa using hc)
 clear h
 rcases hcs with h0 | ⟨h0,h1⟩
 ·have h0' : (c != 2) = true:=by rw [bne,h0]; rfl
  go_enter Tryz.func103,Tryz.ntmps103
  go_wp2_with fail
  exact ⟨rfl,HB.out,rfl⟩
 ·have h0' : (c != 2) = false:=by rw [bne,h0]; rfl
  go_enter Tryz.func103,Tryz.ntmps103
  go_wp2_with fail
  exact ⟨rfl,HB.out,rfl⟩
theorem fl_flat {w : World} {S : Nat -> Prop} {t : Int} {a v f l : ByteArray} (ht : (Lit.int .i64 t).wf = true) (ha : a.size <= maxLen) (hv : v.size <= maxLen) (hf : f.size <= maxLen) (hl : l.size <= maxLen) :
  FlAt w S (.mk t a v f [] l []) [.int .i64 t,.string a,.string v,.string f,.slice none 0 0,.string l,.slice none 0 0]:=by
 unfold FlAt
 exact ⟨Rw.none,Rw.none,rfl,⟨ht,ha,hv,hf,hl⟩,RowOf.nil _ _,⟨rfl,Nat.le_refl _,Nat.zero_le _⟩,by unfold FlsAt; trivial⟩
abbrev fzero : Obj:=.cells #[.int .i64 0,.string ⟨#[]⟩,.string ⟨#[]⟩,.string ⟨#[]⟩,.slice none 0 0,.string ⟨#[]⟩,.slice none 0 0] 25
theorem filter_has (s : ByteArray) (A : Option Addr) (n cap : Nat) (w : World) (hs : s.size <= maxLen) :
  Calls Tryz.prog 103 #[.agg #[.int .i64 2,.bool false,.int .i64 7,.string s,.slice A n cap]] w (cG (some (.mk 7 s ⟨#[]⟩ ⟨#[]⟩ [] ⟨#[]⟩ [])) w):=by
 have HB:=aa (bn w 2 false 7 s A n cap).1
 have HS:=aa hs
 clear hs
 go_enter Tryz.func103,Tryz.ntmps103
 go_wp2_with fail
 refine bodyPost_ret (v:=.agg #[.int .i64 7,.string s,.string ⟨#[]⟩,.string ⟨#[]⟩,.slice none 0 0,.string ⟨#[]⟩,.slice none 0 0]) (by simp [results,Tryz.results103,go_sem]) rfl ⟨?_,.inr ⟨_,[.int .i64 7,.string s,.string ⟨#[]⟩,.string ⟨#[]⟩,.slice none 0 0,.string ⟨#[]⟩,.slice none 0 0],rfl,rfl,fl_flat rfl HS.out (Nat.zero_le _) (Nat.zero_le _) (Nat.zero_le _)⟩⟩
 exact ((((Below.refl _ _).alloc (Nat.le_refl _) _).alloc (by simp) _).alloc (by simp; omega) _).alloc (by simp; omega) _
theorem filter_same (A : Option Addr) (s : ByteArray) (n cap : Nat) (w : World) :
  Calls Tryz.prog 103 #[.agg #[.int .i64 2,.bool true,.int .i64 9,.string s,.slice A n cap]] w (cG (some (.mk 7 ⟨#[63]⟩ ⟨#[]⟩ ⟨#[]⟩ [] ⟨#[]⟩ [])) w):=by
 have HB:=aa (bn w 2 true 9 s A n cap).1
 go_enter Tryz.func103,Tryz.ntmps103
 go_wp2_with fail
 refine bodyPost_ret (v:=.agg #[.int .i64 7,.string ⟨#[63]⟩,.string ⟨#[]⟩,.string ⟨#[]⟩,.slice none 0 0,.string ⟨#[]⟩,.slice none 0 0]) (by simp [results,Tryz.results103,go_sem]) rfl ⟨?_,.inr ⟨_,[.int .i64 7,.string ⟨#[63]⟩,.string ⟨#[]⟩,.string ⟨#[]⟩,.slice none 0 0,.string ⟨#[]⟩,.slice none 0 0],rfl,rfl,fl_flat rfl (by decide) (Nat.zero_le _) (Nat.zero_le _) (Nat.zero_le _)⟩⟩
 exact ((((Below.refl _ _).alloc (Nat.le_refl _) _).alloc (by simp) _).alloc (by simp; omega) _).alloc (by simp; omega) _
theorem filter_far (t : Int) (A : Option Addr) (s : ByteArray) (n cap : Nat) (w : World) (h : 9 < t) :
  Calls Tryz.prog 103 #[.agg #[.int .i64 2,.bool true,.int .i64 t,.string s,.slice A n cap]] w fun e w' => Below w.heap.size w w' /\ bG e:=by
 have HB:=aa (bn w 2 true t s A n cap).1
 have t1 : (t == 7) = false:=by simp; omega
 have t2 : decide (t <= 2) = false:=by simp; omega
 have t3 : (t == 4) = false:=by simp; omega
 have t4 : decide (t <= 8) = false:=by simp; omega
 have t5 : (t == 9) = false:=by simp; omega
 clear h
 go_enter Tryz.func103,Tryz.ntmps103
 go_wp2_with fail
 exact ⟨rfl,HB.out,rfl⟩
theorem fopen_st {w : World} {S : Nat -> Prop} {c t : Int} {k : Bool} {s : ByteArray} {ks : List Tl} {A : Option Addr} {cap : Nat} (hl : ks.length <= cap /\ cap <= maxLen) (hk : KsAt w S ks A 0) :
  Fix (fun x => S x /\ x < w.heap.size) (w.heap.size + 3) (w.heap.size + 2) (ce w c k t s A ks.length cap).heap.size ∧
  St (ce w c k t s A ks.length cap) (fun x => S x /\ x < w.heap.size) (w.heap.size + 3) (w.heap.size + 2) 25 (ce w c k t s A ks.length cap) (.slice A ks.length cap) ks (bE t ⟨#[]⟩ ⟨#[]⟩ ⟨#[]⟩ (.slice none 0 0) ⟨#[]⟩ (.slice none 0 0)) ∧
  Bk (ce w c k t s A ks.length cap) (w.heap.size + 1) 25 (bE 0 ⟨#[]⟩ ⟨#[]⟩ ⟨#[]⟩ (.slice none 0 0) ⟨#[]⟩ (.slice none 0 0)):=by
 obtain ⟨hb,hsz⟩:=bn w c k t s A ks.length cap
 have hr : TRow w (fun x => S x /\ x < w.heap.size) (.slice A ks.length cap) ks:=(TRow.of_kids hl hk).keep (Nat.le_refl _) (fun _ _ _ => rfl) (fun _ h hl => ⟨h,hl⟩)
 refine ⟨⟨by omega,by omega,by omega,fun x hx => ⟨by have:=hx.2; omega,by have:=hx.2; omega,by have:=hx.2; omega⟩⟩,⟨Off.refl _ _,?_,hr.below hb,?_⟩,?_⟩
 ·have h:=Bk.new (((w.alloc (.cells #[.int .i64 c,.bool k,.int .i64 t,.string s,.slice A ks.length cap] 42)).alloc fzero).alloc (.cells #[.int .i64 t,.string ⟨#[]⟩,.string ⟨#[]⟩,.string ⟨#[]⟩,.slice none 0 0,.string ⟨#[]⟩,.slice none 0 0] 25)) 76 #[.slice A ks.length cap]
  simpa [ce] using h
 ·have h:=(Bk.new ((w.alloc (.cells #[.int .i64 c,.bool k,.int .i64 t,.string s,.slice A ks.length cap] 42)).alloc fzero) 25 #[.int .i64 t,.string ⟨#[]⟩,.string ⟨#[]⟩,.string ⟨#[]⟩,.slice none 0 0,.string ⟨#[]⟩,.slice none 0 0]).alloc (.cells #[.slice A ks.length cap] 76)
  simpa [ce,bE] using h
 ·have h:=((Bk.new (w.alloc (.cells #[.int .i64 c,.bool k,.int .i64 t,.string s,.slice A ks.length cap] 42)) 25 #[.int .i64 0,.string ⟨#[]⟩,.string ⟨#[]⟩,.string ⟨#[]⟩,.slice none 0 0,.string ⟨#[]⟩,.slice none 0 0]).alloc (.cells #[.int .i64 t,.string ⟨#[]⟩,.string ⟨#[]⟩,.string ⟨#[]⟩,.slice none 0 0,.string ⟨#[]⟩,.slice none 0 0] 25)).alloc (.cells #[.slice A ks.length cap] 76)
  simpa [ce,bE] using h
theorem bM {w w' : World} {c t : Int} {k : Bool} {s : ByteArray} {A : Option Addr} {n cap : Nat} (h : Off [w.heap.size + 3,w.heap.size + 2] (ce w c k t s A n cap) w') : Below w.heap.size w w':=by
 obtain ⟨hb,hsz⟩:=bn w c k t s A n cap
 exact hb.trans (h.below hb.size (by simp))
theorem eW {w w' : World} (h : Below w.heap.size w w') (v0 v1 v2 v3 v4 v5 v6 : Value) :
  Below w.heap.size w (((((((w'.setCell ⟨w.heap.size + 1,0,none⟩ v0).setCell ⟨w.heap.size + 1,1,none⟩ v1).setCell ⟨w.heap.size + 1,2,none⟩ v2).setCell ⟨w.heap.size + 1,3,none⟩ v3).setCell ⟨w.heap.size + 1,4,none⟩ v4).setCell ⟨w.heap.size + 1,5,none⟩ v5).setCell ⟨w.heap.size + 1,6,none⟩ v6) :=
 ((((((h.setCell (by simp) _).setCell (by simp) _).setCell (by simp) _).setCell (by simp) _).setCell (by simp) _).setCell (by simp) _).setCell (by simp) _
theorem fres_off (w' : World) (b : Nat) (v0 v1 v2 v3 v4 v5 v6 : Value) :
  Off [b] w' (((((((w'.setCell ⟨b,0,none⟩ v0).setCell ⟨b,1,none⟩ v1).setCell ⟨b,2,none⟩ v2).setCell ⟨b,3,none⟩ v3).setCell ⟨b,4,none⟩ v4).setCell ⟨b,5,none⟩ v5).setCell ⟨b,6,none⟩ v6) :=
 (((((((Off.refl [b] w').setCell (.inl (by simp)) _).setCell (.inl (by simp)) _).setCell (.inl (by simp)) _).setCell (.inl (by simp)) _).setCell (.inl (by simp)) _).setCell (.inl (by simp)) _).setCell (.inl (by simp)) _
theorem Bk.seven {w : World} {g : Nat} {T : TypeId} {t : Int} {a v f l : ByteArray} {u x : Value} (h : Bk w g T (bE t a v f u l x)) :
  w.cell? ⟨g,0,none⟩ = some (.int .i64 t) /\ w.cell? ⟨g,1,none⟩ = some (.string a) /\ w.cell? ⟨g,2,none⟩ = some (.string v) /\ w.cell? ⟨g,3,none⟩ = some (.string f) /\ w.cell? ⟨g,4,none⟩ = some u /\ w.cell? ⟨g,5,none⟩ = some (.string l) /\ w.cell? ⟨g,6,none⟩ = some x ∧
  w.frozen? ⟨g,0,none⟩ = false /\ w.frozen? ⟨g,1,none⟩ = false /\ w.frozen? ⟨g,2,none⟩ = false /\ w.frozen? ⟨g,3,none⟩ = false /\ w.frozen? ⟨g,4,none⟩ = false /\ w.frozen? ⟨g,5,none⟩ = false /\ w.frozen? ⟨g,6,none⟩ = false :=
 ⟨h.cell 0,h.cell 1,h.cell 2,h.cell 3,h.cell 4,h.cell 5,h.cell 6,h.frozen 0,h.frozen 1,h.frozen 2,h.frozen 3,h.frozen 4,h.frozen 5,h.frozen 6⟩
def pairP (t : Int) (ks : List Tl) : Option Fl:=(bc ks).bind fun p => (bc p.2).bind fun q => if q.2 = [] then some (.mk t p.1 q.1 ⟨#[]⟩ [] ⟨#[]⟩ []) else none
theorem filter_pair (t : Int) (ks : List Tl) (S : Nat -> Prop) (A : Option Addr) (s : ByteArray) (cap : Nat) (w : World) (h2 : 2 < t) (h8 : t <= 8) (h7 : t ≠ 7) (h4 : t ≠ 4) (hwf : (Lit.int .i64 t).wf = true) (hl : ks.length <= cap /\ cap <= maxLen) (hk : KsAt w S ks A 0) :
  Calls Tryz.prog 103 #[.agg #[.int .i64 2,.bool true,.int .i64 t,.string s,.slice A ks.length cap]] w (cG (pairP t ks) w):=by
 obtain ⟨hB,hsz⟩:=bn w 2 true t s A ks.length cap
 have HB:=aa hB
 obtain ⟨hF,hSt,hr1⟩:=fopen_st (c:=2) (k:=true) (t:=t) (s:=s) hl hk
 have HF:=aa hF
 have HS:=aa hSt
 have HR1:=aa hr1
 have HSZ:=aa hsz
 have HWF:=aa hwf
 have t1 : (t == 7) = false:=by simp; omega
 have t2 : decide (t <= 2) = false:=by simp; omega
 have t3 : (t == 4) = false:=by simp; omega
 have t4 : decide (t <= 8) = true:=by simp; omega
 clear h2 h8 h7 h4 hwf hl hk hF hSt hB hr1 hsz
 go_enter Tryz.func103,Tryz.ntmps103
 go_wp2_with fail
 (go_at_call 72)
 refine (aW (w.heap.size + 3) _ ks _ _ HS.out.row HS.out.tr HF.out.nb).mono ?_
 rintro e w1 ⟨ho,hcs⟩
 rcases hcs with ⟨hn,rfl⟩ | ⟨n1,rest1,v1,hn,⟨hz1,rfl⟩,hb1,hr1⟩
 ·exact ⟨rfl,bM (HS.out.off.trans (ho.mono (by simp))),.inl ⟨by simp [pairP,hn],rfl⟩⟩
 have HN1:=aa hn
 have HZ1:=aa hz1
 have hs1:=HS.out.rd HF.out ho hb1 hr1
 have HS1:=aa hs1
 clear ho hb1 hr1 hn hs1 HS hz1
 go_wp2_with fail
 (go_at_call 72)
 refine (aW (w.heap.size + 3) _ rest1 _ _ HS1.out.row HS1.out.tr HF.out.nb).mono ?_
 rintro e w2 ⟨ho,hcs⟩
 rcases hcs with ⟨hn,rfl⟩ | ⟨n2,rest2,v2,hn,⟨hz2,rfl⟩,hb2,hr2⟩
 ·exact ⟨rfl,bM (HS1.out.off.trans (ho.mono (by simp))),.inl ⟨by simp [pairP,HN1.out,hn],rfl⟩⟩
 have HN2:=aa hn
 have HZ2:=aa hz2
 have hs2:=HS1.out.rd HF.out ho hb2 hr2
 have q1 : w2.cell? ⟨w.heap.size + 2,1,none⟩ = some (.string ⟨#[]⟩):=hs2.cell 1
 have q2 : w2.cell? ⟨w.heap.size + 2,2,none⟩ = some (.string ⟨#[]⟩):=hs2.cell 2
 have f1:=hs2.frozen 1
 have f2:=hs2.frozen 2
 have hp2 : St (ce w 2 true t s A ks.length cap) _ _ _ 25 _ v2 rest2 (bE t n1 n2 ⟨#[]⟩ (.slice none 0 0) ⟨#[]⟩ (.slice none 0 0)):=(hs2.put HF.out 1 (.string n1)).put HF.out 2 (.string n2)
 have HS2:=aa hp2
 obtain ⟨A2,cap2,hv2,-⟩:=_root_.id hp2.tr
 subst hv2
 have HE:=aa (bw (w.heap.size + 3) rest2.length A2 cap2 _ HS2.out.row)
 clear ho hb2 hr2 hn hs2 HS1 hz2 hp2
 go_wp2_with fail
 (go_at_call 45)
 refine HE.out.mono ?_
 rintro e w3 ⟨ho,hcs⟩
 have hs3:=HS2.out.quiet HF.out ho (by simp)
 rcases hcs.symm with ⟨hn,rfl⟩ | ⟨hn,rfl⟩
 ·have hl : rest2 ≠ []:=by intro h; rw [h] at hn; simp at hn
  exact ⟨rfl,bM hs3.off,.inl ⟨by simp [pairP,HN1.out,HN2.out,hl],rfl⟩⟩
 have hl : rest2 = []:=by simpa using hn
 have HL:=aa hl
 have HS3:=aa hs3
 have hb0:=hs3.off.bk HR1.out (by simp)
 have hlt:=hb0.lt
 have hlt2:=hs3.ms.lt
 obtain ⟨x0,x1,x2,x3,x4,x5,x6,-⟩:=hs3.ms.seven
 obtain ⟨y0,y1,y2,y3,y4,y5,y6,g0,g1,g2,g3,g4,g5,g6⟩:=hb0.seven
 clear hl hs3 ho hn HS2 q1 q2 f1 f2 hb0
 go_wp2_with fail
 refine bodyPost_ret (v:=.agg #[.int .i64 t,.string n1,.string n2,.string ⟨#[]⟩,.slice none 0 0,.string ⟨#[]⟩,.slice none 0 0]) (by simp [results,Tryz.results103,go_sem,y0,y1,y2,y3,y4,y5,y6,hlt]) rfl
  ⟨eW (bM HS3.out.off) _ _ _ _ _ _ _,.inr ⟨_,[.int .i64 t,.string n1,.string n2,.string ⟨#[]⟩,.slice none 0 0,.string ⟨#[]⟩,.slice none 0 0],by simp [pairP,HN1.out,HN2.out,HL.out],rfl,fl_flat HWF.out HZ1.out HZ2.out (Nat.zero_le _) (Nat.zero_le _)⟩⟩
def partP (ks : List Tl) : Option Fl:=(bc ks).bind fun p => (aZ 16 p.2).bind fun q => (bW q.1).bind fun x => if q.2 = [] then some (.mk 4 p.1 ⟨#[]⟩ x.1 x.2.1 x.2.2 []) else none
theorem filter_part (ks : List Tl) (S : Nat -> Prop) (A : Option Addr) (s : ByteArray) (cap : Nat) (w : World) (hfew : Few ks) (hl : ks.length <= cap /\ cap <= maxLen) (hk : KsAt w S ks A 0) :
  Calls Tryz.prog 103 #[.agg #[.int .i64 2,.bool true,.int .i64 4,.string s,.slice A ks.length cap]] w (cG (partP ks) w):=by
 obtain ⟨hB,hsz⟩:=bn w 2 true 4 s A ks.length cap
 have HB:=aa hB
 obtain ⟨hF,hSt,hr1⟩:=fopen_st (c:=2) (k:=true) (t:=4) (s:=s) hl hk
 have HF:=aa hF
 have HS:=aa hSt
 have HR1:=aa hr1
 have HSZ:=aa hsz
 have HFEW:=aa hfew
 clear hl hk hF hSt hB hr1 hsz hfew
 go_enter Tryz.func103,Tryz.ntmps103
 go_wp2_with fail
 (go_at_call 72)
 refine (aW (w.heap.size + 3) _ ks _ _ HS.out.row HS.out.tr HF.out.nb).mono ?_
 rintro e w1 ⟨ho,hcs⟩
 rcases hcs with ⟨hn,rfl⟩ | ⟨n1,rest1,v1,hn,⟨hz1,rfl⟩,hb1,hr1⟩
 ·exact ⟨rfl,bM (HS.out.off.trans (ho.mono (by simp))),.inl ⟨by simp [partP,hn],rfl⟩⟩
 have HN1:=aa hn
 have HZ1:=aa hz1
 have hs1:=HS.out.rd HF.out ho hb1 hr1
 have q1 : w1.cell? ⟨w.heap.size + 2,1,none⟩ = some (.string ⟨#[]⟩):=hs1.cell 1
 have f1:=hs1.frozen 1
 have hp1 : St (ce w 2 true 4 s A ks.length cap) _ _ _ 25 _ v1 rest1 (bE 4 n1 ⟨#[]⟩ ⟨#[]⟩ (.slice none 0 0) ⟨#[]⟩ (.slice none 0 0)):=hs1.put HF.out 1 (.string n1)
 have HS1:=aa hp1
 clear ho hb1 hr1 hn hs1 HS hz1 hp1
 go_wp2_with fail
 (go_at_call 71)
 refine (bA 16 (w.heap.size + 3) _ rest1 _ _ HS1.out.row HS1.out.tr HF.out.nb).mono ?_
 rintro e w2 ⟨ho,hcs⟩
 rcases hcs with ⟨hn,rfl⟩ | ⟨l2,rest2,v2,hn,⟨c2,vl2,rfl,hc2,hbc2,hrc2⟩,hb2,hr2⟩
 ·exact ⟨rfl,bM (HS1.out.off.trans (ho.mono (by simp))),.inl ⟨by simp [partP,HN1.out,hn],rfl⟩⟩
 have HN2:=aa hn
 have hle:=HS1.out.off.size
 have HA:=aa (show Ax (fun x => S x /\ x < w.heap.size) (ce w 2 true 4 s A ks.length cap).heap.size c2 w2 vl2 l2 from ⟨hbc2,hrc2,by omega⟩)
 have hs2:=HS1.out.rd HF.out ho hb2 hr2
 have HS2:=aa hs2
 have HC:=aa hc2
 clear ho hb2 hr2 hn hs2 HS1 q1 f1 hbc2 hrc2 hc2 hle
 go_wp2_with fail
 (go_at_call 111)
 have hFx : Fix (fun x => S x /\ x < w.heap.size) c2 (w.heap.size + 2) w2.heap.size:=by
  have h1:=HA.out.le
  have h2:=HSZ.out
  have h3:=HA.out.row.lt
  have h4:=HS2.out.ms.lt
  exact ⟨by omega,h3,h4,fun x hx => ⟨by have:=hx.2; omega,by have:=hx.2; omega,by have:=hx.2; omega⟩⟩
 refine (pieces_any 4 n1 c2 (w.heap.size + 2) _ l2 _ w2 hFx HA.out.row HA.out.tr ((HFEW.out.text HN1.out).list HN2.out).1.1 HS2.out.ms).mono ?_
 rintro e w3 ⟨ho,hcs⟩
 have hoff : Off [w.heap.size + 3,w.heap.size + 2] (ce w 2 true 4 s A ks.length cap) w3:=HS2.out.off.then ho (by have:=HA.out.le; simp; omega)
 rcases hcs with ⟨hn,rfl⟩ | ⟨f3,l3,az3,q3,hn,hzf,hzl,rfl,hg3,hq3⟩
 ·exact ⟨rfl,bM hoff,.inl ⟨by simp [partP,HN1.out,HN2.out,hn],rfl⟩⟩
 have HN3:=aa hn
 have HZF:=aa hzf
 have HZL:=aa hzl
 have HQ3:=aa hq3
 have hne : (w.heap.size + 3) ∉ [c2,w.heap.size + 2]:=by have:=HA.out.le; have:=HSZ.out; simp; omega
 have hs3 : St (ce w 2 true 4 s A ks.length cap) (fun x => S x /\ x < w.heap.size) (w.heap.size + 3) (w.heap.size + 2) 25 w3 v2 rest2 (bE 4 n1 ⟨#[]⟩ f3 (.slice q3.A q3.n q3.c) l3 (.slice none 0 0)) :=
  ⟨hoff,ho.bk HS2.out.row hne,HS2.out.tr.keep ho.size (fun x hx hlt => ho.block x hlt (by have:=HA.out.le; have:=HSZ.out; have:=hx.2; simp; omega)) (fun _ h _ => h),hg3⟩
 have HS3:=aa hs3
 have HSW:=aa HS2.out.off.size
 obtain ⟨A3,cap3,hv3,-⟩:=_root_.id hs3.tr
 subst hv3
 have HE:=aa (bw (w.heap.size + 3) rest2.length A3 cap3 _ HS3.out.row)
 clear ho hn hs3 HS2 hzf hzl hq3 hg3 hoff hne hFx
 go_wp2_with fail
 (go_at_call 45)
 refine HE.out.mono ?_
 rintro e w4 ⟨ho,hcs⟩
 have hs4:=HS3.out.quiet HF.out ho (by simp)
 have hq4:=HQ3.out.keep al (w':=w4) ho.size (fun x hx hlt => ho.block x hlt (by simp)) (fun _ h _ => h)
 rcases hcs.symm with ⟨hn,rfl⟩ | ⟨hn,rfl⟩
 ·have hl : rest2 ≠ []:=by intro h; rw [h] at hn; simp at hn
  exact ⟨rfl,bM hs4.off,.inl ⟨by simp [partP,HN1.out,HN2.out,HN3.out,hl],rfl⟩⟩
 have hl : rest2 = []:=by simpa using hn
 have HL:=aa hl
 have HS4:=aa hs4
 have HQ4:=aa hq4
 have hb0:=hs4.off.bk HR1.out (by simp)
 have hlt:=hb0.lt
 have hlt2:=hs4.ms.lt
 obtain ⟨x0,x1,x2,x3,x4,x5,x6,-⟩:=hs4.ms.seven
 obtain ⟨y0,y1,y2,y3,y4,y5,y6,g0,g1,g2,g3,g4,g5,g6⟩:=hb0.seven
 clear hl hs4 ho hn HS3 hb0 hq4
 go_wp2_with fail
 refine bodyPost_ret (v:=.agg #[.int .i64 4,.string n1,.string ⟨#[]⟩,.string f3,.slice q3.A q3.n q3.c,.string l3,.slice none 0 0]) (by simp [results,Tryz.results103,go_sem,y0,y1,y2,y3,y4,y5,y6,hlt]) rfl
  ⟨eW (bM HS4.out.off) _ _ _ _ _ _ _,.inr ⟨_,[.int .i64 4,.string n1,.string ⟨#[]⟩,.string f3,.slice q3.A q3.n q3.c,.string l3,.slice none 0 0],by simp [partP,HN1.out,HN2.out,HN3.out,HL.out]; rfl,rfl,?_⟩⟩
 unfold FlAt
 refine ⟨q3,Rw.none,rfl,⟨rfl,HZ1.out,Nat.zero_le _,HZF.out,HZL.out⟩,?_,⟨rfl,Nat.le_refl _,Nat.zero_le _⟩,by unfold FlsAt; trivial⟩
 have hoo:=fres_off w4 (w.heap.size + 1) (.int .i64 4) (.string n1) (.string ⟨#[]⟩) (.string f3) (.slice q3.A q3.n q3.c) (.string l3) (.slice none 0 0)
 exact HQ4.out.keep al hoo.size (fun x hx hlt => hoo.block x hlt (by have:=HSW.out; have:=HSZ.out; simp; omega)) (fun x hx _ => by have:=HSW.out; have:=HSZ.out; omega)
end Go.Proofs.YtbiglfpikfjbpaaGreatDoor
