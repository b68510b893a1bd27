import Derived.Test.YtbiglfpikfjbpaaGreatDoorM13
namespace Go.Proofs.YtbiglfpikfjbpaaGreatDoor
open Go.RowKit
set_option maxRecDepth 100000
set_option linter.unusedVariables false
set_option linter.unusedSimpArgs false
set_option maxHeartbeats 40000000
theorem St.grown {w0 w w' : World} {S : Nat -> Prop} {b g : Nat} {T : TypeId} {v : Value} {ks : List Tl} {cs : Array Value} {row : Option Nat} (F : Fix S b g w0.heap.size) (h : St w0 S b g T w v ks cs) (hg : w.grownBy w' row) (hr : ∀ x,row = some x -> w0.heap.size <= x) : St w0 S b g T w' v ks cs :=
 ⟨h.off.grown hg (fun x hx => .inr (hr x hx)),h.row.keep (hg.block _ h.row.lt (fun e => by have:=hr _ e.symm; have:=F.bB; omega)),h.tr.keep hg.size (fun x hx hlt => hg.block x hlt (fun e => by have:=hr _ e.symm; have:=(F.apart x hx).2.2; omega)) (fun _ h _ => h),
  h.ms.keep (hg.block _ h.ms.lt (fun e => by have:=hr _ e.symm; have:=F.gB; omega))⟩
theorem Ax.grown {B b g c : Nat} {S : Nat -> Prop} {w w' : World} {v : Value} {ks : List Tl} {row : Option Nat} (F : Fix S b g B) (h : Ax S B c w v ks) (hg : w.grownBy w' row) (hr : ∀ x,row = some x -> B <= x /\ x ≠ c) : Ax S B c w' v ks :=
 ⟨h.row.keep (hg.block _ h.row.lt (fun e => (hr _ e.symm).2 rfl)),h.tr.keep hg.size (fun x hx hlt => hg.block x hlt (fun e => by have:=(hr _ e.symm).1; have:=(F.apart x hx).2.2; omega)) (fun _ h _ => h),h.le⟩
theorem dF {w : World} {S : Nat -> Prop} {d : At} {c : List Value} (h : bQ w S d c) : ∃ (s : ByteArray) (qA : Option Addr) (qn qc : Nat),c = [.string s,.slice qA qn qc]:=by
 obtain ⟨q,h1,-⟩:=h
 exact ⟨_,_,_,_,h1⟩
def bz : List Tl -> Option (List At)
 | [] => some []
 | k :: rest => match headP 0 16 true (k :: rest) with
  | some (t,_) => (dH t.kids).bind fun a => (bz rest).map (a :: ·)
  | none => none
theorem attrsP_none {k : Tl} {rest : List Tl} (h : aZ 16 (k :: rest) = none) : bz (k :: rest) = none:=by
 unfold bz
 unfold aZ at h
 cases hh : headP 0 16 true (k :: rest) with
 | none => rfl
 | some p => rw [hh] at h; simp at h
theorem attrsP_bad {k : Tl} {rest l r : List Tl} (h : aZ 16 (k :: rest) = some (l,r)) (ha : dH l = none) : bz (k :: rest) = none:=by
 obtain ⟨t,he,rfl,hh⟩:=ct h
 rw [bz,hh]
 simp [ha]
theorem attrsP_some {k : Tl} {rest l r : List Tl} {a : At} (h : aZ 16 (k :: rest) = some (l,r)) (ha : dH l = some a) : r = rest /\ bz (k :: rest) = (bz rest).map (a :: ·):=by
 obtain ⟨t,he,rfl,hh⟩:=ct h
 obtain ⟨-,he2⟩:=List.cons.inj he
 refine ⟨he2.symm,?_⟩
 rw [bz,hh]
 simp [ha]
def entP (id op : Int) (ks : List Tl) : Option (Ms × List Tl) :=
 (bc ks).bind fun a => (aZ 16 a.2).bind fun l => (bz l.1).bind fun az => some ({ Ms.base id op with name:=a.1,list:=az },l.2)
def EAt (w W0 wr : World) (S : Nat -> Prop) (b g c : Nat) (id op : Int) (nm : ByteArray) (v : Value) (ks l0 : List Tl) (az : List At) (rest : List Tl) : Prop :=
 ∃ (r : Rw) (vl : Value),St w S b g 30 wr v ks ({ MC.base id op with name:=nm,list:=r } : MC).cells /\ Ax S w.heap.size c wr vl rest /\ GRow 50 2 bQ wr W0.heap.size (.slice r.A r.n r.c) az /\ bz l0 = (bz rest).map (az ++ ·) /\ az.length + rest.length <= 8192 /\ W0.heap.size <= wr.heap.size /\ Few rest
theorem EAt.next {w W0 wr w2 w3 w5 : World} {S : Nat -> Prop} {b g c c3 : Nat} {id op : Int} {nm : ByteArray} {v v2 : Value} {ks l0 : List Tl} {az : List At} {k : Tl} {rest l r2 : List Tl} {r : Rw} {vl : Value} {a : At} {cl : List Value} {css : List (List Value)} {gg cap5 : Nat}
  (F : Fix S b g w.heap.size) (hW0 : w.heap.size <= W0.heap.size) (hcW : c < W0.heap.size) (hst : St w S b g 30 wr v ks ({ MC.base id op with name:=nm,list:=r } : MC).cells) (hax : Ax S w.heap.size c wr vl (k :: rest))
  (hcl : css.length = az.length) (hck : ∀ c ∈ css,c.length = 2) (hown : wr.ownsRow W0.heap.size 50 2 (.slice r.A r.n r.c) az.length css.flatten)
  (hall : ∀ (i : Nat) (d : At) (c : List Value),az[i]? = some d -> css[i]? = some c -> bQ wr (fun b => W0.heap.size <= b /\ (Value.slice r.A r.n r.c).ownBlock ≠ some b) d c)
  (hpar : bz l0 = (bz (k :: rest)).map (az ++ ·)) (hlen : az.length + (k :: rest).length <= 8192) (hsz : W0.heap.size <= wr.heap.size) (hfw : Few (k :: rest))
  (hl : aZ 16 (k :: rest) = some (l,r2)) (ha : dH l = some a)
  (ho2 : Off [c] wr w2) (hb2 : Bk w2 c 76 #[v2]) (hr2 : TRow w2 S v2 r2) (hc3 : wr.heap.size <= c3) (hc3' : c3 < w2.heap.size) (ho3 : Off [c3] w2 w3) (hat : bQ w3 (fun x => w2.heap.size <= x) a cl)
  (hown5 : w5.ownsRow W0.heap.size 50 2 (.slice (some ⟨gg,0,none⟩) (az.length + 1) cap5) (az.length + 1) (css.flatten ++ cl)) (hgr : (w3.alloc (.cells cl.toArray 50)).grownBy w5 (Value.slice r.A r.n r.c).ownBlock) (hgg : (Value.slice r.A r.n r.c).ownBlock = some gg \/ gg = w3.heap.size + 1) :
  EAt w W0 (w5.setCell ⟨g,24,none⟩ (.slice (some ⟨gg,0,none⟩) (az.length + 1) cap5)) S b g c id op nm v ks l0 (az ++ [a]) rest:=by
 have s2:=ho2.size
 have s3:=ho3.size
 have s5:=hgr.size
 have hsa : (w3.alloc (.cells cl.toArray 50)).heap.size = w3.heap.size + 1:=by simp
 have hba : Below w3.heap.size w3 (w3.alloc (.cells cl.toArray 50)):=(Below.refl _ w3).alloc (Nat.le_refl _) _
 have hrow : ∀ x,(Value.slice r.A r.n r.c).ownBlock = some x -> W0.heap.size <= x:=fun x hx => (hown.lt x hx).1
 obtain ⟨rfl,hp2⟩:=attrsP_some hl ha
 have q1:=hst.quiet F ho2 (by simpa using hax.le)
 have q2:=((q1.quiet F ho3 (by intro z hz; simp at hz; omega)).new (.cells cl.toArray 50)).grown F hgr (fun x hx => Nat.le_trans hW0 (hrow x hx))
 have q3:=q2.put F 24 (.slice (some ⟨gg,0,none⟩) (az.length + 1) cap5)
 have a1 : Ax S w.heap.size c w2 v2 r2:=⟨hb2,hr2,hax.le⟩
 have a2:=((a1.quiet F ho3 (by intro z hz; simp at hz; omega)).new (.cells cl.toArray 50)).grown F hgr (fun x hx => by have:=hrow x hx; omega)
 have a3:=a2.put F 24 (.slice (some ⟨gg,0,none⟩) (az.length + 1) cap5)
 have hp:=GRow.push aH (w:=wr) (w1:=w3) (w2:=w3.alloc (.cells cl.toArray 50)) (v':=.slice (some ⟨gg,0,none⟩) (az.length + 1) cap5) hsz hcl hck hown hall (fun x hx hlt => (ho3.block x (by omega) (by simp; omega)).trans (ho2.block x hlt (by simp; omega))) (by omega)
  (by obtain ⟨q,h1,-⟩:=hat; rw [h1]; rfl) (aH (Nat.le_refl _) (fun _ _ _ => rfl) (fun x hx _ => by show _ <= x; omega) _ _ hat) hba hown5 hgr (by rw [hsa]; exact hgg.elim (fun h => .inl h.symm) (fun h => .inr (by rw [h]; rfl)))
 have hgB:=F.gB
 have hpk:=hp.off aH ((Off.refl [g] w5).setCell (p:=⟨g,24,none⟩) (.inl (by simp)) (.slice (some ⟨gg,0,none⟩) (az.length + 1) cap5)) (by intro z hz; simp at hz; omega)
 rw [MC.put_list _ ⟨some ⟨gg,0,none⟩,az.length + 1,cap5⟩] at q3
 refine ⟨⟨some ⟨gg,0,none⟩,az.length + 1,cap5⟩,v2,q3,a3,hpk,?_,?_,by simp [World.setCell]; omega,hfw.tail⟩
 ·rw [hpar,hp2,Option.map_map]
  congr 1
  funext l
  simp
 ·simp at hlen |-; omega
theorem info_at : (Tryz.prog.info? 50).map (fun i => (i.zero,i.size,i.bytes)) = some (some (.agg #[.string ⟨#[]⟩,.slice none 0 0]),2,40):=by kernel_rfl
theorem parts_entry (id : Int) (b g : Nat) (v : Value) (ks : List Tl) (S : Nat -> Prop) (w : World) (F : Fix S b g w.heap.size) (hb : Bk w b 76 #[v]) (hr : TRow w S v ks) (hg : Bk w g 30 (MC.base id 4).cells) (hfew : Few ks) :
  Calls Tryz.prog 70 #[.pointer (some ⟨b,0,none⟩),.pointer (some ⟨g,0,none⟩)] w (RdM b g S (entP id 4 ks) w):=by
 have HF:=aa F
 have c1 : w.cell? ⟨g,1,none⟩ = some (.int .i64 4):=hg.cell 1
 have HS:=aa (show St w S b g 30 w v ks (MC.base id 4).cells from ⟨Off.refl _ _,hb,hr,hg⟩)
 clear hb hr hg F
 have HFEW:=aa hfew
 clear hfew
 go_enter Tryz.func70,Tryz.ntmps70
 go_wp2_with fail
 (go_at_call 72)
 refine (aW b v ks S _ HS.out.row HS.out.tr HF.out.nb).mono ?_
 rintro e w1 ⟨ho,hcs⟩
 rcases hcs with ⟨hn,rfl⟩ | ⟨n1,rest1,v1,hn,⟨hz1,rfl⟩,hb1,hr1⟩
 ·exact ⟨rfl,HS.out.off.trans (ho.mono (by simp)),.inl ⟨by simp [entP,hn],rfl,⟨_,ho.bk HS.out.ms (by simpa using HF.out.ne.symm),rfl⟩⟩⟩
 have HN1:=aa hn
 have HZ1:=aa hz1
 have hs1:=HS.out.rd HF.out ho hb1 hr1
 have HS1:=aa hs1
 clear ho hb1 hr1 hn hs1 HS hz1
 have q1_3 : w1.cell? ⟨g,3,none⟩ = some (.string ⟨#[]⟩):=HS1.out.cell 3
 have f1_3:=HS1.out.frozen 3
 have hp1:=(HS1.out.put HF.out 3 (.string n1))
 rw [MC.put_name] at hp1
 have HP1:=aa (hp1)
 clear hp1 HS1
 go_wp2_with fail
 (go_at_call 71)
 refine (bA 16 b v1 rest1 S _ HP1.out.row HP1.out.tr HF.out.nb).mono ?_
 rintro e w2 ⟨ho,hcs⟩
 rcases hcs with ⟨hn,rfl⟩ | ⟨n2,rest2,v2,hn,⟨c2,vl2,rfl,hc2,hbc2,hrc2⟩,hb2,hr2⟩
 ·exact ⟨rfl,HP1.out.off.trans (ho.mono (by simp)),.inl ⟨by simp [entP,HN1.out,hn],rfl,⟨_,ho.bk HP1.out.ms (by simpa using HF.out.ne.symm),rfl⟩⟩⟩
 have HN2:=aa hn
 have HA2:=aa (show Ax S w.heap.size c2 w2 vl2 n2 from ⟨hbc2,hrc2,Nat.le_trans HP1.out.off.size hc2⟩)
 have hs2:=HP1.out.rd HF.out ho hb2 hr2
 have HS2:=aa hs2
 clear ho hb2 hr2 hn hs2 HP1 q1_3 f1_3 hbc2 hrc2 hc2
 have hwz:=HS2.out.off.size
 have hcW:=HA2.out.row.lt
 have HWZ:=aa hwz
 have HCW:=aa hcW
 have hfw:=(HFEW.out.text HN1.out).list HN2.out
 have HFW:=aa hfw
 have HE0:=aa (show EAt w w2 w2 S b g c2 id 4 n1 v2 rest2 n2 [] n2 from ⟨Rw.none,vl2,HS2.out,HA2.out,GRow.nil _ _,by cases bz n2 <;> rfl,by simpa using hfw.1.1,Nat.le_refl _,hfw.1⟩)
 have hinf:=info_at
 obtain ⟨i0,hi,iz0,iz1,iz2⟩:=info_parts hinf
 clear HS2 HA2 hwz hcW hfw hinf
 go_wp2_with fail
 go_loopw [46] (fun _ wr => ∃ (az : List At) (rest : List Tl),EAt w w2 wr S b g c2 id 4 n1 v2 rest2 n2 az rest) (fun _ wr => eQ (wr.cell? ⟨c2,0,none⟩))
 case atStart => exact ⟨_,_,HE0.out⟩
 case round =>
  clear HE0
  obtain ⟨az,rest,r,vl,hst,hax,hgr,hpar,hlen,hsz,hfk⟩:=hrel
  obtain ⟨A3,cap3,rfl,hlc3,hcm3,-⟩:=_root_.id hax.tr
  have k0 : wr.cell? ⟨c2,0,none⟩ = some (.slice A3 rest.length cap3):=hax.row.cell 0
  have k1 : wr.cell? ⟨g,24,none⟩ = some (.slice r.A r.n r.c):=hst.cell 24
  have k2:=hst.frozen 24
  have HST:=aa hst
  have HAX:=aa hax
  have HPAR:=aa hpar
  have HLEN:=aa hlen
  have HSZ:=aa hsz
  have HFK:=aa hfk
  clear hst hax hpar hlen hsz hlc3 hcm3 hfk
  cases rest with
  | nil =>
   obtain ⟨r1,hr1,hrow⟩:=GRow.row aH hgr
   injection hr1 with h1 h2 h3
   have hrr : r = r1:=by cases r; cases r1; simp_all
   clear h1 h2 h3
   subst hrr
   have HROW:=aa hrow
   have HAZ:=aa (show bz n2 = some az by rw [HPAR.out]; simp [bz])
   clear hgr hrow
   go_wp2_with fail
   go_end0
   refine ⟨HST.out.off,.inr ⟨_,rest2,v2,_,by simp only [entP,HN1.out,HN2.out,HAZ.out,Option.bind_some]; rfl,rfl,HST.out.row,HST.out.tr,HST.out.ms,?_⟩⟩
   exact ⟨FC.zero,Rw.none,r,Rw.none,Rw.none,Rw.none,rfl,⟨HZ1.out,Nat.zero_le _,Nat.zero_le _,Nat.zero_le _,Nat.zero_le _,Nat.zero_le _⟩,di _ _,RowOf.nil _ _,HROW.out.keep aH (Nat.le_refl _) (fun _ _ _ => rfl) (fun x hx _ => Nat.le_trans HWZ.out hx),RowOf.nil _ _,RowOf.nil _ _,RowOf.nil _ _⟩
  | cons k rest =>
   obtain ⟨css,hcl,hck,hown,hall⟩:=hgr
   obtain ⟨uA,uc,hru,hu1,hu2⟩:=dI hown
   injection hru with h1 h2 h3
   obtain ⟨rA,rn,rc⟩:=r
   simp only at h1 h2 h3
   subst h1 h2 h3
   have HCL:=aa hcl
   have HCK:=aa hck
   have HOWN:=aa hown
   have HALL:=aa hall
   have hgW : g < w2.heap.size:=Nat.lt_of_lt_of_le HF.out.gB HWZ.out
   have hune : (Value.slice rA az.length rc).ownBlock ≠ some g:=fun e => by have:=(HOWN.out.lt _ e).1; omega
   have hcg : ¬ (c2 = g):=by have:=HAX.out.le; have:=HF.out.gB; omega
   have hgc : ¬ (g = c2):=fun e => hcg e.symm
   have z0 : decide ((0 : Int) < (rest.length : Int) + 1) = true:=ab (by omega)
   have hal : az.length < 8192:=by have:=HLEN.out; simp at this; omega
   have hwr : w2.heap.size <= wr.heap.size:=HSZ.out
   have HLA:=aa (fun W (hb : Bk W c2 76 #[.slice A3 (k :: rest).length cap3]) (hr : TRow W S (.slice A3 (k :: rest).length cap3) (k :: rest)) => bA 16 c2 _ (k :: rest) S W hb hr (HAX.out.nb HF.out))
   clear hcl hck hown hall hu2
   go_wp2_with fail
   go_region_law ((first
    | (go_simp; go_at_call 71; refine (HLA.out wr.drew (HAX.out.row.keep rfl) (HAX.out.tr.keep (Nat.le_refl _) (fun _ _ _ => rfl) (fun _ h _ => h))).mono ?_; rintro e w4 ⟨ho4,hcs⟩; have hof4:=HST.out.off.drew.then ho4 (by intro z hz; simp at hz; rw [hz]; exact .inr HAX.out.le); rcases hcs with ⟨hn,rfl⟩ | ⟨l4,rest4,v4,hn4,⟨c4,vl4,rfl,hc4,hbc4,hrc4⟩,hb4,hr4⟩; (exact ⟨rfl,hof4,.inl ⟨by simp only [entP,HN1.out,HN2.out,Option.bind_some,HPAR.out,attrsP_none hn]; rfl,rfl,⟨_,ho4.bk (HST.out.ms.keep rfl) (by simp; omega),rfl⟩⟩⟩); have hms4:=ho4.bk (HST.out.ms.keep rfl) (by simp; omega); have y1 : w4.cell? ⟨g,24,none⟩ = some (.slice rA az.length rc):=hms4.cell 24; have y2:=hms4.frozen 24; have HAT:=aa (attr_any c4 vl4 l4 S w4 hbc4 hrc4 (fun x hx => by have h1:=(HF.out.apart x hx).2.2; have h2:=hof4.size; have h3 : wr.heap.size <= c4:=hc4; have h4:=HWZ.out; exact ⟨by omega,by omega⟩) (HFK.out.list hn4).1); have HMS4:=aa hms4; clear hms4; have HOF4:=aa hof4; clear hof4)
    | (go_simp; go_at_call 96; refine HAT.out.mono ?_; rintro e w5 ⟨ho5,hcs⟩; have hof5:=HOF4.out.then ho5 (by intro z hz; simp at hz; rw [hz]; exact .inr (by have h3 : wr.heap.size <= c4:=hc4; have h4:=HWZ.out; omega)); rcases hcs with ⟨hn,rfl⟩ | ⟨d5,cl5,hn5,rfl,hat5⟩; (exact ⟨rfl,hof5,.inl ⟨by simp only [entP,HN1.out,HN2.out,Option.bind_some,HPAR.out,attrsP_bad hn4 hn]; rfl,rfl,⟨_,ho5.bk HMS4.out (by have h3 : wr.heap.size <= c4:=hc4; simp; omega),rfl⟩⟩⟩); obtain ⟨x0,xA,xn,xc,rfl⟩:=dF hat5; have hms5:=ho5.bk HMS4.out (by have h3 : wr.heap.size <= c4:=hc4; simp; omega); have u1 : w5.cell? ⟨g,24,none⟩ = some (.slice rA az.length rc):=hms5.cell 24; have u2:=hms5.frozen 24; have u3:=hms5.lt; have hown5:=ho5.own (ho4.own (World.ownsRow.drew HOWN.out) (by intro x hx; have:=(HOWN.out.lt x hx).1; have:=HCW.out; simp; omega)) (by intro x hx; have h3 : wr.heap.size <= c4:=hc4; have:=(HOWN.out.lt x hx).2; simp; omega))
    | (refine step_append_lies _ ?g1 (.tmp 51) (.tmp 55) 26 ?g2 w2.heap.size 50 i0 _ 2 40 Tryz.underlying26 hi iz0 iz1 iz2 ?q1 ?q2 (.slice rA az.length rc) az.length css.flatten ?q3 (hown5.alloc _) ⟨w5.heap.size,0,none⟩ 1 1 [.string x0,.slice xA xn xc] ?q5 ?q6 ?q7 ?q8 ?q9 ?q10 ?q11 ?q12 (w5.heap.size + 1) ?q13 ?_; (case g1 => (rfl)); (case g2 => (rfl)); (case q1 => (rfl)); (case q2 => (omega)); (case q3 => (rfl)); (case q5 => (rfl)); (case q6 => (rfl)); (case q7 => (exact World.news_of_block (cs:=#[.string x0,.slice xA xn xc]) (heap_alloc_new w5 _))); (case q8 => (exact (fun x hx => by simp at hx; rcases hx with rfl | rfl <;> rfl))); (case q9 => (omega)); (case q10 => (unfold maxLen; omega)); (case q11 => (omega)); (case q12 => (have h5:=ho5.size; have h4:=ho4.size; simp at h4 |-; omega)); (case q13 => (simp)); intro gg cap6 w6 hown6 hgrow6 hat6 hlt6; have hkg:=bC ⟨(aK u1 u2 u3 _).1,(aK u1 u2 u3 _).2⟩ hgrow6 hune (by simp; omega); have hkg1:=hkg.1; have hkg2:=hkg.2)
    | fail))
   all_goals
    have HN:=aa (EAt.next HF.out HWZ.out HCW.out HST.out.drew HAX.out.drew HCL.out HCK.out (World.ownsRow.drew HOWN.out) HALL.out HPAR.out HLEN.out HSZ.out HFK.out hn4 hn5 ho4 hb4 hr4 hc4 hbc4.lt ho5 hat5 hown6 hgrow6 hat6)
    clear hown6 hgrow6 hat6 hkg hkg1 hkg2 hown5 u1 u2 u3 y1 y2 hat5 ho5 ho4 hb4 hr4 hbc4 hrc4 HAT HMS4 HOF4 HLA
    go_wp2_with fail
    go_roundw
    case rel => exact ⟨_,_,HN.out⟩
    case measure =>
     obtain ⟨r9,vl9,-,hax9,-⟩:=HN.out
     obtain ⟨A9,cap9,rfl,-⟩:=hax9.tr
     have e1:=hax9.row.cell 0
     rw [e1,k0]
     show rest.length < rest.length + 1
     omega
theorem parts_add (id : Int) (b g : Nat) (v : Value) (ks : List Tl) (S : Nat -> Prop) (w : World) (F : Fix S b g w.heap.size) (hb : Bk w b 76 #[v]) (hr : TRow w S v ks) (hg : Bk w g 30 (MC.base id 8).cells) (hfew : Few ks) :
  Calls Tryz.prog 70 #[.pointer (some ⟨b,0,none⟩),.pointer (some ⟨g,0,none⟩)] w (RdM b g S (entP id 8 ks) w):=by
 have HF:=aa F
 have c1 : w.cell? ⟨g,1,none⟩ = some (.int .i64 8):=hg.cell 1
 have HS:=aa (show St w S b g 30 w v ks (MC.base id 8).cells from ⟨Off.refl _ _,hb,hr,hg⟩)
 clear hb hr hg F
 have HFEW:=aa hfew
 clear hfew
 go_enter Tryz.func70,Tryz.ntmps70
 go_wp2_with fail
 (go_at_call 72)
 refine (aW b v ks S _ HS.out.row HS.out.tr HF.out.nb).mono ?_
 rintro e w1 ⟨ho,hcs⟩
 rcases hcs with ⟨hn,rfl⟩ | ⟨n1,rest1,v1,hn,⟨hz1,rfl⟩,hb1,hr1⟩
 ·exact ⟨rfl,HS.out.off.trans (ho.mono (by simp)),.inl ⟨by simp [entP,hn],rfl,⟨_,ho.bk HS.out.ms (by simpa using HF.out.ne.symm),rfl⟩⟩⟩
 have HN1:=aa hn
 have HZ1:=aa hz1
 have hs1:=HS.out.rd HF.out ho hb1 hr1
 have HS1:=aa hs1
 clear ho hb1 hr1 hn hs1 HS hz1
 have q1_3 : w1.cell? ⟨g,3,none⟩ = some (.string ⟨#[]⟩):=HS1.out.cell 3
 have f1_3:=HS1.out.frozen 3
 have hp1:=(HS1.out.put HF.out 3 (.string n1))
 rw [MC.put_name] at hp1
 have HP1:=aa (hp1)
 clear hp1 HS1
 go_wp2_with fail
 (go_at_call 71)
 refine (bA 16 b v1 rest1 S _ HP1.out.row HP1.out.tr HF.out.nb).mono ?_
 rintro e w2 ⟨ho,hcs⟩
 rcases hcs with ⟨hn,rfl⟩ | ⟨n2,rest2,v2,hn,⟨c2,vl2,rfl,hc2,hbc2,hrc2⟩,hb2,hr2⟩
 ·exact ⟨rfl,HP1.out.off.trans (ho.mono (by simp)),.inl ⟨by simp [entP,HN1.out,hn],rfl,⟨_,ho.bk HP1.out.ms (by simpa using HF.out.ne.symm),rfl⟩⟩⟩
 have HN2:=aa hn
 have HA2:=aa (show Ax S w.heap.size c2 w2 vl2 n2 from ⟨hbc2,hrc2,Nat.le_trans HP1.out.off.size hc2⟩)
 have hs2:=HP1.out.rd HF.out ho hb2 hr2
 have HS2:=aa hs2
 clear ho hb2 hr2 hn hs2 HP1 q1_3 f1_3 hbc2 hrc2 hc2
 have hwz:=HS2.out.off.size
 have hcW:=HA2.out.row.lt
 have HWZ:=aa hwz
 have HCW:=aa hcW
 have hfw:=(HFEW.out.text HN1.out).list HN2.out
 have HFW:=aa hfw
 have HE0:=aa (show EAt w w2 w2 S b g c2 id 8 n1 v2 rest2 n2 [] n2 from ⟨Rw.none,vl2,HS2.out,HA2.out,GRow.nil _ _,by cases bz n2 <;> rfl,by simpa using hfw.1.1,Nat.le_refl _,hfw.1⟩)
 have hinf:=info_at
 obtain ⟨i0,hi,iz0,iz1,iz2⟩:=info_parts hinf
 clear HS2 HA2 hwz hcW hfw hinf
 go_wp2_with fail
 go_loopw [46] (fun _ wr => ∃ (az : List At) (rest : List Tl),EAt w w2 wr S b g c2 id 8 n1 v2 rest2 n2 az rest) (fun _ wr => eQ (wr.cell? ⟨c2,0,none⟩))
 case atStart => exact ⟨_,_,HE0.out⟩
 case round =>
  clear HE0
  obtain ⟨az,rest,r,vl,hst,hax,hgr,hpar,hlen,hsz,hfk⟩:=hrel
  obtain ⟨A3,cap3,rfl,hlc3,hcm3,-⟩:=_root_.id hax.tr
  have k0 : wr.cell? ⟨c2,0,none⟩ = some (.slice A3 rest.length cap3):=hax.row.cell 0
  have k1 : wr.cell? ⟨g,24,none⟩ = some (.slice r.A r.n r.c):=hst.cell 24
  have k2:=hst.frozen 24
  have HST:=aa hst
  have HAX:=aa hax
  have HPAR:=aa hpar
  have HLEN:=aa hlen
  have HSZ:=aa hsz
  have HFK:=aa hfk
  clear hst hax hpar hlen hsz hlc3 hcm3 hfk
  cases rest with
  | nil =>
   obtain ⟨r1,hr1,hrow⟩:=GRow.row aH hgr
   injection hr1 with h1 h2 h3
   have hrr : r = r1:=by cases r; cases r1; simp_all
   clear h1 h2 h3
   subst hrr
   have HROW:=aa hrow
   have HAZ:=aa (show bz n2 = some az by rw [HPAR.out]; simp [bz])
   clear hgr hrow
   go_wp2_with fail
   go_end0
   refine ⟨HST.out.off,.inr ⟨_,rest2,v2,_,by simp only [entP,HN1.out,HN2.out,HAZ.out,Option.bind_some]; rfl,rfl,HST.out.row,HST.out.tr,HST.out.ms,?_⟩⟩
   exact ⟨FC.zero,Rw.none,r,Rw.none,Rw.none,Rw.none,rfl,⟨HZ1.out,Nat.zero_le _,Nat.zero_le _,Nat.zero_le _,Nat.zero_le _,Nat.zero_le _⟩,di _ _,RowOf.nil _ _,HROW.out.keep aH (Nat.le_refl _) (fun _ _ _ => rfl) (fun x hx _ => Nat.le_trans HWZ.out hx),RowOf.nil _ _,RowOf.nil _ _,RowOf.nil _ _⟩
  | cons k rest =>
   obtain ⟨css,hcl,hck,hown,hall⟩:=hgr
   obtain ⟨uA,uc,hru,hu1,hu2⟩:=dI hown
   injection hru with h1 h2 h3
   obtain ⟨rA,rn,rc⟩:=r
   simp only at h1 h2 h3
   subst h1 h2 h3
   have HCL:=aa hcl
   have HCK:=aa hck
   have HOWN:=aa hown
   have HALL:=aa hall
   have hgW : g < w2.heap.size:=Nat.lt_of_lt_of_le HF.out.gB HWZ.out
   have hune : (Value.slice rA az.length rc).ownBlock ≠ some g:=fun e => by have:=(HOWN.out.lt _ e).1; omega
   have hcg : ¬ (c2 = g):=by have:=HAX.out.le; have:=HF.out.gB; omega
   have hgc : ¬ (g = c2):=fun e => hcg e.symm
   have z0 : decide ((0 : Int) < (rest.length : Int) + 1) = true:=ab (by omega)
   have hal : az.length < 8192:=by have:=HLEN.out; simp at this; omega
   have hwr : w2.heap.size <= wr.heap.size:=HSZ.out
   have HLA:=aa (fun W (hb : Bk W c2 76 #[.slice A3 (k :: rest).length cap3]) (hr : TRow W S (.slice A3 (k :: rest).length cap3) (k :: rest)) => bA 16 c2 _ (k :: rest) S W hb hr (HAX.out.nb HF.out))
   clear hcl hck hown hall hu2
   go_wp2_with fail
   go_region_law ((first
    | (go_simp; go_at_call 71; refine (HLA.out wr.drew (HAX.out.row.keep rfl) (HAX.out.tr.keep (Nat.le_refl _) (fun _ _ _ => rfl) (fun _ h _ => h))).mono ?_; rintro e w4 ⟨ho4,hcs⟩; have hof4:=HST.out.off.drew.then ho4 (by intro z hz; simp at hz; rw [hz]; exact .inr HAX.out.le); rcases hcs with ⟨hn,rfl⟩ | ⟨l4,rest4,v4,hn4,⟨c4,vl4,rfl,hc4,hbc4,hrc4⟩,hb4,hr4⟩; (exact ⟨rfl,hof4,.inl ⟨by simp only [entP,HN1.out,HN2.out,Option.bind_some,HPAR.out,attrsP_none hn]; rfl,rfl,⟨_,ho4.bk (HST.out.ms.keep rfl) (by simp; omega),rfl⟩⟩⟩); have hms4:=ho4.bk (HST.out.ms.keep rfl) (by simp; omega); have y1 : w4.cell? ⟨g,24,none⟩ = some (.slice rA az.length rc):=hms4.cell 24; have y2:=hms4.frozen 24; have HAT:=aa (attr_any c4 vl4 l4 S w4 hbc4 hrc4 (fun x hx => by have h1:=(HF.out.apart x hx).2.2; have h2:=hof4.size; have h3 : wr.heap.size <= c4:=hc4; have h4:=HWZ.out; exact ⟨by omega,by omega⟩) (HFK.out.list hn4).1); have HMS4:=aa hms4; clear hms4; have HOF4:=aa hof4; clear hof4)
    | (go_simp; go_at_call 96; refine HAT.out.mono ?_; rintro e w5 ⟨ho5,hcs⟩; have hof5:=HOF4.out.then ho5 (by intro z hz; simp at hz; rw [hz]; exact .inr (by have h3 : wr.heap.size <= c4:=hc4; have h4:=HWZ.out; omega)); rcases hcs with ⟨hn,rfl⟩ | ⟨d5,cl5,hn5,rfl,hat5⟩; (exact ⟨rfl,hof5,.inl ⟨by simp only [entP,HN1.out,HN2.out,Option.bind_some,HPAR.out,attrsP_bad hn4 hn]; rfl,rfl,⟨_,ho5.bk HMS4.out (by have h3 : wr.heap.size <= c4:=hc4; simp; omega),rfl⟩⟩⟩); obtain ⟨x0,xA,xn,xc,rfl⟩:=dF hat5; have hms5:=ho5.bk HMS4.out (by have h3 : wr.heap.size <= c4:=hc4; simp; omega); have u1 : w5.cell? ⟨g,24,none⟩ = some (.slice rA az.length rc):=hms5.cell 24; have u2:=hms5.frozen 24; have u3:=hms5.lt; have hown5:=ho5.own (ho4.own (World.ownsRow.drew HOWN.out) (by intro x hx; have:=(HOWN.out.lt x hx).1; have:=HCW.out; simp; omega)) (by intro x hx; have h3 : wr.heap.size <= c4:=hc4; have:=(HOWN.out.lt x hx).2; simp; omega))
    | (refine step_append_lies _ ?g1 (.tmp 51) (.tmp 55) 26 ?g2 w2.heap.size 50 i0 _ 2 40 Tryz.underlying26 hi iz0 iz1 iz2 ?q1 ?q2 (.slice rA az.length rc) az.length css.flatten ?q3 (hown5.alloc _) ⟨w5.heap.size,0,none⟩ 1 1 [.string x0,.slice xA xn xc] ?q5 ?q6 ?q7 ?q8 ?q9 ?q10 ?q11 ?q12 (w5.heap.size + 1) ?q13 ?_; (case g1 => (rfl)); (case g2 => (rfl)); (case q1 => (rfl)); (case q2 => (omega)); (case q3 => (rfl)); (case q5 => (rfl)); (case q6 => (rfl)); (case q7 => (exact World.news_of_block (cs:=#[.string x0,.slice xA xn xc]) (heap_alloc_new w5 _))); (case q8 => (exact (fun x hx => by simp at hx; rcases hx with rfl | rfl <;> rfl))); (case q9 => (omega)); (case q10 => (unfold maxLen; omega)); (case q11 => (omega)); (case q12 => (have h5:=ho5.size; have h4:=ho4.size; simp at h4 |-; omega)); (case q13 => (simp)); intro gg cap6 w6 hown6 hgrow6 hat6 hlt6; have hkg:=bC ⟨(aK u1 u2 u3 _).1,(aK u1 u2 u3 _).2⟩ hgrow6 hune (by simp; omega); have hkg1:=hkg.1; have hkg2:=hkg.2)
    | fail))
   all_goals
    have HN:=aa (EAt.next HF.out HWZ.out HCW.out HST.out.drew HAX.out.drew HCL.out HCK.out (World.ownsRow.drew HOWN.out) HALL.out HPAR.out HLEN.out HSZ.out HFK.out hn4 hn5 ho4 hb4 hr4 hc4 hbc4.lt ho5 hat5 hown6 hgrow6 hat6)
    clear hown6 hgrow6 hat6 hkg hkg1 hkg2 hown5 u1 u2 u3 y1 y2 hat5 ho5 ho4 hb4 hr4 hbc4 hrc4 HAT HMS4 HOF4 HLA
    go_wp2_with fail
    go_roundw
    case rel => exact ⟨_,_,HN.out⟩
    case measure =>
     obtain ⟨r9,vl9,-,hax9,-⟩:=HN.out
     obtain ⟨A9,cap9,rfl,-⟩:=hax9.tr
     have e1:=hax9.row.cell 0
     rw [e1,k0]
     show rest.length < rest.length + 1
     omega
theorem wf64 {i : Int} (h : (-9223372036854775808 : Int) <= i) (h1 : i <= 9223372036854775807) : (Lit.int .i64 i).wf = true:=by
 simp [Lit.wf,IntKind.min,IntKind.max,IntKind.bits,IntKind.signed]
 omega
theorem numP_in {t lo hi n : Int} {ks r : List Tl} (h : numP t lo hi ks = some (n,r)) : lo <= n /\ n <= hi:=by
 unfold numP at h
 cases hh : headP 0 t false ks with
 | none => rw [hh] at h; simp at h
 | some p =>
  rw [hh] at h
  simp only [Option.bind_some,Option.map_eq_some_iff,Prod.mk.injEq] at h
  obtain ⟨a,ha,rfl,-⟩:=h
  unfold dx at ha
  by_cases hc : PB.isNum false p.1.body.data.toList = true /\ inB (PB.sgn p.1.body.data.toList) lo hi = true
  ·rw [if_pos hc] at ha
   injection ha with ha
   have:=hc.2
   unfold inB at this
   simp at this
   rw [<- ha]
   exact this
  ·rw [if_neg hc] at ha; cases ha
def oneP (ks : List Tl) : Option Md:=(numP 10 0 2 ks).bind fun n => (aZ 16 n.2).bind fun l => (dH l.1).bind fun a => if l.2 = [] then some (n.1,a.1,a.2) else none
def cO : List Tl -> Option (List Md)
 | [] => some []
 | k :: rest => match headP 0 16 true (k :: rest) with
  | some (t,_) => (oneP t.kids).bind fun a => (cO rest).map (a :: ·)
  | none => none
theorem modsP_none {k : Tl} {rest : List Tl} (h : aZ 16 (k :: rest) = none) : cO (k :: rest) = none:=by
 unfold cO
 unfold aZ at h
 cases hh : headP 0 16 true (k :: rest) with
 | none => rfl
 | some p => rw [hh] at h; simp at h
theorem eG {k : Tl} {rest l r : List Tl} (h : aZ 16 (k :: rest) = some (l,r)) (ha : oneP l = none) : cO (k :: rest) = none:=by
 obtain ⟨t,he,rfl,hh⟩:=ct h
 rw [cO,hh]
 simp [ha]
theorem modsP_some {k : Tl} {rest l r : List Tl} {a : Md} (h : aZ 16 (k :: rest) = some (l,r)) (ha : oneP l = some a) : r = rest /\ cO (k :: rest) = (cO rest).map (a :: ·):=by
 obtain ⟨t,he,rfl,hh⟩:=ct h
 obtain ⟨-,he2⟩:=List.cons.inj he
 refine ⟨he2.symm,?_⟩
 rw [cO,hh]
 simp [ha]
def modP (id : Int) (ks : List Tl) : Option (Ms × List Tl) :=
 (bc ks).bind fun a => (aZ 16 a.2).bind fun l => (cO l.1).bind fun az => some ({ Ms.base id 6 with name:=a.1,mods:=az },l.2)
def MAt (w W0 wr : World) (S : Nat -> Prop) (b g c : Nat) (id : Int) (nm : ByteArray) (v : Value) (ks l0 : List Tl) (az : List Md) (rest : List Tl) : Prop :=
 ∃ (r : Rw) (vl : Value),St w S b g 30 wr v ks ({ MC.base id 6 with name:=nm,mods:=r } : MC).cells /\ Ax S w.heap.size c wr vl rest /\ GRow 52 3 dy wr W0.heap.size (.slice r.A r.n r.c) az /\ cO l0 = (cO rest).map (az ++ ·) /\ az.length + rest.length <= 8192 /\ W0.heap.size <= wr.heap.size /\ Few rest
theorem modAt_form {w : World} {S : Nat -> Prop} {d : Md} {c : List Value} (h : dy w S d c) : ∃ (n : Int) (s : ByteArray) (qA : Option Addr) (qn qc : Nat),c = [.int .i64 n,.string s,.slice qA qn qc]:=by
 obtain ⟨q,h1,-⟩:=h
 exact ⟨_,_,_,_,_,h1⟩
theorem MAt.next {w W0 wr w3 w5 : World} {S : Nat -> Prop} {b g c : Nat} {id : Int} {nm : ByteArray} {v v2 : Value} {ks l0 : List Tl} {az : List Md} {k : Tl} {rest l r2 : List Tl} {r : Rw} {vl : Value} {a : Md} {cl : List Value} {css : List (List Value)} {gg cap5 : Nat}
  (F : Fix S b g w.heap.size) (hW0 : w.heap.size <= W0.heap.size) (hcW : c < W0.heap.size) (hst : St w S b g 30 wr v ks ({ MC.base id 6 with name:=nm,mods:=r } : MC).cells) (hax : Ax S w.heap.size c wr vl (k :: rest))
  (hcl : css.length = az.length) (hck : ∀ c ∈ css,c.length = 3) (hown : wr.ownsRow W0.heap.size 52 3 (.slice r.A r.n r.c) az.length css.flatten)
  (hall : ∀ (i : Nat) (d : Md) (c : List Value),az[i]? = some d -> css[i]? = some c -> dy wr (fun b => W0.heap.size <= b /\ (Value.slice r.A r.n r.c).ownBlock ≠ some b) d c)
  (hpar : cO l0 = (cO (k :: rest)).map (az ++ ·)) (hlen : az.length + (k :: rest).length <= 8192) (hsz : W0.heap.size <= wr.heap.size) (hfw : Few (k :: rest))
  (hl : aZ 16 (k :: rest) = some (l,r2)) (ha : oneP l = some a)
  (ho : Off [c] wr w3) (hb2 : Bk w3 c 76 #[v2]) (hr2 : TRow w3 S v2 r2) (hat : dy w3 (fun x => wr.heap.size <= x) a cl)
  (hown5 : w5.ownsRow W0.heap.size 52 3 (.slice (some ⟨gg,0,none⟩) (az.length + 1) cap5) (az.length + 1) (css.flatten ++ cl)) (hgr : (w3.alloc (.cells cl.toArray 52)).grownBy w5 (Value.slice r.A r.n r.c).ownBlock) (hgg : (Value.slice r.A r.n r.c).ownBlock = some gg \/ gg = w3.heap.size + 1) :
  MAt w W0 (w5.setCell ⟨g,25,none⟩ (.slice (some ⟨gg,0,none⟩) (az.length + 1) cap5)) S b g c id nm v ks l0 (az ++ [a]) rest:=by
 have s3:=ho.size
 have s5:=hgr.size
 have hsa : (w3.alloc (.cells cl.toArray 52)).heap.size = w3.heap.size + 1:=by simp
 have hba : Below w3.heap.size w3 (w3.alloc (.cells cl.toArray 52)):=(Below.refl _ w3).alloc (Nat.le_refl _) _
 have hrow : ∀ x,(Value.slice r.A r.n r.c).ownBlock = some x -> W0.heap.size <= x:=fun x hx => (hown.lt x hx).1
 obtain ⟨rfl,hp2⟩:=modsP_some hl ha
 have q2:=((hst.quiet F ho (by simpa using hax.le)).new (.cells cl.toArray 52)).grown F hgr (fun x hx => Nat.le_trans hW0 (hrow x hx))
 have q3:=q2.put F 25 (.slice (some ⟨gg,0,none⟩) (az.length + 1) cap5)
 have a1 : Ax S w.heap.size c w3 v2 r2:=⟨hb2,hr2,hax.le⟩
 have a2:=(a1.new (.cells cl.toArray 52)).grown F hgr (fun x hx => by have:=hrow x hx; omega)
 have a3:=a2.put F 25 (.slice (some ⟨gg,0,none⟩) (az.length + 1) cap5)
 have hp:=GRow.push bJ (w:=wr) (w1:=w3) (w2:=w3.alloc (.cells cl.toArray 52)) (v':=.slice (some ⟨gg,0,none⟩) (az.length + 1) cap5) hsz hcl hck hown hall (fun x hx hlt => ho.block x hlt (by simp; omega)) (by omega)
  (by obtain ⟨q,h1,-⟩:=hat; rw [h1]; rfl) hat hba hown5 hgr (by rw [hsa]; exact hgg.elim (fun h => .inl h.symm) (fun h => .inr (by rw [h]; rfl)))
 have hgB:=F.gB
 have hpk:=hp.off bJ ((Off.refl [g] w5).setCell (p:=⟨g,25,none⟩) (.inl (by simp)) (.slice (some ⟨gg,0,none⟩) (az.length + 1) cap5)) (by intro z hz; simp at hz; omega)
 rw [MC.put_mods _ ⟨some ⟨gg,0,none⟩,az.length + 1,cap5⟩] at q3
 refine ⟨⟨some ⟨gg,0,none⟩,az.length + 1,cap5⟩,v2,q3,a3,hpk,?_,?_,by simp [World.setCell]; omega,hfw.tail⟩
 ·rw [hpar,hp2,Option.map_map]
  congr 1
  funext l
  simp
 ·simp at hlen |-; omega
theorem info_mod : (Tryz.prog.info? 52).map (fun i => (i.zero,i.size,i.bytes)) = some (some (.agg #[.int .i64 0,.string ⟨#[]⟩,.slice none 0 0]),3,48):=by kernel_rfl
theorem attrAt_back {w : World} {S : Nat -> Prop} {d : At} {s : ByteArray} {A : Option Addr} {n c : Nat} (h : bQ w S d [.string s,.slice A n c]) (k : Int) (hk : (Lit.int .i64 k).wf = true) : dy w S (k,d.1,d.2) [.int .i64 k,.string s,.slice A n c]:=by
 obtain ⟨q,h1,h2,h3⟩:=h
 simp only [List.cons.injEq,Value.string.injEq,Value.slice.injEq,and_true] at h1
 obtain ⟨rfl,rfl,rfl,rfl⟩:=h1
 exact ⟨q,rfl,⟨hk,h2⟩,h3⟩
theorem Fix.up {S : Nat -> Prop} {b g B C D : Nat} (F : Fix S b g B) (h : C <= D) (hB : B <= C) : Fix S b g D :=
 ⟨F.ne,by have:=F.bB; omega,by have:=F.gB; omega,fun x hx => ⟨(F.apart x hx).1,(F.apart x hx).2.1,by have:=(F.apart x hx).2.2; omega⟩⟩
theorem parts_modify (id : Int) (b g : Nat) (v : Value) (ks : List Tl) (S : Nat -> Prop) (w : World) (F : Fix S b g w.heap.size) (hb : Bk w b 76 #[v]) (hr : TRow w S v ks) (hg : Bk w g 30 (MC.base id 6).cells) (hfew : Few ks) :
  Calls Tryz.prog 70 #[.pointer (some ⟨b,0,none⟩),.pointer (some ⟨g,0,none⟩)] w (RdM b g S (modP id ks) w):=by
 have HF:=aa F
 have c1 : w.cell? ⟨g,1,none⟩ = some (.int .i64 6):=hg.cell 1
 have HS:=aa (show St w S b g 30 w v ks (MC.base id 6).cells from ⟨Off.refl _ _,hb,hr,hg⟩)
 clear hb hr hg F
 have HFEW:=aa hfew
 clear hfew
 go_enter Tryz.func70,Tryz.ntmps70
 go_wp2_with fail
 (go_at_call 72)
 refine (aW b v ks S _ HS.out.row HS.out.tr HF.out.nb).mono ?_
 rintro e w1 ⟨ho,hcs⟩
 rcases hcs with ⟨hn,rfl⟩ | ⟨n1,rest1,v1,hn,⟨hz1,rfl⟩,hb1,hr1⟩
 ·exact ⟨rfl,HS.out.off.trans (ho.mono (by simp)),.inl ⟨by simp [modP,hn],rfl,⟨_,ho.bk HS.out.ms (by simpa using HF.out.ne.symm),rfl⟩⟩⟩
 have HN1:=aa hn
 have HZ1:=aa hz1
 have hs1:=HS.out.rd HF.out ho hb1 hr1
 have HS1:=aa hs1
 clear ho hb1 hr1 hn hs1 HS hz1
 have q1_3 : w1.cell? ⟨g,3,none⟩ = some (.string ⟨#[]⟩):=HS1.out.cell 3
 have f1_3:=HS1.out.frozen 3
 have hp1:=(HS1.out.put HF.out 3 (.string n1))
 rw [MC.put_name] at hp1
 have HP1:=aa (hp1)
 clear hp1 HS1
 go_wp2_with fail
 (go_at_call 71)
 refine (bA 16 b v1 rest1 S _ HP1.out.row HP1.out.tr HF.out.nb).mono ?_
 rintro e w2 ⟨ho,hcs⟩
 rcases hcs with ⟨hn,rfl⟩ | ⟨n2,rest2,v2,hn,⟨c2,vl2,rfl,hc2,hbc2,hrc2⟩,hb2,hr2⟩
 ·exact ⟨rfl,HP1.out.off.trans (ho.mono (by simp)),.inl ⟨by simp [modP,HN1.out,hn],rfl,⟨_,ho.bk HP1.out.ms (by simpa using HF.out.ne.symm),rfl⟩⟩⟩
 have HN2:=aa hn
 have HA2:=aa (show Ax S w.heap.size c2 w2 vl2 n2 from ⟨hbc2,hrc2,Nat.le_trans HP1.out.off.size hc2⟩)
 have hs2:=HP1.out.rd HF.out ho hb2 hr2
 have HS2:=aa hs2
 clear ho hb2 hr2 hn hs2 HP1 q1_3 f1_3 hbc2 hrc2 hc2
 have hwz:=HS2.out.off.size
 have hcW:=HA2.out.row.lt
 have HWZ:=aa hwz
 have HCW:=aa hcW
 have hfw:=(HFEW.out.text HN1.out).list HN2.out
 have HFW:=aa hfw
 have HE0:=aa (show MAt w w2 w2 S b g c2 id n1 v2 rest2 n2 [] n2 from ⟨Rw.none,vl2,HS2.out,HA2.out,GRow.nil _ _,by cases cO n2 <;> rfl,by simpa using hfw.1.1,Nat.le_refl _,hfw.1⟩)
 have hinf:=info_mod
 obtain ⟨i0,hi,iz0,iz1,iz2⟩:=info_parts hinf
 clear HS2 HA2 hwz hcW hfw hinf
 go_wp2_with fail
 go_loopw [73] (fun _ wr => ∃ (az : List Md) (rest : List Tl),MAt w w2 wr S b g c2 id n1 v2 rest2 n2 az rest) (fun _ wr => eQ (wr.cell? ⟨c2,0,none⟩))
 case atStart => exact ⟨_,_,HE0.out⟩
 case round =>
  clear HE0
  obtain ⟨az,rest,r,vl,hst,hax,hgr,hpar,hlen,hsz,hfk⟩:=hrel
  obtain ⟨A3,cap3,rfl,hlc3,hcm3,-⟩:=_root_.id hax.tr
  have k0 : wr.cell? ⟨c2,0,none⟩ = some (.slice A3 rest.length cap3):=hax.row.cell 0
  have HST:=aa hst
  have HAX:=aa hax
  have HPAR:=aa hpar
  have HLEN:=aa hlen
  have HSZ:=aa hsz
  have HFK:=aa hfk
  clear hst hax hpar hlen hsz hlc3 hcm3 hfk
  cases rest with
  | nil =>
   obtain ⟨r1,hr1,hrow⟩:=GRow.row bJ hgr
   injection hr1 with h1 h2 h3
   have hrr : r = r1:=by cases r; cases r1; simp_all
   clear h1 h2 h3
   subst hrr
   have HROW:=aa hrow
   have HAZ:=aa (show cO n2 = some az by rw [HPAR.out]; simp [cO])
   clear hgr hrow
   go_wp2_with fail
   go_end0
   refine ⟨HST.out.off,.inr ⟨_,rest2,v2,_,by simp only [modP,HN1.out,HN2.out,HAZ.out,Option.bind_some]; rfl,rfl,HST.out.row,HST.out.tr,HST.out.ms,?_⟩⟩
   exact ⟨FC.zero,Rw.none,Rw.none,r,Rw.none,Rw.none,rfl,⟨HZ1.out,Nat.zero_le _,Nat.zero_le _,Nat.zero_le _,Nat.zero_le _,Nat.zero_le _⟩,di _ _,RowOf.nil _ _,RowOf.nil _ _,HROW.out.keep bJ (Nat.le_refl _) (fun _ _ _ => rfl) (fun x hx _ => Nat.le_trans HWZ.out hx),RowOf.nil _ _,RowOf.nil _ _⟩
  | cons k rest =>
   obtain ⟨css,hcl,hck,hown,hall⟩:=hgr
   obtain ⟨uA,uc,hru,hu1,hu2⟩:=dI hown
   injection hru with h1 h2 h3
   obtain ⟨rA,rn,rc⟩:=r
   simp only at h1 h2 h3
   subst h1 h2 h3
   have HCL:=aa hcl
   have HCK:=aa hck
   have HOWN:=aa hown
   have HALL:=aa hall
   have hgW : g < w2.heap.size:=Nat.lt_of_lt_of_le HF.out.gB HWZ.out
   have hune : (Value.slice rA az.length rc).ownBlock ≠ some g:=fun e => by have:=(HOWN.out.lt _ e).1; omega
   have z0 : decide ((0 : Int) < (rest.length : Int) + 1) = true:=ab (by omega)
   have hal : az.length < 8192:=by have:=HLEN.out; simp at this; omega
   have hwr : w2.heap.size <= wr.heap.size:=HSZ.out
   have HTH:=aa (fun (W : World) (ho : Off [c2] wr W) => HST.out.off.then ho (by intro z hz; simp at hz; rw [hz]; exact .inr HAX.out.le))
   clear hcl hck hown hall hu2
   have HFB:=aa (HF.out.up HSZ.out HWZ.out)
   go_wp2_with fail
   (go_at_call 71)
   refine (bA 16 c2 _ (k :: rest) S wr HAX.out.row HAX.out.tr (HAX.out.nb HF.out)).mono ?_
   rintro e w4 ⟨ho4,hcs⟩
   rcases hcs with ⟨hn,rfl⟩ | ⟨l4,rest4,v4,hn,⟨c4,vl4,rfl,hc4,hbc4,hrc4⟩,hb4,hr4⟩
   ·exact ⟨rfl,HTH.out _ ho4,.inl ⟨by simp only [modP,HN1.out,HN2.out,Option.bind_some,HPAR.out,modsP_none hn]; rfl,rfl,⟨_,ho4.bk HST.out.ms (by have:=HAX.out.le; have:=HF.out.gB; simp; omega),rfl⟩⟩⟩
   have HN4:=aa hn
   have HO4:=aa ho4
   have HA4:=aa (show Ax S w.heap.size c2 w4 v4 rest4 from ⟨hb4,hr4,HAX.out.le⟩)
   have HD4:=aa (show Ax S wr.heap.size c4 w4 vl4 l4 from ⟨hbc4,hrc4,hc4⟩)
   have HF4:=aa (HFK.out.list hn).1
   have hcc : c2 < wr.heap.size:=Nat.lt_of_lt_of_le HCW.out HSZ.out
   have hww : w.heap.size <= wr.heap.size:=Nat.le_trans HWZ.out HSZ.out
   have hc4' : wr.heap.size <= c4:=hc4
   have hs4:=ho4.size
   have hl4 : c4 < w4.heap.size:=hbc4.lt
   clear hn ho4 hb4 hr4 hbc4 hrc4
   go_wp2_with fail
   (go_at_call 41)
   refine (dz 10 0 2 c4 _ l4 S _ HD4.out.row HD4.out.tr (HD4.out.nb HFB.out)).mono ?_
   rintro e w5 ⟨ho5,hcs⟩
   have hof5:=HO4.out.then ho5 (by intro z hz; simp at hz; rw [hz]; exact .inr hc4')
   have ha5:=HA4.out.quiet HF.out ho5 (by intro z hz; simp at hz; omega)
   rcases hcs with ⟨hn,rfl⟩ | ⟨n5,rest5,v5,hn,rfl,hb5,hr5⟩
   ·exact ⟨rfl,HTH.out _ hof5,.inl ⟨by simp only [modP,HN1.out,HN2.out,Option.bind_some,HPAR.out,eG HN4.out (show oneP l4 = none by simp [oneP,hn])]; rfl,rfl,⟨_,hof5.bk HST.out.ms (by have:=HAX.out.le; have:=HF.out.gB; simp; omega),rfl⟩⟩⟩
   have HN5:=aa hn
   have HO5:=aa hof5
   have HA5:=aa ha5
   have HD5:=aa (show Ax S wr.heap.size c4 w5 v5 rest5 from ⟨hb5,hr5,hc4'⟩)
   have HF5:=aa (HF4.out.num hn)
   have HWF:=aa (wf64 (i:=n5) (by have:=numP_in hn; omega) (by have:=numP_in hn; omega))
   have hs5:=ho5.size
   clear hn ho5 hof5 ha5 hb5 hr5 HO4 HA4 HD4
   go_wp2_with fail
   (go_at_call 71)
   refine (bA 16 c4 _ rest5 S _ HD5.out.row HD5.out.tr (HD5.out.nb HFB.out)).mono ?_
   rintro e w6 ⟨ho6,hcs⟩
   have hof6:=HO5.out.then ho6 (by intro z hz; simp at hz; rw [hz]; exact .inr hc4')
   have ha6:=HA5.out.quiet HF.out ho6 (by intro z hz; simp at hz; omega)
   rcases hcs with ⟨hn,rfl⟩ | ⟨l6,rest6,v6,hn,⟨c6,vl6,rfl,hc6,hbc6,hrc6⟩,hb6,hr6⟩
   ·exact ⟨rfl,HTH.out _ hof6,.inl ⟨by simp only [modP,HN1.out,HN2.out,Option.bind_some,HPAR.out,eG HN4.out (show oneP l4 = none by simp [oneP,HN5.out,hn])]; rfl,rfl,⟨_,hof6.bk HST.out.ms (by have:=HAX.out.le; have:=HF.out.gB; simp; omega),rfl⟩⟩⟩
   have HN6:=aa hn
   have HO6:=aa hof6
   have HA6:=aa ha6
   have HD6:=aa (show Ax S wr.heap.size c4 w6 v6 rest6 from ⟨hb6,hr6,hc4'⟩)
   have hc6' : w5.heap.size <= c6:=hc6
   have hs6:=ho6.size
   have HAT:=aa (attr_any c6 vl6 l6 S w6 hbc6 hrc6 (fun x hx => by have h1:=(HFB.out.apart x hx).2.2; exact ⟨by omega,by omega⟩) (HF5.out.list hn).1)
   clear hn ho6 hof6 ha6 hb6 hr6 hbc6 hrc6 HO5 HA5 HD5
   go_wp2_with fail
   (go_at_call 96)
   refine HAT.out.mono ?_
   rintro e w7 ⟨ho7,hcs⟩
   have hof7:=HO6.out.then ho7 (by intro z hz; simp at hz; rw [hz]; exact .inr (by omega))
   have ha7:=HA6.out.quiet HF.out ho7 (by intro z hz; simp at hz; omega)
   have hd7:=HD6.out.quiet HFB.out ho7 (by intro z hz; simp at hz; omega)
   rcases hcs with ⟨hn,rfl⟩ | ⟨d7,cl7,hn,rfl,hat7⟩
   ·exact ⟨rfl,HTH.out _ hof7,.inl ⟨by simp only [modP,HN1.out,HN2.out,Option.bind_some,HPAR.out,eG HN4.out (show oneP l4 = none by simp [oneP,HN5.out,HN6.out,hn])]; rfl,rfl,⟨_,hof7.bk HST.out.ms (by have:=HAX.out.le; have:=HF.out.gB; simp; omega),rfl⟩⟩⟩
   have HN7:=aa hn
   obtain ⟨x0,xA,xn,xc,rfl⟩:=dF hat7
   have hs7:=ho7.size
   have ha8:=ha7.new (.cells #[.string x0,.slice xA xn xc] 50)
   have hd8:=hd7.new (.cells #[.string x0,.slice xA xn xc] 50)
   have hof8:=hof7.alloc (.cells #[.string x0,.slice xA xn xc] 50)
   have hat8 : bQ (w7.alloc (.cells #[.string x0,.slice xA xn xc] 50)) (fun x => wr.heap.size <= x) d7 [.string x0,.slice xA xn xc]:=aH (by simp) (fun x hx hlt => Below.heap_alloc w7 _ x hlt) (fun x hx _ => by have : w6.heap.size <= x:=hx; show wr.heap.size <= x; omega) _ _ hat7
   have hbx8:=Bk.new w7 50 #[.string x0,.slice xA xn xc]
   have HA8:=aa ha8
   have HD8:=aa hd8
   have HO8:=aa hof8
   have HAT8:=aa hat8
   have HBX8:=aa hbx8
   obtain ⟨A8,cap8,hv8,-⟩:=_root_.id hd8.tr
   subst hv8
   have HE:=aa (bw c4 rest6.length A8 cap8 _ HD8.out.row)
   clear hn ho7 hof7 ha7 hd7 ha8 hd8 hof8 hat7 hat8 hbx8 HO6 HA6 HD6 HAT
   go_wp2_with fail
   (go_at_call 45)
   refine HE.out.mono ?_
   rintro e w9 ⟨ho9,hcs⟩
   have hof9:=HO8.out.then ho9 (by simp)
   have ha9:=HA8.out.quiet HF.out ho9 (by simp)
   rcases hcs.symm with ⟨hn,rfl⟩ | ⟨hn,rfl⟩
   ·have hl : rest6 ≠ []:=by intro h; rw [h] at hn; simp at hn
    exact ⟨rfl,HTH.out _ hof9,.inl ⟨by simp only [modP,HN1.out,HN2.out,Option.bind_some,HPAR.out,eG HN4.out (show oneP l4 = none by simp [oneP,HN5.out,HN6.out,HN7.out,hl])]; rfl,rfl,⟨_,hof9.bk HST.out.ms (by have:=HAX.out.le; have:=HF.out.gB; simp; omega),rfl⟩⟩⟩
   have hl : rest6 = []:=by simpa using hn
   have HL:=aa (show oneP l4 = some (n5,d7.1,d7.2) by simp [oneP,HN5.out,HN6.out,HN7.out,hl])
   have hs9:=ho9.size
   simp at hs9
   have hms9:=hof9.bk HST.out.ms (by have:=HAX.out.le; have:=HF.out.gB; simp; omega)
   have y1 : w9.cell? ⟨g,25,none⟩ = some (.slice rA az.length rc):=hms9.cell 25
   have y2:=hms9.frozen 25
   have y3:=hms9.lt
   have hbx9:=ho9.bk HBX8.out (by simp)
   have x1 : w9.cell? ⟨w7.heap.size,0,none⟩ = some (.string x0):=hbx9.cell 0
   have x2 : w9.cell? ⟨w7.heap.size,1,none⟩ = some (.slice xA xn xc):=hbx9.cell 1
   have x3:=hbx9.lt
   have hmod:=attrAt_back (aH ho9.size (fun x hx hlt => ho9.block x hlt (by simp)) (fun _ h _ => h) _ _ HAT8.out) n5 HWF.out
   have HMOD:=aa hmod
   have hown9:=(hof9.own HOWN.out (by intro x hx; have:=(HOWN.out.lt x hx).1; have:=HCW.out; simp; omega))
   have HO9:=aa hof9
   have HA9:=aa ha9
   clear hn ho9 hof9 ha9 hms9 hbx9 hmod hl HA8 HD8 HO8 HAT8 HBX8 HE
   go_wp2_with fail
   go_region_law ((first
    | (refine step_append_lies _ ?g1 (.tmp 87) (.tmp 94) 27 ?g2 w2.heap.size 52 i0 _ 3 48 Tryz.underlying27 hi iz0 iz1 iz2 ?q1 ?q2 (.slice rA az.length rc) az.length css.flatten ?q3 ((World.ownsRow.drew hown9).alloc _) ⟨w9.heap.size,0,none⟩ 1 1 [.int .i64 n5,.string x0,.slice xA xn xc] ?q5 ?q6 ?q7 ?q8 ?q9 ?q10 ?q11 ?q12 (w9.heap.size + 1) ?q13 ?_; (case g1 => (rfl)); (case g2 => (rfl)); (case q1 => (rfl)); (case q2 => (omega)); (case q3 => (rfl)); (case q5 => (rfl)); (case q6 => (rfl)); (case q7 => (exact World.news_of_block (cs:=#[.int .i64 n5,.string x0,.slice xA xn xc]) (heap_alloc_new w9.drew _))); (case q8 => (exact (fun x hx => by simp at hx; rcases hx with rfl | rfl | rfl <;> rfl))); (case q9 => (omega)); (case q10 => (unfold maxLen; omega)); (case q11 => (omega)); (case q12 => (simp; omega)); (case q13 => (simp)); intro gg cap6 w10 hown10 hgrow10 hat10 hlt10; have hkg:=bC ⟨(aK (w4:=w9.drew) y1 y2 y3 _).1,(aK (w4:=w9.drew) y1 y2 y3 _).2⟩ hgrow10 hune (by simp; omega); have hkg1:=hkg.1; have hkg2:=hkg.2)
    | fail))
   all_goals
    have HN:=aa (MAt.next HF.out HWZ.out HCW.out HST.out HAX.out HCL.out HCK.out HOWN.out HALL.out HPAR.out HLEN.out HSZ.out HFK.out HN4.out HL.out HO9.out.drew HA9.out.drew.row HA9.out.drew.tr HMOD.out hown10 hgrow10 hat10)
    clear hown10 hgrow10 hat10 hkg hkg1 hkg2 hown9 y1 y2 y3 x1 x2 x3
    go_wp2_with fail
    go_roundw
    case rel => exact ⟨_,_,HN.out⟩
    case measure =>
     obtain ⟨r9,vl9,-,hax9,-⟩:=HN.out
     obtain ⟨A9,cap9,rfl,-⟩:=hax9.tr
     have e1:=hax9.row.cell 0
     rw [e1,k0]
     show rest.length < rest.length + 1
     omega
theorem parts_bind (id : Int) (b g : Nat) (v : Value) (ks : List Tl) (S : Nat -> Prop) (w : World) (F : Fix S b g w.heap.size) (hb : Bk w b 76 #[v]) (hr : TRow w S v ks) (hg : Bk w g 30 (MC.base id 0).cells) :
  Calls Tryz.prog 70 #[.pointer (some ⟨b,0,none⟩),.pointer (some ⟨g,0,none⟩)] w (RdM b g S (dk id ks) w):=by
 have HC:=aa (readBind_any id b g v ks S w F hb hr hg)
 have c1 : w.cell? ⟨g,1,none⟩ = some (.int .i64 0):=hg.cell 1
 clear F hb hr hg
 go_enter Tryz.func70,Tryz.ntmps70
 go_wp2_with fail
 (go_at_call 94)
 refine HC.out.mono ?_
 rintro e w1 ⟨ho,hcs⟩
 rcases hcs with ⟨hn,rfl,hold⟩ | ⟨M,rest,v',m,hn,rfl,h⟩
 ·exact ⟨rfl,ho,.inl ⟨hn,rfl,hold⟩⟩
 ·have HO:=aa ho
  have HN:=aa hn
  have H:=aa h
  clear ho hn h
  go_wp2_with fail
  go_end0
  exact ⟨HO.out,.inr ⟨M,rest,v',m,HN.out,rfl,H.out⟩⟩
theorem parts_search (id : Int) (b g : Nat) (v : Value) (ks : List Tl) (S : Nat -> Prop) (w : World) (F : Fix S b g w.heap.size) (hb : Bk w b 76 #[v]) (hr : TRow w S v ks) (hg : Bk w g 30 (MC.base id 3).cells) (hfew : Few ks) :
  Calls Tryz.prog 70 #[.pointer (some ⟨b,0,none⟩),.pointer (some ⟨g,0,none⟩)] w (RdM b g S (seaP id ks) w):=by
 have HC:=aa (search_any id b g v ks S w F hb hr hg hfew)
 have c1 : w.cell? ⟨g,1,none⟩ = some (.int .i64 3):=hg.cell 1
 clear F hb hr hg hfew
 go_enter Tryz.func70,Tryz.ntmps70
 go_wp2_with fail
 (go_at_call 95)
 refine HC.out.mono ?_
 rintro e w1 ⟨ho,hcs⟩
 rcases hcs with ⟨hn,rfl,hold⟩ | ⟨M,rest,v',m,hn,rfl,h⟩
 ·exact ⟨rfl,ho,.inl ⟨hn,rfl,hold⟩⟩
 ·have HO:=aa ho
  have HN:=aa hn
  have H:=aa h
  clear ho hn h
  go_wp2_with fail
  go_end0
  exact ⟨HO.out,.inr ⟨M,rest,v',m,HN.out,rfl,H.out⟩⟩
theorem parts_answer (id op : Int) (b g : Nat) (v : Value) (ks : List Tl) (S : Nat -> Prop) (w : World) (F : Fix S b g w.heap.size) (hb : Bk w b 76 #[v]) (hr : TRow w S v ks) (hg : Bk w g 30 (MC.base id op).cells) (ha : AnsAt w)
  (h0 : op ≠ 0) (h3 : op ≠ 3) (h4 : op ≠ 4) (h8 : op ≠ 8) (h6 : op ≠ 6) (h12 : op ≠ 12) (h14 : op ≠ 14) (h23 : op ≠ 23) :
  Calls Tryz.prog 70 #[.pointer (some ⟨b,0,none⟩),.pointer (some ⟨g,0,none⟩)] w (RdM b g S (ansP id op ks) w):=by
 have HC:=aa (readAnswer_any id op b g v ks S w F hb hr hg ha)
 have c1 : w.cell? ⟨g,1,none⟩ = some (.int .i64 op):=hg.cell 1
 clear F hb hr hg ha
 have q0 : (op == 0) = false:=by simpa using h0
 have q3 : (op == 3) = false:=by simpa using h3
 have q4 : (op == 4) = false:=by simpa using h4
 have q8 : (op == 8) = false:=by simpa using h8
 have q6 : (op == 6) = false:=by simpa using h6
 have q12 : (op == 12) = false:=by simpa using h12
 have q14 : (op == 14) = false:=by simpa using h14
 have q23 : (op == 23) = false:=by simpa using h23
 clear h0 h3 h4 h8 h6 h12 h14 h23
 go_enter Tryz.func70,Tryz.ntmps70
 go_wp2_with fail
 (go_at_call 97)
 refine HC.out.mono ?_
 rintro e w1 ⟨ho,hcs⟩
 rcases hcs with ⟨hn,rfl,hold⟩ | ⟨M,rest,v',m,hn,rfl,h⟩
 ·exact ⟨rfl,ho,.inl ⟨hn,rfl,hold⟩⟩
 ·have HO:=aa ho
  have HN:=aa hn
  have H:=aa h
  clear ho hn h
  go_wp2_with fail
  go_end0
  exact ⟨HO.out,.inr ⟨M,rest,v',m,HN.out,rfl,H.out⟩⟩
def bg (id op : Int) (ks : List Tl) : Option (Ms × List Tl) :=
 if op = 0 then dk id ks else if op = 3 then seaP id ks else if op = 4 \/ op = 8 then entP id op ks else if op = 6 then modP id ks else if op = 12 then renP id ks else if op = 14 then cmpP id ks else if op = 23 then extP id ks else ansP id op ks
theorem parts_any (id op : Int) (b g : Nat) (v : Value) (ks : List Tl) (S : Nat -> Prop) (w : World) (F : Fix S b g w.heap.size) (hb : Bk w b 76 #[v]) (hr : TRow w S v ks) (hg : Bk w g 30 (MC.base id op).cells) (hfew : Few ks) (ha : AnsAt w) :
  Calls Tryz.prog 70 #[.pointer (some ⟨b,0,none⟩),.pointer (some ⟨g,0,none⟩)] w (RdM b g S (bg id op ks) w):=by
 by_cases h0 : op = 0
 ·subst h0; exact parts_bind id b g v ks S w F hb hr hg
 by_cases h3 : op = 3
 ·subst h3; exact parts_search id b g v ks S w F hb hr hg hfew
 by_cases h4 : op = 4
 ·subst h4; exact parts_entry id b g v ks S w F hb hr hg hfew
 by_cases h8 : op = 8
 ·subst h8; exact parts_add id b g v ks S w F hb hr hg hfew
 by_cases h6 : op = 6
 ·subst h6; exact parts_modify id b g v ks S w F hb hr hg hfew
 by_cases h12 : op = 12
 ·subst h12; exact parts_rename id b g v ks S w F hb hr hg
 by_cases h14 : op = 14
 ·subst h14; exact parts_compare id b g v ks S w F hb hr hg
 by_cases h23 : op = 23
 ·subst h23; exact parts_ext id b g v ks S w F hb hr hg
 have e : bg id op ks = ansP id op ks:=by unfold bg; rw [if_neg h0,if_neg h3,if_neg (by omega),if_neg h6,if_neg h12,if_neg h14,if_neg h23]
 rw [e]
 exact parts_answer id op b g v ks S w F hb hr hg ha h0 h3 h4 h8 h6 h12 h14 h23
end Go.Proofs.YtbiglfpikfjbpaaGreatDoor
