import Derived.Test.YtbiglfpikfjbpaaGreatDoorM8
import Derived.Deep.DeepCutAuto
namespace Go.Proofs.YtbiglfpikfjbpaaGreatDoor
open Go.RowKit
set_option maxRecDepth 100000
set_option linter.unusedVariables false
set_option linter.unusedSimpArgs false
set_option maxHeartbeats 40000000
theorem info_fil : (Tryz.prog.info? 25).map (fun i => (i.zero,i.size,i.bytes)) = some (some (.agg #[.int .i64 0,.string ⟨#[]⟩,.string ⟨#[]⟩,.string ⟨#[]⟩,.slice none 0 0,.string ⟨#[]⟩,.slice none 0 0]),7,120):=by kernel_rfl
abbrev put7 (w : World) (g o : Nat) (v0 v1 v2 v3 v4 v5 v6 : Value) : World :=
 ((((((w.setCell ⟨g,o,none⟩ v0).setCell ⟨g,o + 1,none⟩ v1).setCell ⟨g,o + 2,none⟩ v2).setCell ⟨g,o + 3,none⟩ v3).setCell ⟨g,o + 4,none⟩ v4).setCell ⟨g,o + 5,none⟩ v5).setCell ⟨g,o + 6,none⟩ v6
theorem put7_off (w : World) (g o : Nat) (v0 v1 v2 v3 v4 v5 v6 : Value) : Off [g] w (put7 w g o v0 v1 v2 v3 v4 v5 v6) :=
 (((((((Off.refl [g] w).setCell (.inl (by simp)) _).setCell (.inl (by simp)) _).setCell (.inl (by simp)) _).setCell (.inl (by simp)) _).setCell (.inl (by simp)) _).setCell (.inl (by simp)) _).setCell (.inl (by simp)) _
theorem eE (w : World) (g o : Nat) (v0 v1 v2 v3 v4 v5 v6 : Value) : (put7 w g o v0 v1 v2 v3 v4 v5 v6).heap.size = w.heap.size:=by simp [put7,World.setCell]
def arr7 (cs : Array Value) (o : Nat) (v0 v1 v2 v3 v4 v5 v6 : Value) : Array Value :=
 ((((((cs.setIfInBounds o v0).setIfInBounds (o + 1) v1).setIfInBounds (o + 2) v2).setIfInBounds (o + 3) v3).setIfInBounds (o + 4) v4).setIfInBounds (o + 5) v5).setIfInBounds (o + 6) v6
theorem put7_bk {w : World} {g : Nat} {T : TypeId} {cs : Array Value} (h : Bk w g T cs) (o : Nat) (v0 v1 v2 v3 v4 v5 v6 : Value) : Bk (put7 w g o v0 v1 v2 v3 v4 v5 v6) g T (arr7 cs o v0 v1 v2 v3 v4 v5 v6) :=
 ((((((h.put o v0).put (o + 1) v1).put (o + 2) v2).put (o + 3) v3).put (o + 4) v4).put (o + 5) v5).put (o + 6) v6
theorem own_put7 {w : World} {B : Nat} {E : TypeId} {n cap gg : Nat} {X Z : List Value} (hX : X.length = n * 7) (hZ : Z.length = 7) (h : w.ownsRow B E 7 (.slice (some ⟨gg,0,none⟩) (n + 1) cap) (n + 1) (X ++ Z)) (v0 v1 v2 v3 v4 v5 v6 : Value) :
  (put7 w gg (n * 7) v0 v1 v2 v3 v4 v5 v6).ownsRow B E 7 (.slice (some ⟨gg,0,none⟩) (n + 1) cap) (n + 1) (X ++ [v0,v1,v2,v3,v4,v5,v6]):=by
 obtain ⟨h1,h2⟩:=h
 refine ⟨by simp [hX]; omega,?_⟩
 rcases h2 with ⟨h0,_⟩ | ⟨g',cap',cur,h0,hb,hh,hc,hm,hcs,htk⟩
 ·cases h0
 ·injection h0 with e1 e2 e3
  injection e1 with e1
  injection e1 with e1
  subst e1 e3
  refine .inr ⟨gg,cap,arr7 cur (n * 7) v0 v1 v2 v3 v4 v5 v6,rfl,hb,put7_bk hh _ _ _ _ _ _ _ _,hc,hm,by simp [arr7,hcs],?_⟩
  match Z,hZ with
  | [z0,z1,z2,z3,z4,z5,z6],_ =>
   simp only [arr7,Array.toList_setIfInBounds,List.take_set,htk]
   simp [List.set_append,hX]
theorem dI {w : World} {B : Nat} {E : TypeId} {k n : Nat} {v : Value} {xs : List Value} (h : w.ownsRow B E k v n xs) : ∃ (A : Option Addr) (c : Nat),v = .slice A n c /\ n <= c /\ c <= maxLen:=by
 rcases h.2 with ⟨h1,h2⟩ | ⟨g,cap,cur,h1,_,_,h2,h3,_⟩
 ·subst h2; exact ⟨none,0,h1,Nat.le_refl _,Nat.zero_le _⟩
 ·exact ⟨_,cap,h1,h2,h3⟩
abbrev zero7 : List Value:=[.int .i64 0,.string ⟨#[]⟩,.string ⟨#[]⟩,.string ⟨#[]⟩,.slice none 0 0,.string ⟨#[]⟩,.slice none 0 0]
theorem own_last7 {w : World} {B : Nat} {E : TypeId} {n cap gg : Nat} {X : List Value} (hX : X.length = n * 7) (h : w.ownsRow B E 7 (.slice (some ⟨gg,0,none⟩) (n + 1) cap) (n + 1) (X ++ zero7)) :
  w.cell? ⟨gg,n * 7,none⟩ = some (.int .i64 0) /\ w.cell? ⟨gg,n * 7 + 1,none⟩ = some (.string ⟨#[]⟩) /\ w.cell? ⟨gg,n * 7 + 2,none⟩ = some (.string ⟨#[]⟩) /\ w.cell? ⟨gg,n * 7 + 3,none⟩ = some (.string ⟨#[]⟩) /\ w.cell? ⟨gg,n * 7 + 4,none⟩ = some (.slice none 0 0) /\ w.cell? ⟨gg,n * 7 + 5,none⟩ = some (.string ⟨#[]⟩) /\ w.cell? ⟨gg,n * 7 + 6,none⟩ = some (.slice none 0 0) ∧
  (∀ i,w.frozen? ⟨gg,i,none⟩ = false):=by
 obtain ⟨h1,h2⟩:=h
 rcases h2 with ⟨h0,_⟩ | ⟨g',cap',cur,h0,hb,hh,hc,hm,hcs,htk⟩
 ·cases h0
 ·injection h0 with e1 e2 e3
  injection e1 with e1
  injection e1 with e1
  subst e1 e3
  have hbk : Bk w gg E cur:=hh
  have key : ∀ i u,zero7[i]? = some u -> i < 7 -> w.cell? ⟨gg,n * 7 + i,none⟩ = some u:=by
   intro i u hu hi
   rw [hbk.cell,<- Array.getElem?_toList]
   have hx : (X ++ zero7)[n * 7 + i]? = some u:=by rw [List.getElem?_append_right (by omega),hX,Nat.add_sub_cancel_left]; exact hu
   rw [<- htk,List.getElem?_take_of_lt (by omega)] at hx
   exact hx
  exact ⟨key 0 _ rfl (by omega),key 1 _ rfl (by omega),key 2 _ rfl (by omega),key 3 _ rfl (by omega),key 4 _ rfl (by omega),key 5 _ rfl (by omega),key 6 _ rfl (by omega),fun i => hbk.frozen i⟩
def FAt (w W0 : World) (t : Int) (ks : List Tl) (j : Nat) (fs : List Fl) (u : Value) (wr : World) : Prop :=
 Off [w.heap.size + 2] W0 wr /\ Bk wr (w.heap.size + 2) 25 (bE t ⟨#[]⟩ ⟨#[]⟩ ⟨#[]⟩ (.slice none 0 0) ⟨#[]⟩ u) /\ GRow 25 7 FlAt wr W0.heap.size u fs /\ cC ks = (cC (ks.drop j)).map (fs ++ ·) /\ fs.length = j
theorem FAt.next {w W0 wr w4 w4' w5 W : World} {t : Int} {ks : List Tl} {j : Nat} {fs : List Fl} {u : Value} {f : Fl} {css : List (List Value)} {Z : List Value} {gg cap5 : Nat} {v0 v1 v2 v3 v4 v5 v6 : Value}
  (hW0 : w.heap.size + 2 < W0.heap.size) (h1 : Off [w.heap.size + 2] W0 wr) (hcl : css.length = fs.length) (hck : ∀ c ∈ css,c.length = 7) (hown : wr.ownsRow W0.heap.size 25 7 u fs.length css.flatten)
  (hall : ∀ (i : Nat) (d : Fl) (c : List Value),fs[i]? = some d -> css[i]? = some c -> FlAt wr (fun b => W0.heap.size <= b /\ u.ownBlock ≠ some b) d c)
  (h4 : cC ks = (cC (ks.drop j)).map (fs ++ ·)) (h5 : fs.length = j) (hj : j < ks.length) (hv : filP ks[j] = some f)
  (hA : Below wr.heap.size wr w4) (hfl : FlAt w4 (fun b => wr.heap.size <= b) f [v0,v1,v2,v3,v4,v5,v6]) (hB : Below w4.heap.size w4 w4')
  (hown5 : w5.ownsRow W0.heap.size 25 7 (.slice (some ⟨gg,0,none⟩) (fs.length + 1) cap5) (fs.length + 1) (css.flatten ++ Z)) (hZ : Z.length = 7) (hgr : w4'.grownBy w5 u.ownBlock) (hat : u.ownBlock = some gg \/ gg = w4'.heap.size)
  (ho : Off [gg,w.heap.size + 2] w5 W) (hsz : W.heap.size = w5.heap.size) (hWg : Bk W (w.heap.size + 2) 25 (bE t ⟨#[]⟩ ⟨#[]⟩ ⟨#[]⟩ (.slice none 0 0) ⟨#[]⟩ (.slice (some ⟨gg,0,none⟩) (fs.length + 1) cap5)))
  (hWgg : W.heap[gg]? = (put7 w5 gg (fs.length * 7) v0 v1 v2 v3 v4 v5 v6).heap[gg]?) :
  FAt w W0 t ks (j + 1) (fs ++ [f]) (.slice (some ⟨gg,0,none⟩) (fs.length + 1) cap5) W:=by
 have s1:=h1.size
 have s2:=hA.size
 have s3:=hB.size
 have s5:=hgr.size
 have hgB : W0.heap.size <= gg:=(hown5.lt gg rfl).1
 have hX : css.flatten.length = fs.length * 7:=hown.1
 have hown7:=own_put7 hX hZ hown5 v0 v1 v2 v3 v4 v5 v6
 have hpo:=put7_off w5 gg (fs.length * 7) v0 v1 v2 v3 v4 v5 v6
 have hgr7 : w4'.grownBy (put7 w5 gg (fs.length * 7) v0 v1 v2 v3 v4 v5 v6) u.ownBlock :=
  ⟨hpo.os.trans hgr.os,hpo.tape.trans hgr.tape,hpo.output.trans hgr.output,by rw [eE]; exact s5,fun k hk hne => (hpo.block k (by omega) (fun hm => by
   have e : k = gg:=by simpa using hm
   subst e
   rcases hat with h | h
   ·exact hne h.symm
   ·omega)).trans (hgr.block k hk hne)⟩
 have hp:=GRow.push cB (w:=wr) (w1:=w4) (w2:=w4') s1 hcl hck hown hall (fun x hx hlt => hA.block x hlt) s2 rfl hfl hB hown7 hgr7 (lies_at hat rfl)
 refine ⟨((((h1.trans (Off.of_below hA _)).trans (Off.of_below hB _)).grown hgr (fun g hg => .inr (hown.lt g hg).1)).then ho (by simp; omega)),hWg,hp.keep cB (by rw [eE]; omega) (fun b hb hlt => ?_),?_,?_⟩
 ·by_cases hbg : b = gg
  ·subst hbg; exact hWgg
  ·rw [eE] at hlt
   exact (ho.block b hlt (by simp; omega)).trans (hpo.block b hlt (by simpa using hbg)).symm
 ·rw [h4,List.drop_eq_getElem_cons hj,cC,hv]
  simp only [Option.bind_some,Option.map_map]
  congr 1
  funext l
  simp
 ·rw [List.length_append,h5]; rfl
theorem aY {w : World} {S : Nat -> Prop} {f : Fl} {c : List Value} (h : FlAt w S f c) : ∃ (x0 : Int) (x1 x2 x3 x5 : ByteArray) (yA : Option Addr) (yn yc : Nat) (zA : Option Addr) (zn zc : Nat),c = [.int .i64 x0,.string x1,.string x2,.string x3,.slice yA yn yc,.string x5,.slice zA zn zc]:=by
 cases f
 unfold FlAt at h
 obtain ⟨q,r,rfl,-⟩:=h
 exact ⟨_,_,_,_,_,_,_,_,_,_,_,rfl⟩
theorem filPost_some {f : Fl} {w w1 w' : World} {e : Ending} (h : cG (some f) w1 e w') (hb : Below w.heap.size w w1) : Below w.heap.size w w' /\ Below w1.heap.size w1 w' /\ ∃ (x0 : Int) (x1 x2 x3 x5 : ByteArray) (yA : Option Addr) (yn yc : Nat) (zA : Option Addr) (zn zc : Nat),e = .returned (.agg #[.int .i64 x0,.string x1,.string x2,.string x3,.slice yA yn yc,.string x5,.slice zA zn zc]) /\ FlAt w' (fun x => w.heap.size <= x) f [.int .i64 x0,.string x1,.string x2,.string x3,.slice yA yn yc,.string x5,.slice zA zn zc]:=by
 obtain ⟨h1,h2⟩:=h
 refine ⟨hb.trans (h1.mono hb.size),h1,?_⟩
 rcases h2 with ⟨h2,-⟩ | ⟨f',c,hf,he,hfl⟩
 ·cases h2
 ·injection hf with hf
  subst hf
  obtain ⟨x0,x1,x2,x3,x5,yA,yn,yc,zA,zn,zc,rfl⟩:=aY hfl
  exact ⟨x0,x1,x2,x3,x5,yA,yn,yc,zA,zn,zc,he,FlAt.keep (Nat.le_refl _) (fun _ _ _ => rfl) (fun x hx _ => Nat.le_trans hb.size hx) _ _ hfl⟩
theorem fm_call {w wr w4 : World} {B n uc : Nat} {uA : Option Addr} {xs : List Value} {t : Int} (hw : Below wr.heap.size wr w4) (hown : wr.ownsRow B 25 7 (.slice uA n uc) n xs) (h2 : Bk wr (w.heap.size + 2) 25 (bE t ⟨#[]⟩ ⟨#[]⟩ ⟨#[]⟩ (.slice none 0 0) ⟨#[]⟩ (.slice uA n uc))) (hB : B <= wr.heap.size) :
  w4.ownsRow B 25 7 (.slice uA n uc) n xs /\ w4.cell? ⟨w.heap.size + 1 + 1,6,none⟩ = some (.slice uA n uc) /\ w4.frozen? ⟨w.heap.size + 1 + 1,6,none⟩ = false /\ w.heap.size + 1 + 1 < w4.heap.size /\ ¬ (w.heap.size + 1 + 1 = w4.heap.size) /\ B <= w4.heap.size:=by
 have hb:=af h2 hw
 have h3:=hb.lt
 have h4:=hw.size
 exact ⟨own_below hown hw,hb.cell 6,hb.frozen 6,h3,by omega,by omega⟩
theorem fm_news {w1 w4 : World} {b : Nat} {cs : Array Value} {t : TypeId} (hbk : w1.heap[b]? = some (.cells cs t (0,0))) (hb : Below w1.heap.size w1 w4) : ∀ (i : Nat) (u : Value),cs.toList[i]? = some u -> w4.cell? ((⟨b,0,none⟩ : Addr).add i) = some u :=
 World.news_of_block (fr:=(0,0)) ((hb.block b (lt_of_block hbk)).trans hbk)
theorem fm_zblock (wr : World) (o z : Obj) (n : Nat) : (((wr.alloc o).alloc z).drewN n).heap[wr.heap.size + 1]? = some z:=by
 have h:=heap_alloc_new (wr.alloc o) z
 have e : (wr.alloc o).heap.size = wr.heap.size + 1:=by simp
 rw [e] at h
 exact h
theorem zero7_one : ∀ u ∈ zero7,u.oneCell' = true:=by
 intro u hu
 simp [zero7] at hu
 rcases hu with rfl | rfl | rfl | rfl | rfl <;> rfl
theorem fm_app {w w4 w5 : World} {B n uc gg cap5 : Nat} {uA : Option Addr} {xs : List Value} (h6 : w4.cell? ⟨w.heap.size + 1 + 1,6,none⟩ = some (.slice uA n uc) /\ w4.frozen? ⟨w.heap.size + 1 + 1,6,none⟩ = false /\ w.heap.size + 1 + 1 < w4.heap.size)
  (hx : xs.length = n * 7) (hown5 : w5.ownsRow B 25 7 (.slice (some ⟨gg,0,none⟩) (n + 1) cap5) (n + 1) (xs ++ zero7)) (hgr : w4.grownBy w5 (Value.slice uA n uc).ownBlock) (hne : (Value.slice uA n uc).ownBlock ≠ some (w.heap.size + 1 + 1)) (hB : w.heap.size + 2 < B) :
  w5.cell? ⟨w.heap.size + 1 + 1,6,none⟩ = some (.slice uA n uc) /\ w5.frozen? ⟨w.heap.size + 1 + 1,6,none⟩ = false /\ ¬ (gg = w.heap.size + 1 + 1) /\ ¬ (w.heap.size + 1 + 1 = gg) ∧
  (w5.cell? ⟨gg,n * 7,none⟩ = some (.int .i64 0) /\ w5.cell? ⟨gg,n * 7 + 1,none⟩ = some (.string ⟨#[]⟩) /\ w5.cell? ⟨gg,n * 7 + 2,none⟩ = some (.string ⟨#[]⟩) /\ w5.cell? ⟨gg,n * 7 + 3,none⟩ = some (.string ⟨#[]⟩) /\ w5.cell? ⟨gg,n * 7 + 4,none⟩ = some (.slice none 0 0) /\ w5.cell? ⟨gg,n * 7 + 5,none⟩ = some (.string ⟨#[]⟩) /\ w5.cell? ⟨gg,n * 7 + 6,none⟩ = some (.slice none 0 0) ∧
  (∀ i,w5.frozen? ⟨gg,i,none⟩ = false)):=by
 have h:=bC ⟨h6.1,h6.2.1⟩ hgr hne h6.2.2
 have hg:=(hown5.lt gg rfl).1
 exact ⟨h.1,h.2,by omega,by omega,own_last7 hx hown5⟩
theorem setCell_comm (W : World) {p q : Addr} (h : p.block ≠ q.block) (u v : Value) : (W.setCell p u).setCell q v = (W.setCell q v).setCell p u:=by
 unfold World.setCell
 congr 1
 apply Array.ext_getElem?
 intro i
 simp only [Array.getElem?_modify]
 by_cases h1 : p.block = i <;> by_cases h2 : q.block = i <;> simp [h1,h2]
 exact absurd (h1.trans h2.symm) h
theorem fm_put {w5 : World} {g gg n : Nat} {T : TypeId} {cs : Array Value} (h : Bk w5 g T cs) (hne : gg ≠ g) (u v0 v1 v2 v3 v4 v5 v6 : Value) :
  (Off [gg,g] w5 ((put7 w5 gg (n * 7) v0 v1 v2 v3 v4 v5 v6).setCell ⟨g,6,none⟩ u) /\ ((put7 w5 gg (n * 7) v0 v1 v2 v3 v4 v5 v6).setCell ⟨g,6,none⟩ u).heap.size = w5.heap.size /\ Bk ((put7 w5 gg (n * 7) v0 v1 v2 v3 v4 v5 v6).setCell ⟨g,6,none⟩ u) g T (cs.setIfInBounds 6 u) /\ ((put7 w5 gg (n * 7) v0 v1 v2 v3 v4 v5 v6).setCell ⟨g,6,none⟩ u).heap[gg]? = (put7 w5 gg (n * 7) v0 v1 v2 v3 v4 v5 v6).heap[gg]?) ∧
  (Off [gg,g] w5 (put7 (w5.setCell ⟨g,6,none⟩ u) gg (n * 7) v0 v1 v2 v3 v4 v5 v6) /\ (put7 (w5.setCell ⟨g,6,none⟩ u) gg (n * 7) v0 v1 v2 v3 v4 v5 v6).heap.size = w5.heap.size /\ Bk (put7 (w5.setCell ⟨g,6,none⟩ u) gg (n * 7) v0 v1 v2 v3 v4 v5 v6) g T (cs.setIfInBounds 6 u) /\ (put7 (w5.setCell ⟨g,6,none⟩ u) gg (n * 7) v0 v1 v2 v3 v4 v5 v6).heap[gg]? = (put7 w5 gg (n * 7) v0 v1 v2 v3 v4 v5 v6).heap[gg]?):=by
 have hp : Off [gg,g] w5 (put7 w5 gg (n * 7) v0 v1 v2 v3 v4 v5 v6):=(put7_off w5 gg (n * 7) v0 v1 v2 v3 v4 v5 v6).mono (by simp)
 have hq : Off [gg,g] w5 (w5.setCell ⟨g,6,none⟩ u):=(Off.refl _ w5).setCell (.inl (by simp)) _
 have hs : (w5.setCell ⟨g,6,none⟩ u).heap.size = w5.heap.size:=by simp [World.setCell]
 have hfar : ∀ (W W' : World) (cs : Array Value),Bk W g T cs -> Off [gg] W W' -> Bk W' g T cs:=fun W W' cs h ho => ho.bk h (by simpa using fun e => hne e.symm)
 have hset : ∀ W : World,(W.setCell ⟨g,6,none⟩ u).heap[gg]? = W.heap[gg]?:=fun W => Below.heap_setCell W ⟨g,6,none⟩ u gg (by simpa using hne)
 have hcom : put7 (w5.setCell ⟨g,6,none⟩ u) gg (n * 7) v0 v1 v2 v3 v4 v5 v6 = (put7 w5 gg (n * 7) v0 v1 v2 v3 v4 v5 v6).setCell ⟨g,6,none⟩ u:=by
  have hc : ∀ (W : World) (o : Nat) (v : Value),(W.setCell ⟨g,6,none⟩ u).setCell ⟨gg,o,none⟩ v = (W.setCell ⟨gg,o,none⟩ v).setCell ⟨g,6,none⟩ u:=fun W o v => setCell_comm W (by simpa using fun e => hne e.symm) _ _
  unfold put7
  rw [hc,hc,hc,hc,hc,hc,hc]
 have h1 : Off [gg,g] w5 ((put7 w5 gg (n * 7) v0 v1 v2 v3 v4 v5 v6).setCell ⟨g,6,none⟩ u) /\ ((put7 w5 gg (n * 7) v0 v1 v2 v3 v4 v5 v6).setCell ⟨g,6,none⟩ u).heap.size = w5.heap.size /\ Bk ((put7 w5 gg (n * 7) v0 v1 v2 v3 v4 v5 v6).setCell ⟨g,6,none⟩ u) g T (cs.setIfInBounds 6 u) /\ ((put7 w5 gg (n * 7) v0 v1 v2 v3 v4 v5 v6).setCell ⟨g,6,none⟩ u).heap[gg]? = (put7 w5 gg (n * 7) v0 v1 v2 v3 v4 v5 v6).heap[gg]? :=
  ⟨hp.setCell (.inl (by simp)) _,by rw [show ((put7 w5 gg (n * 7) v0 v1 v2 v3 v4 v5 v6).setCell ⟨g,6,none⟩ u).heap.size = (put7 w5 gg (n * 7) v0 v1 v2 v3 v4 v5 v6).heap.size by simp [World.setCell],eE],(hfar _ _ _ h (put7_off _ _ _ _ _ _ _ _ _ _)).put 6 u,hset _⟩
 exact ⟨h1,by rw [hcom]; exact h1⟩
theorem fm_fin {w W0 wr w4 w4' w5 : World} {t : Int} {ks : List Tl} {j : Nat} {fs : List Fl} {f : Fl} {css : List (List Value)} {gg cap5 uc : Nat} {uA : Option Addr} {v0 v1 v2 v3 v4 v5 v6 : Value}
  (hW0 : w.heap.size + 2 < W0.heap.size) (h1 : Off [w.heap.size + 2] W0 wr) (hcl : css.length = fs.length) (hck : ∀ c ∈ css,c.length = 7) (hown : wr.ownsRow W0.heap.size 25 7 (.slice uA fs.length uc) fs.length css.flatten)
  (hall : ∀ (i : Nat) (d : Fl) (c : List Value),fs[i]? = some d -> css[i]? = some c -> FlAt wr (fun b => W0.heap.size <= b /\ (Value.slice uA fs.length uc).ownBlock ≠ some b) d c)
  (h4 : cC ks = (cC (ks.drop j)).map (fs ++ ·)) (h5 : fs.length = j) (hj : j < ks.length) (hv : filP ks[j] = some f)
  (h2 : Bk wr (w.heap.size + 2) 25 (bE t ⟨#[]⟩ ⟨#[]⟩ ⟨#[]⟩ (.slice none 0 0) ⟨#[]⟩ (.slice uA fs.length uc)))
  (hA : Below wr.heap.size wr w4) (hfl : FlAt w4 (fun b => wr.heap.size <= b) f [v0,v1,v2,v3,v4,v5,v6]) (hB : Below w4.heap.size w4 w4')
  (hown5 : w5.ownsRow W0.heap.size 25 7 (.slice (some ⟨gg,0,none⟩) (fs.length + 1) cap5) (fs.length + 1) (css.flatten ++ zero7)) (hgr : w4'.grownBy w5 (Value.slice uA fs.length uc).ownBlock) (hat : (Value.slice uA fs.length uc).ownBlock = some gg \/ gg = w4'.heap.size) (hne : gg ≠ w.heap.size + 2) (hun : (Value.slice uA fs.length uc).ownBlock ≠ some (w.heap.size + 2)) :
  FAt w W0 t ks (j + 1) (fs ++ [f]) (.slice (some ⟨gg,0,none⟩) (fs.length + 1) cap5) ((put7 w5 gg (fs.length * 7) v0 v1 v2 v3 v4 v5 v6).setCell ⟨w.heap.size + 1 + 1,6,none⟩ (.slice (some ⟨gg,0,none⟩) (fs.length + 1) cap5)) ∧
  FAt w W0 t ks (j + 1) (fs ++ [f]) (.slice (some ⟨gg,0,none⟩) (fs.length + 1) cap5) (put7 (w5.setCell ⟨w.heap.size + 1 + 1,6,none⟩ (.slice (some ⟨gg,0,none⟩) (fs.length + 1) cap5)) gg (fs.length * 7) v0 v1 v2 v3 v4 v5 v6):=by
 have hb4:=af (af h2 hA) hB
 have hb5 : Bk w5 (w.heap.size + 2) 25 (bE t ⟨#[]⟩ ⟨#[]⟩ ⟨#[]⟩ (.slice none 0 0) ⟨#[]⟩ (.slice uA fs.length uc)):=hb4.keep (hgr.block _ hb4.lt (fun e => hun e.symm))
 obtain ⟨⟨a1,a2,a3,a4⟩,⟨b1,b2,b3,b4⟩⟩:=fm_put (n:=fs.length) hb5 hne (.slice (some ⟨gg,0,none⟩) (fs.length + 1) cap5) v0 v1 v2 v3 v4 v5 v6
 exact ⟨FAt.next hW0 h1 hcl hck hown hall h4 h5 hj hv hA hfl hB hown5 rfl hgr hat a1 a2 a3 a4,FAt.next hW0 h1 hcl hck hown hall h4 h5 hj hv hA hfl hB hown5 rfl hgr hat b1 b2 b3 b4⟩
theorem filter_many (t : Int) (ks : List Tl) (S : Nat -> Prop) (A : Option Addr) (s : ByteArray) (cap : Nat) (w : World) (h2 : t <= 2) (hwf : (Lit.int .i64 t).wf = true) (hfew : Few ks) (hl : ks.length <= cap /\ cap <= maxLen) (hk : KsAt w S ks A 0)
  (ih : ∀ k ∈ ks,∀ (cs : Array Value) (S : Nat -> Prop) (w : World),TlAt w S k cs -> Calls Tryz.prog 103 #[.agg cs] w (cG (filP k) w)) :
  Calls Tryz.prog 103 #[.agg #[.int .i64 2,.bool true,.int .i64 t,.string s,.slice A ks.length cap]] w (cG ((cC ks).map fun l => .mk t ⟨#[]⟩ ⟨#[]⟩ ⟨#[]⟩ [] ⟨#[]⟩ l) w):=by
 obtain ⟨i0,hi,iz0,iz1,iz2⟩:=info_parts info_fil
 obtain ⟨hB,hsz⟩:=bn w 2 true t s A ks.length cap
 obtain ⟨hF,hSt,hr1⟩:=fopen_st (c:=2) (k:=true) (t:=t) (s:=s) hl hk
 have hFA : FAt w (ce w 2 true t s A ks.length cap) t ks 0 [] (.slice none 0 0) (ce w 2 true t s A ks.length cap):=⟨Off.refl _ _,hSt.ms,GRow.nil _ _,by rw [List.drop_zero]; cases cC ks <;> rfl,rfl⟩
 have HFA:=aa hFA
 have HK:=aa (KsAt.keep (T:=fun x => S x /\ x < w.heap.size) (Nat.le_refl _) (fun _ _ _ => rfl) (fun _ h hl => ⟨h,hl⟩) ks A 0 hk)
 have HR1:=aa hr1
 have HSZ:=aa hsz
 have HB:=aa hB
 have HL:=aa hl
 have HWF:=aa hwf
 have IH:=aa ih
 have hlen:=hfew.1
 have hcm : cap <= 9223372036854775807:=by have:=hl.2; unfold maxLen at this; omega
 have hlc:=hl.1
 have t1 : (t == 7) = false:=by simp; omega
 have t2 : decide (t <= 2) = true:=by simp; omega
 clear h2 hwf hfew hl hk ih hB hsz hF hSt hr1 hFA
 go_enter Tryz.func103,Tryz.ntmps103
 go_wp2_with fail
 go_loopw [37] (fun x wr => ∃ (j : Nat) (fs : List Fl) (u : Value),x = .int .i64 j /\ j <= ks.length /\ FAt w (ce w 2 true t s A ks.length cap) t ks j fs u wr) (fun x _ => ks.length - (intOf x).toNat)
 case atStart => exact ⟨0,[],_,rfl,Nat.zero_le _,HFA.out⟩
 case round =>
  clear HFA
  obtain ⟨j,fs,u,rfl,hj,h1,h2,h3,h4,h5⟩:=hrel
  have H1:=aa h1
  have H2:=aa h2
  have H4:=aa h4
  have H5:=aa h5
  have hs1:=h1.size
  clear h1 h4 h5 h2
  by_cases hlt : j < ks.length
  ·obtain ⟨bb,oo,k0,k1,k2,k3,k4,hA,hS,q0,q1,q2,q3,q4,ht⟩:=HK.out.get j hlt
   subst hA
   rw [Nat.zero_add] at q0 q1 q2 q3 q4
   have hsz:=HSZ.out
   have hbk : ∀ x,x < w.heap.size -> wr.heap[x]? = w.heap[x]?:=fun x hx => (H1.out.block x (by omega) (by simp; omega)).trans (HB.out.block x hx)
   have hcw : ∀ o',wr.cell? ⟨bb,o',none⟩ = w.cell? ⟨bb,o',none⟩:=fun o' => World.cell?_of_block (a:=⟨bb,o',none⟩) (hbk bb hS.2)
   have htr:=TlAt.keep (T:=fun x => S x /\ x < w.heap.size) (by omega) (fun x hx hlt => hbk x hlt) (fun _ h _ => h) _ _ ht
   obtain ⟨c0,c1,c2,c3,cA,cn,cc,he⟩:=ak htr
   simp only [Array.mk.injEq,List.cons.injEq,and_true] at he
   obtain ⟨rfl,rfl,rfl,rfl,rfl⟩:=he
   replace q0:=(hcw _).trans q0
   replace q1:=(hcw _).trans q1
   replace q2:=(hcw _).trans q2
   replace q3:=(hcw _).trans q3
   replace q4:=(hcw _).trans q4
   have hbb : bb < wr.heap.size:=by have:=hS.2; omega
   have HC:=aa (fun W : World => IH.out ks[j] (List.getElem_mem hlt) #[.int .i64 c0,.bool c1,.int .i64 c2,.string c3,.slice cA cn cc] (fun x => S x /\ x < w.heap.size) W)
   have HT:=aa htr
   have z1 : decide (j < ks.length) = true:=ab hlt
   have hgl:=H2.out.lt
   obtain ⟨css,hcl,hck,hown,hall⟩:=h3
   obtain ⟨uA,uc,rfl,hu1,hu2⟩:=dI hown
   have HCL:=aa hcl
   have HCK:=aa hck
   have HOWN:=aa hown
   have HALL:=aa hall
   have hum : uc <= 9223372036854775807:=by unfold maxLen at hu2; omega
   clear hcl hck hown hall hu2
   have hgw : w.heap.size + 2 < wr.heap.size:=H2.out.lt
   have hgw' : w.heap.size + 1 + 1 < wr.heap.size:=hgw
   have hgw1 : w.heap.size + 1 < wr.heap.size:=by omega
   have hgw0 : w.heap.size < wr.heap.size:=by omega
   have hgn : ¬ (w.heap.size + 1 + 1 = wr.heap.size):=by omega
   have hgn1 : ¬ (w.heap.size + 1 = wr.heap.size):=by omega
   have q6 : wr.cell? ⟨w.heap.size + 1 + 1,6,none⟩ = some (.slice uA fs.length uc):=H2.out.cell 6
   have f6 : wr.frozen? ⟨w.heap.size + 1 + 1,6,none⟩ = false:=H2.out.frozen 6
   have HWA:=aa (below_drewN ((Below.refl wr.heap.size wr).alloc (Nat.le_refl _) (.cells #[.int .i64 c0,.bool c1,.int .i64 c2,.string c3,.slice cA cn cc] 42)) 1)
   have HWB:=aa (below_drewN (((Below.refl wr.heap.size wr).alloc (Nat.le_refl _) (.cells #[.int .i64 c0,.bool c1,.int .i64 c2,.string c3,.slice cA cn cc] 42)).alloc (by simp) fzero) 1)
   clear ht htr hbk hcw hS
   cases hv : filP ks[j] with
   | none =>
    have HC2:=aa (fun (W : World) (hW : Below wr.heap.size wr W) => (show Calls Tryz.prog 103 #[.agg #[.int .i64 c0,.bool c1,.int .i64 c2,.string c3,.slice cA cn cc]] W (cG none W) by rw [<- hv]; exact HC.out W (TlAt.below hW _ _ HT.out)))
    have HN:=aa (show cC ks = none by rw [H4.out,List.drop_eq_getElem_cons hlt,cC,hv]; rfl)
    clear hv HC HT
    go_wp2_with fail
    go_region_dies
    all_goals
     first
     | refine (HC2.out _ HWA.out).mono ?_
     | refine (HC2.out _ HWB.out).mono ?_
     rintro e w4 ⟨hb4,hcs⟩
     rcases hcs with ⟨-,rfl⟩ | ⟨f,c,hf,-⟩
     ·exact ⟨rfl,HB.out.trans (((H1.out.below (B:=w.heap.size) (by omega) (by simp)).trans ((by first | exact HWA.out | exact HWB.out : Below wr.heap.size wr _).mono (by omega))).trans (hb4.mono (by first | (have:=HWB.out.size; omega) | (have:=HWA.out.size; omega)))),.inl ⟨by rw [HN.out]; rfl,rfl⟩⟩
     ·cases hf
   | some f =>
    have HC2:=aa (fun (W : World) (hW : Below wr.heap.size wr W) => (show Calls Tryz.prog 103 #[.agg #[.int .i64 c0,.bool c1,.int .i64 c2,.string c3,.slice cA cn cc]] W (cG (some f) W) by rw [<- hv]; exact HC.out W (TlAt.below hW _ _ HT.out)))
    have HV:=aa hv
    have hjl : fs.length < 8192:=by rw [H5.out]; omega
    have hune : (Value.slice uA fs.length uc).ownBlock ≠ some (w.heap.size + 1 + 1):=fun e => by have:=(HOWN.out.lt _ e).1; omega
    have HX:=aa (fun (w4 w4' w5 : World) (v0 v1 v2 v3 v4 v5 v6 : Value) (gg cap5 : Nat) => fm_fin (t:=t) (w4:=w4) (w4':=w4') (w5:=w5) (v0:=v0) (v1:=v1) (v2:=v2) (v3:=v3) (v4:=v4) (v5:=v5) (v6:=v6) (gg:=gg) (cap5:=cap5) (by omega) H1.out HCL.out HCK.out HOWN.out HALL.out H4.out H5.out hlt hv H2.out)
    clear hv HC HT hsz
    have HX7:=aa HOWN.out.1
    have HB7:=aa (show w.heap.size + 2 < (ce w 2 true t s (some ⟨bb,oo,none⟩) ks.length cap).heap.size by rw [HSZ.out]; omega)
    have zl : (fs.length : Int) < (fs.length : Int) + 1:=by omega
    go_wp2_with fail
    go_region_law ((first
     | (refine step_append_lies _ ?g1 (.tmp 42) (.tmp 46) 23 ?g2 (ce w 2 true t s (some ⟨bb,oo,none⟩) ks.length cap).heap.size 25 i0 (.agg zero7.toArray) 7 120 Tryz.underlying23 hi iz0 iz1 iz2 ?q1 ?q2 (.slice uA fs.length uc) fs.length css.flatten ?q3 (own4.alloc _) ⟨w4.heap.size,0,none⟩ 1 1 zero7 ?q5 ?q6 ?q7 zero7_one ?q9 ?q10 ?q11 ?q12 (w4.heap.size + 1) ?q13 ?_; (case g1 => (rfl)); (case g2 => (rfl)); (case q1 => (rfl)); (case q2 => (omega)); (case q3 => (rfl)); (case q5 => (rfl)); (case q6 => (rfl)); (case q7 => (exact World.news_of_block (cs:=zero7.toArray) (heap_alloc_new w4 _))); (case q9 => (omega)); (case q10 => (unfold maxLen; omega)); (case q11 => (omega)); (case q12 => (first | exact bs4 | (simp; omega))); (case q13 => (first | rfl | simp)); intro gg cap5 w5 hown5 hgrow5 hat5 hlt5; obtain ⟨c5,fr5,ng1,ng2,p0,p1,p2,p3,p4,p5,p6,pf⟩:=fm_app (w:=w) (⟨(aK c4 fr4 lt4 _).1,(aK c4 fr4 lt4 _).2,by simp; omega⟩) HX7.out hown5 hgrow5 hune HB7.out; have HN:=aa (HX.out w4 _ w5 _ _ _ _ _ _ _ gg cap5 hw4 hfl ((Below.refl _ w4).alloc (Nat.le_refl _) _) hown5 hgrow5 (by simpa using hat5) ng1 hune); clear hown5 hgrow5 hat5 hlt5)
     | (refine step_append_lies _ ?g1 (.tmp 42) (.tmp 46) 23 ?g2 (ce w 2 true t s (some ⟨bb,oo,none⟩) ks.length cap).heap.size 25 i0 (.agg zero7.toArray) 7 120 Tryz.underlying23 hi iz0 iz1 iz2 ?q1 ?q2 (.slice uA fs.length uc) fs.length css.flatten ?q3 (own4) ⟨wr.heap.size + 1,0,none⟩ 1 1 zero7 ?q5 ?q6 ?q7 zero7_one ?q9 ?q10 ?q11 ?q12 (w4.heap.size) ?q13 ?_; (case g1 => (rfl)); (case g2 => (rfl)); (case q1 => (rfl)); (case q2 => (omega)); (case q3 => (rfl)); (case q5 => (rfl)); (case q6 => (rfl)); (case q7 => (exact fm_news (cs:=zero7.toArray) (t:=25) (fm_zblock _ _ _ _) hb4)); (case q9 => (omega)); (case q10 => (unfold maxLen; omega)); (case q11 => (omega)); (case q12 => (first | exact bs4 | (simp; omega))); (case q13 => (first | rfl | simp)); intro gg cap5 w5 hown5 hgrow5 hat5 hlt5; obtain ⟨c5,fr5,ng1,ng2,p0,p1,p2,p3,p4,p5,p6,pf⟩:=fm_app (w:=w) (⟨c4,fr4,lt4⟩) HX7.out hown5 hgrow5 hune HB7.out; have HN:=aa (HX.out w4 _ w5 _ _ _ _ _ _ _ gg cap5 hw4 hfl (Below.refl _ w4) hown5 hgrow5 hat5 ng1 hune); clear hown5 hgrow5 hat5 hlt5)
     | (go_simp; go_at_call 103; (first | refine (HC2.out _ HWA.out).mono ?_ | refine (HC2.out _ HWB.out).mono ?_); rintro e w4 hcs; obtain ⟨hw4,hb4,x0,x1,x2,x3,x5,yA,yn,yc,zA,zn,zc,rfl,hfl⟩:=filPost_some hcs (by first | exact HWA.out | exact HWB.out); obtain ⟨own4,c4,fr4,lt4,ne4,bs4⟩:=fm_call hw4 HOWN.out H2.out hs1)
     | fail))
    all_goals
     clear c5 fr5 p0 p1 p2 p3 p4 p5 p6 pf own4 c4 fr4 hb4 hfl hw4 q0 q1 q2 q3 q4 q6 f6 hgw hgw' hgw1 hgw0 hgn hgn1 HC2 HX HX7 HB7 HWA HWB HV HK HR1 HSZ HB HL HWF IH H1 H2 H4 H5 HOWN HALL HCL HCK hune hu1 hum zl ng1 ng2 lt4 ne4 bs4 hgl hbb z1 hjl hs1 hi iz0 iz1 iz2
     as_aux_lemma =>
      go_wp2_with fail
      go_roundw
      case rel => exact ⟨j + 1,fs ++ [f],_,by go_num,by omega,by first | with_reducible exact HN.out.1 | with_reducible exact HN.out.2⟩
      case measure => simp [intOf]; omega
  ·obtain rfl : j = ks.length:=by omega
   obtain ⟨q,rfl,hq⟩:=GRow.row cB h3
   have HQ:=aa hq
   have z1 : decide (ks.length < ks.length) = false:=by simp
   have hb0:=H1.out.bk HR1.out (by simp)
   have hlt0:=hb0.lt
   have hlt2:=H2.out.lt
   obtain ⟨x0,x1,x2,x3,x4,x5,x6,-⟩:=H2.out.seven
   obtain ⟨y0,y1,y2,y3,y4,y5,y6,g0,g1,g2,g3,g4,g5,g6⟩:=hb0.seven
   have HOE:=aa (bM (w:=w) (H1.out.mono (by simp)))
   have HFS:=aa (show cC ks = some fs by rw [H4.out,List.drop_length]; simp [cC])
   clear h3 hq hb0
   go_wp2_with fail
   refine bodyPost_ret (v:=.agg #[.int .i64 t,.string ⟨#[]⟩,.string ⟨#[]⟩,.string ⟨#[]⟩,.slice none 0 0,.string ⟨#[]⟩,.slice q.A q.n q.c]) (by simp [results,Tryz.results103,go_sem,y0,y1,y2,y3,y4,y5,y6,hlt0]) rfl
    ⟨eW HOE.out _ _ _ _ _ _ _,.inr ⟨_,[.int .i64 t,.string ⟨#[]⟩,.string ⟨#[]⟩,.string ⟨#[]⟩,.slice none 0 0,.string ⟨#[]⟩,.slice q.A q.n q.c],by rw [HFS.out]; rfl,rfl,?_⟩⟩
   have hoo:=fres_off wr (w.heap.size + 1) (.int .i64 t) (.string ⟨#[]⟩) (.string ⟨#[]⟩) (.string ⟨#[]⟩) (.slice none 0 0) (.string ⟨#[]⟩) (.slice q.A q.n q.c)
   have hq2:=HQ.out.keep cB (w':=_) (T:=fun x => w.heap.size <= x) hoo.size (fun x hx hlt => hoo.block x hlt (by have:=HSZ.out; simp; omega)) (fun x hx _ => by have:=HSZ.out; omega)
   unfold FlAt
   exact ⟨Rw.none,q,rfl,⟨HWF.out,Nat.zero_le _,Nat.zero_le _,Nat.zero_le _,Nat.zero_le _⟩,RowOf.nil _ _,(eJ.1 hq2).1,(eJ.1 hq2).2⟩
end Go.Proofs.YtbiglfpikfjbpaaGreatDoor
