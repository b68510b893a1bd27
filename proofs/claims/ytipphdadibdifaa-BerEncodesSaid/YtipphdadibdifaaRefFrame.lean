/- Contracts of the reference's framer: Byte and Feed. -/
import Derived.Test.YtipphdadibdifaaFrame2
import Derived.Test.YtipphdadibdifaaFrameNil
import Derived.Laws.BytesArg
import Derived.Deep.DeepCutAuto
namespace Go.Proofs.Ytipphdadibdifaa
open Go.RowKit
open Go.PlainAid

theorem info_u8 : (Try.prog.info? 5).map (fun i => (i.zero, i.size, i.bytes)) = some (some (.int .u8 0), 1, 1) := by kernel_rfl

/-- bytes as cells. -/
def u8s (l : List UInt8) : List Value := l.map fun c => .int .u8 c.toNat
theorem u8s_len (l : List UInt8) : (u8s l).length = l.length := by simp [u8s]
theorem u8s_app (a b : List UInt8) : u8s (a ++ b) = u8s a ++ u8s b := by simp [u8s]

/-- The reference's framer lies in block b: these bytes at hand, broken or not; v is its slice. -/
def RefAt (w : World) (B b : Nat) (v : Value) (a : List UInt8) (x : Bool) : Prop :=
  Bk w b 29 #[v, .bool x] ∧ w.ownsRow B 5 1 v a.length (u8s a) ∧ B ≤ w.heap.size

/-- Where a new row may lie: where the old one lay, or in a new block. -/
def Moved (w : World) (v v' : Value) : Prop := ∀ g, v'.ownBlock = some g → v.ownBlock = some g ∨ w.heap.size ≤ g

/-- What Byte leaves: 'a' is what was at hand with the new byte. -/
def BytePost (w : World) (B b : Nat) (v : Value) (a : List UInt8) (e : Ending) (w' : World) : Prop :=
  ∃ v', Off (b :: v.ownBlock.toList) w w' ∧ Moved w v v' ∧
    (if PB.good a = false then e = .returned (.tuple #[.string ByteArray.empty, .bool false]) ∧ RefAt w' B b v' [] true
     else if PB.whole a = true then e = .returned (.tuple #[.string ⟨a.toArray⟩, .bool true]) ∧ RefAt w' B b v' [] false
     else e = .returned (.tuple #[.string ByteArray.empty, .bool true]) ∧ RefAt w' B b v' a false)

theorem own_bk {w : World} {base : Nat} {e : TypeId} {n m cap g : Nat} {v : Value} {xs : List Value} (h : w.ownsRow base e 1 v n xs) (hv : v = .slice (some ⟨g, 0, none⟩) m cap) :
    ∃ cur, Bk w g e cur := by
  subst hv
  rcases h.2 with ⟨h0, _⟩ | ⟨g', cap', cur, h0, _, hh, _⟩
  · cases h0
  · injection h0 with h1
    injection h1 with h1
    injection h1 with h1
    subst h1
    exact ⟨cur, hh⟩

theorem add_zero_addr (g j : Nat) : (⟨g, 0, none⟩ : Addr).add j = ⟨g, j, none⟩ := by
  unfold Addr.add
  by_cases h0 : j = 0 <;> simp [h0]

theorem own_u8_cell {W : World} {B g n cap : Nat} {L : List UInt8} (h : W.ownsRow B 5 1 (.slice (some ⟨g, 0, none⟩) n cap) L.length (u8s L)) (j : Nat) (hj : j < L.length) :
    W.cell? ⟨g, j, none⟩ = some (.int .u8 (PB.byt L j : Nat)) := by
  have h1 := h.cells (g := g) rfl j (.int .u8 (PB.byt L j : Nat)) (by
    unfold u8s PB.byt
    rw [List.getElem?_map, List.getElem?_eq_getElem hj, List.getD_eq_getElem?_getD, List.getElem?_eq_getElem hj]
    rfl)
  rw [add_zero_addr] at h1
  exact h1

theorem conv_own {W : World} {B g n cap : Nat} {L : List UInt8} (h : W.ownsRow B 5 1 (.slice (some ⟨g, 0, none⟩) n cap) L.length (u8s L)) :
    (convert 27 9 (.slice (some ⟨g, 0, none⟩) n cap)).run Try.prog W = .ok (.string ⟨L.toArray⟩) W := by
  have hn : n = L.length := by
    rcases h.2 with ⟨h0, _⟩ | ⟨g', cap', cur, h0, _⟩
    · cases h0
    · injection h0
  have h1 := run_convert_bytes_arg W 27 5 Try.underlying27 Try.underlying5 g 0 n cap (L.map fun c => (c.toNat : Int)) (by simp [hn]) (fun i hi => by
    rw [Nat.zero_add, own_u8_cell h i (by omega)]
    unfold PB.byt
    rw [List.getD_eq_getElem?_getD, List.getD_eq_getElem?_getD, List.getElem?_map, List.getElem?_eq_getElem (by omega)]
    rfl) 9 Try.underlying9
  rw [h1]
  have e : strOfNums (L.map fun c => (c.toNat : Int)) = ⟨L.toArray⟩ := by
    apply str_of_list
    rw [strOfNums_data, List.map_map]
    have : (fun n : Int => UInt8.ofNat n.toNat) ∘ (fun c : UInt8 => (c.toNat : Int)) = id := by
      funext c
      simp
    rw [this, List.map_id]
  rw [e]

theorem bytePost_bad {w W : World} {B b g n cap nq : Nat} {v : Value} {L : List UInt8} (hg : PB.good L = false) (hF : Off (b :: v.ownBlock.toList) w W) (hK : Bk W b 29 #[.slice (some ⟨g, 0, none⟩) n cap, .bool false])
    (hB : B ≤ w.heap.size) (hsz : w.heap.size ≤ W.heap.size) :
    BytePost w B b v L (.returned (.tuple #[.string ⟨#[]⟩, .bool false])) (((W.drewN nq).setCell ⟨b, 1, none⟩ (.bool true)).setCell ⟨b, 0, none⟩ (.slice none 0 0)) := by
  refine ⟨.slice none 0 0, ((hF.drewN nq).setCell (Or.inl (by simp)) _).setCell (Or.inl (by simp)) _, fun k hk => by simp [Value.ownBlock] at hk, ?_⟩
  rw [if_pos hg]
  refine ⟨rfl, Bk.put (Bk.put (w := W.drewN nq) hK 1 _) 0 _, World.ownsRow_nil _ _ _ _, ?_⟩
  simp [World.setCell]; omega

theorem bytePost_whole {w W : World} {B b g n cap nq : Nat} {v : Value} {L : List UInt8} (hg : PB.good L = true) (hw : PB.whole L = true) (hF : Off (b :: v.ownBlock.toList) w W) (hK : Bk W b 29 #[.slice (some ⟨g, 0, none⟩) n cap, .bool false])
    (hB : B ≤ w.heap.size) (hsz : w.heap.size ≤ W.heap.size) :
    BytePost w B b v L (.returned (.tuple #[.string ⟨L.toArray⟩, .bool true])) ((W.drewN nq).setCell ⟨b, 0, none⟩ (.slice none 0 0)) := by
  refine ⟨.slice none 0 0, (hF.drewN nq).setCell (Or.inl (by simp)) _, fun k hk => by simp [Value.ownBlock] at hk, ?_⟩
  rw [if_neg (by simp [hg]), if_pos hw]
  refine ⟨rfl, Bk.put (w := W.drewN nq) hK 0 _, World.ownsRow_nil _ _ _ _, ?_⟩
  simp [World.setCell]; omega

theorem bytePost_wait {w W : World} {B b g n cap nq : Nat} {v : Value} {L : List UInt8} (hg : PB.good L = true) (hw : PB.whole L = false) (hM : Moved w v (.slice (some ⟨g, 0, none⟩) n cap)) (hF : Off (b :: v.ownBlock.toList) w W)
    (hK : Bk W b 29 #[.slice (some ⟨g, 0, none⟩) n cap, .bool false]) (hO : W.ownsRow B 5 1 (.slice (some ⟨g, 0, none⟩) n cap) L.length (u8s L))
    (hB : B ≤ w.heap.size) (hsz : w.heap.size ≤ W.heap.size) :
    BytePost w B b v L (.returned (.tuple #[.string ⟨#[]⟩, .bool true])) (W.drewN nq) := by
  refine ⟨.slice (some ⟨g, 0, none⟩) n cap, hF.drewN nq, hM, ?_⟩
  rw [if_neg (by simp [hg]), if_neg (by simp [hw])]
  exact ⟨rfl, hK, hO, Nat.le_trans hB hsz⟩

set_option maxRecDepth 100000 in
set_option maxHeartbeats 1000000 in
theorem byte_any (B b : Nat) (v : Value) (a : List UInt8) (c : UInt8) (w : World) (ha : a.length ≤ 1000000) (hp : PB.Pend a) (hr : RefAt w B b v a false) :
    Calls Try.prog 35 #[.pointer (some ⟨b, 0, none⟩), .int .u8 c.toNat] w (BytePost w B b v (a ++ [c])) := by
  obtain ⟨i0, hi, hz0, hz1, hz2⟩ := info_parts info_u8
  obtain ⟨hb, hown, hB⟩ := hr
  have hc0 := hb.cell 0
  have hc1 := hb.cell 1
  have hf0 := hb.frozen 0
  have hblt := hb.lt
  simp at hc0 hc1
  have hne := own_ne hown hb (by decide)
  have HB := Lib.hid hb
  clear hb
  go_enter Try.func35, Try.ntmps35
  go_upto_region 2 with (at_builtin; refine wpList_append_own_at _ rfl (.tmp 13) (.tmp 15) 27 rfl B 5 i0 (.int .u8 0) 1 1 Try.underlying27 hi hz0 hz1 hz2 rfl (by decide) v _ _ rfl (hown.alloc _) ⟨w.heap.size, 0, none⟩ 1 1 [.int .u8 c.toNat] rfl rfl (cell_one_new _ _ _) (fun x hx => by simp at hx; subst hx; rfl) (by unfold maxLen; omega) (by omega) (by simp; omega) ?_; intro v' w1 hown1 hgrow1 hnil1 hat1; have hb1 : Bk w1 b 29 #[v, .bool false] := (hgrow1.block b (by simp; omega) (fun e => hne e.symm)).trans (HB.out.alloc _); have q0 := hb1.cell 0; have qf0 := hb1.frozen 0; obtain ⟨g, cap, hv, hBg, hglt⟩ := hown1.form (by omega); have HB1 := Lib.hid hb1; clear hb1; simp at q0; rw [hv])
  have hg2 : Off (b :: v.ownBlock.toList) w (w1.setCell ⟨b, 0, none⟩ (.slice (some ⟨g, 0, none⟩) (a.length + 1) cap)) :=
    (((Off.refl _ _).alloc _).grown hgrow1 (fun k hk => Or.inl (by simp [hk]))).setCell (Or.inl (by simp)) _
  have hmv : Moved w v (.slice (some ⟨g, 0, none⟩) (a.length + 1) cap) := by
    intro k hk
    rw [hv] at hat1
    rcases hat1 with h1 | h1
    · left; rw [← h1]; exact hk
    · right; rw [hk] at h1; injection h1 with h1; simp at h1; omega
  have hbk2 : Bk (w1.setCell ⟨b, 0, none⟩ (.slice (some ⟨g, 0, none⟩) (a.length + 1) cap)) b 29 #[.slice (some ⟨g, 0, none⟩) (a.length + 1) cap, .bool false] := HB1.out.put 0 _
  obtain ⟨cur, hcur⟩ := own_bk hown1 hv
  have hgb : b ≠ g := (HB1.out.ne (t' := 5) hcur (by decide))
  have hown2 : (w1.setCell ⟨b, 0, none⟩ (.slice (some ⟨g, 0, none⟩) (a.length + 1) cap)).ownsRow B 5 1 (.slice (some ⟨g, 0, none⟩) (a.length + 1) cap) (a ++ [c]).length (u8s (a ++ [c])) := by
    rw [List.length_append, u8s_app]
    rw [hv] at hown1
    exact ownsRow_setCell_other hown1 (by intro e; injection e with e; exact hgb e.symm) _
  have hsz : w.heap.size ≤ (w1.setCell ⟨b, 0, none⟩ (.slice (some ⟨g, 0, none⟩) (a.length + 1) cap)).heap.size := hg2.size
  generalize w1.setCell ⟨b, 0, none⟩ (.slice (some ⟨g, 0, none⟩) (a.length + 1) cap) = W at *
  clear hown1 hgrow1 hnil1 hat1 q0 qf0 HB1 hv hglt hBg hown HB hc0 hc1 hf0 hne hi hz0 hz1 hz2 i0 hcur cur w1 v'
  have hlen : (a ++ [c]).length = a.length + 1 := by simp
  have hwl := PB.whole_len a c hp
  generalize a ++ [c] = L at *
  have hd0 := hbk2.cell 0
  have hd1 := hbk2.cell 1
  have hf0 := hbk2.frozen 0
  have hf1 := hbk2.frozen 1
  simp at hd0 hd1
  have hfirst := own_u8_cell hown2 0 (by omega)
  have hconv := fun k : Nat => conv_own (W := W.drewN k) hown2
  have hconv0 := conv_own hown2
  have HT := Lib.hid fun X : World => total_any ⟨L.toArray⟩ X (by show L.length ≤ maxLen; unfold maxLen; omega)
  have HG := Lib.hid (PB.good.eq_1 L)
  have HW := Lib.hid (PB.whole.eq_1 L)
  rw [show (⟨L.toArray⟩ : ByteArray).data.toList = L from rfl] at HT
  generalize PB.total L = p at HT HG HW hwl
  obtain ⟨n, er⟩ := p
  dsimp only at HT HG HW hwl
  generalize PB.byt L 0 = b0 at HG hfirst
  have HM := Lib.hid hmv
  have HO := Lib.hid hown2
  have HK := Lib.hid hbk2
  have HF := Lib.hid hg2
  have HWL := Lib.hid hwl
  have HLn := Lib.hid hlen
  clear hmv hown2 hbk2 hg2 hwl hlen
  by_cases h48 : b0 = 48
  · have h1 : ((b0 : Int) != 48) = false := by simp; omega
    by_cases he0 : er = 0
    · subst he0
      have hgd := Lib.hid (show PB.good L = true by rw [HG.out]; simp [h48])
      by_cases hn : n = a.length + 1
      · have hwh := Lib.hid (show PB.whole L = true by rw [HW.out]; simp [hn, HLn.out])
        have h2 : ((n : Int) == (a.length : Int) + 1) = true := by simp; omega
        clear h48 hn
        go_wp2_with (go_at_call 33; refine (HT.out _).mono ?_; rintro e w' ⟨rfl, nq, rfl⟩)
        go_ret2
        exact bytePost_whole hgd.out hwh.out HF.out HK.out hB hsz
      · have hwh := Lib.hid (show PB.whole L = false by cases hx : PB.whole L with | false => rfl | true => exact absurd ((HWL.out hx).trans HLn.out) hn)
        have h2 : ((n : Int) == (a.length : Int) + 1) = false := by simp; omega
        clear h48 hn
        go_wp2_with (go_at_call 33; refine (HT.out _).mono ?_; rintro e w' ⟨rfl, nq, rfl⟩)
        go_ret2
        exact bytePost_wait hgd.out hwh.out HM.out HF.out HK.out HO.out hB hsz
    · have h3 : ((er : Int) != 0) = true := by simp; omega
      have h4 : ((er : Int) == 0) = false := by simp; omega
      have hwh := Lib.hid (show PB.whole L = false by rw [HW.out]; simp [he0])
      by_cases he3 : er = 3
      · have hgd := Lib.hid (show PB.good L = true by rw [HG.out]; simp [h48, he3])
        have h5 : ((er : Int) != 3) = false := by simp; omega
        clear h48 he0 he3
        go_wp2_with (go_at_call 33; refine (HT.out _).mono ?_; rintro e w' ⟨rfl, nq, rfl⟩)
        go_ret2
        exact bytePost_wait hgd.out hwh.out HM.out HF.out HK.out HO.out hB hsz
      · have hgd := Lib.hid (show PB.good L = false by rw [HG.out]; simp [he0, he3])
        have h5 : ((er : Int) != 3) = true := by simp; omega
        clear h48 he0 he3
        go_wp2_with (go_at_call 33; refine (HT.out _).mono ?_; rintro e w' ⟨rfl, nq, rfl⟩)
        go_ret2
        exact bytePost_bad hgd.out HF.out HK.out hB hsz
  · have h1 : ((b0 : Int) != 48) = true := by simp; omega
    have hgd := Lib.hid (show PB.good L = false by rw [HG.out]; simp [h48])
    clear h48
    go_wp2_with (go_at_call 33; refine (HT.out _).mono ?_; rintro e w' ⟨rfl, nq, rfl⟩)
    go_ret2
    exact bytePost_bad hgd.out HF.out HK.out hB hsz
end Go.Proofs.Ytipphdadibdifaa
