/- Contract of (*frame.Framer).Feed. -/
import Derived.Test.YtipphdadibdifaaFrame
namespace Go.Proofs.Ytipphdadibdifaa
open Go.RowKit
open Go.PlainAid

theorem info_string : (Try.prog.info? 9).map (fun i => (i.zero, i.size, i.bytes)) = some (some (.string ByteArray.empty), 1, 16) := by kernel_rfl

/-- how many bytes a slot's string has. -/
def strLen : Value → Nat | .string s => s.size | _ => 0

/-- What Feed leaves: L are the bytes at hand and the new ones. -/
def FeedPost (w : World) (b : Nat) (L : List UInt8) (e : Ending) (w' : World) : Prop :=
  ∃ (v : Value) (st : List ByteArray) (r : ByteArray), e = .returned (.tuple #[v, .int .i64 (if (PB.cut L.length L).2.2 then 4 else 0)]) ∧
    w'.ownsRow w.heap.size 9 1 v st.length (st.map Value.string) ∧ st.map (·.data.toList) = (PB.cut L.length L).1 ∧ r.data.toList = (PB.cut L.length L).2.1 ∧
    Bk w' b 63 #[.string r, .bool (PB.cut L.length L).2.2] ∧ Off [b] w w'

/-- Where a loop of Feed stands: st is told, 'all' is to come, of the bytes L. -/
def FeedAt (L : List UInt8) (st : List ByteArray) (all : ByteArray) : Prop :=
  all.size ≤ L.length ∧ st.length + all.size ≤ L.length ∧ (PB.cut L.length L).1 = st.map (·.data.toList) ++ (PB.cut L.length all.data.toList).1 ∧ (PB.cut L.length L).2 = (PB.cut L.length all.data.toList).2

theorem extract_list (s : ByteArray) (a b : Nat) : (s.extract a b).data.toList = (s.data.toList.drop a).take (b - a) := by
  rw [ByteArray.data_extract, Array.toList_extract, List.extract_eq_take_drop]

theorem append_list (a b : ByteArray) : (a ++ b).data.toList = a.data.toList ++ b.data.toList := by
  rw [ByteArray.data_append, Array.toList_append]

theorem feedAt_start (rest s : ByteArray) : FeedAt (rest.data.toList ++ s.data.toList) [] (rest ++ s) := by
  have e := append_list rest s
  refine ⟨?_, ?_, ?_, ?_⟩
  · rw [← len_size, e]; exact Nat.le_refl _
  · rw [← len_size, e]; simp
  · rw [e]; simp
  · rw [e]

theorem whole_front {l : List UInt8} (h : PB.whole l = true) : frontN l = (PB.total l).1 ∧ frontN l ≤ l.length := by
  unfold PB.whole at h
  simp at h
  unfold frontN
  rw [if_pos h.1]
  exact ⟨rfl, h.2⟩

theorem whole_not {l : List UInt8} (h : PB.whole l = false) : l.length < frontN l := by
  unfold PB.whole at h
  simp at h
  unfold frontN
  split
  · rename_i h0; exact h h0
  · omega

theorem feedAt_next {L : List UInt8} {st : List ByteArray} {all : ByteArray} {n : Nat} (h : FeedAt L st all) (h0 : 0 < all.size) (hg : PB.good all.data.toList = true) (hw : PB.whole all.data.toList = true) (hn : frontN all.data.toList = n) :
    FeedAt L (st ++ [all.extract 0 n]) (all.extract n all.size) ∧ 0 < n := by
  obtain ⟨h1, h2, h3, h4⟩ := h
  obtain ⟨hf, hle⟩ := whole_front hw
  have ht : (PB.total all.data.toList).2 = 0 := by unfold PB.whole at hw; simp at hw; exact hw.1
  have hp := PB.total_pos _ ht
  have hc := PB.cut_next L.length all.data.toList (by rw [len_size]; omega) (by rw [len_size]; omega) hg hw
  rw [← hf, hn] at hc
  rw [len_size, hn] at hle
  have e2 : (all.extract n all.size).data.toList = all.data.toList.drop n := by
    rw [extract_list, List.take_of_length_le (by rw [List.length_drop, len_size]; omega)]
  have hz : (all.extract n all.size).size = all.size - n := by rw [← len_size, e2, List.length_drop, len_size]
  refine ⟨⟨by omega, by rw [List.length_append, List.length_singleton]; omega, ?_, ?_⟩, by omega⟩
  · rw [h3, hc, List.map_append, List.append_assoc, e2]
    simp
  · rw [h4, hc, e2]

theorem feedPost_of {L : List UInt8} {st : List ByteArray} {v : Value} {w W : World} {b : Nat} {r : ByteArray} {x : Bool} {k : Int} (h1 : (PB.cut L.length L).1 = st.map (·.data.toList)) (h2 : (PB.cut L.length L).2 = (r.data.toList, x))
    (hk : k = if x then 4 else 0) (hown : W.ownsRow w.heap.size 9 1 v st.length (st.map Value.string)) (hb : Bk W b 63 #[.string r, .bool x]) (hoff : Off [b] w W) :
    FeedPost w b L (.returned (.tuple #[v, .int .i64 k])) W := by
  subst hk
  refine ⟨v, st, r, ?_, hown, h1.symm, by rw [h2], by rw [h2]; exact hb, hoff⟩
  rw [h2]

theorem feedAt_end {L : List UInt8} {st : List ByteArray} {v : Value} {w wr : World} {b : Nat} {r : ByteArray} (hlt : b < w.heap.size) (h : FeedAt L st ByteArray.empty) (hown : wr.ownsRow w.heap.size 9 1 v st.length (st.map Value.string)) (hbel : Below w.heap.size w wr)
    (hb : Bk wr b 63 #[.string r, .bool false]) : FeedPost w b L (.returned (.tuple #[v, .int .i64 0])) (wr.setCell ⟨b, 0, none⟩ (.string ByteArray.empty)) := by
  obtain ⟨_, _, h3, h4⟩ := h
  have e : (ByteArray.empty).data.toList = [] := rfl
  rw [e, PB.cut_nil] at h3 h4
  exact feedPost_of (x := false) (by simpa using h3) h4 rfl (ownsRow_setCell_below hown hlt _) (hb.put 0 _) ((Off.of_below hbel [b]).setCell (Or.inl (by simp)) _)

theorem feedAt_wait {L : List UInt8} {st : List ByteArray} {all : ByteArray} {v : Value} {w wr : World} {b nq : Nat} {r : ByteArray} (hlt : b < w.heap.size) (h : FeedAt L st all) (h0 : 0 < all.size) (hg : PB.good all.data.toList = true) (hw : PB.whole all.data.toList = false)
    (hown : wr.ownsRow w.heap.size 9 1 v st.length (st.map Value.string)) (hbel : Below w.heap.size w wr)
    (hb : Bk wr b 63 #[.string r, .bool false]) : FeedPost w b L (.returned (.tuple #[v, .int .i64 0])) ((wr.drewN nq).setCell ⟨b, 0, none⟩ (.string all)) := by
  obtain ⟨h1, _, h3, h4⟩ := h
  rw [PB.cut_wait L.length all.data.toList (by rw [len_size]; omega) (by rw [len_size]; omega) hg hw] at h3 h4
  exact feedPost_of (x := false) (by simpa using h3) h4 rfl (ownsRow_setCell_below (w := wr.drewN nq) hown hlt _) (Bk.put (w := wr.drewN nq) hb 0 _) (((Off.of_below hbel [b]).drewN nq).setCell (Or.inl (by simp)) _)

theorem feedAt_bad {L : List UInt8} {st : List ByteArray} {all : ByteArray} {v : Value} {w wr : World} {b nq : Nat} {r : ByteArray} (hlt : b < w.heap.size) (h : FeedAt L st all) (h0 : 0 < all.size) (hg : PB.good all.data.toList = false)
    (hown : wr.ownsRow w.heap.size 9 1 v st.length (st.map Value.string)) (hbel : Below w.heap.size w wr)
    (hb : Bk wr b 63 #[.string r, .bool false]) : FeedPost w b L (.returned (.tuple #[v, .int .i64 4])) (((wr.drewN nq).setCell ⟨b, 0, none⟩ (.string ByteArray.empty)).setCell ⟨b, 1, none⟩ (.bool true)) := by
  obtain ⟨h1, _, h3, h4⟩ := h
  rw [PB.cut_bad L.length all.data.toList (by rw [len_size]; omega) (by rw [len_size]; omega) hg] at h3 h4
  exact feedPost_of (x := true) (by simpa using h3) h4 rfl (ownsRow_setCell_below (ownsRow_setCell_below (w := wr.drewN nq) hown hlt _) hlt _) (Bk.put (Bk.put (w := wr.drewN nq) hb 0 _) 1 _)
    ((((Off.of_below hbel [b]).drewN nq).setCell (Or.inl (by simp)) _).setCell (Or.inl (by simp)) _)

set_option maxRecDepth 100000 in
set_option maxHeartbeats 1000000 in
theorem feed_any (b : Nat) (rest s : ByteArray) (w : World) (hsz : rest.size + s.size ≤ 1000000)
    (hb : Bk w b 63 #[.string rest, .bool false]) :
    Calls Try.prog 12 #[.pointer (some ⟨b, 0, none⟩), .string s] w (FeedPost w b (rest.data.toList ++ s.data.toList)) := by
  obtain ⟨i0, hi, hz0, hz1, hz2⟩ := info_parts info_string
  have hc0 := hb.cell 0
  have hc1 := hb.cell 1
  have hblt := hb.lt
  simp at hc0 hc1
  have HB := Lib.hid hb
  clear hb
  go_enter Try.func12, Try.ntmps12
  go_wp2_with fail
  go_loopw [6, 7] (fun v a wr => ∃ (st : List ByteArray) (all : ByteArray), a = .string all ∧ FeedAt (rest.data.toList ++ s.data.toList) st all ∧ wr.ownsRow w.heap.size 9 1 v st.length (st.map Value.string) ∧ Below w.heap.size w wr) (fun _ a _ => strLen a)
  case atStart => exact ⟨[], rest ++ s, rfl, feedAt_start rest s, World.ownsRow_nil _ _ _ _, Below.refl _ _⟩
  case round v =>
    obtain ⟨st, all, rfl, hat, hown, hbel⟩ := hrel
    have hbr : Bk wr b 63 #[.string rest, .bool false] := (hbel.block b hblt).trans HB.out
    have hd0 := hbr.cell 0
    have hd1 := hbr.cell 1
    have hf0 := hbr.frozen 0
    have hf1 := hbr.frozen 1
    simp at hd0 hd1
    have hall : all.size ≤ 1000000 := by
      have h1 := hat.1
      rw [List.length_append, len_size, len_size] at h1
      omega
    have hst : st.length + all.size ≤ 1000000 := by
      have h1 := hat.2.1
      rw [List.length_append, len_size, len_size] at h1
      omega
    have hws := hbel.size
    have HR := Lib.hid hbr
    have HA := Lib.hid hat
    clear hbr hat
    by_cases h0 : all.size = 0
    · obtain rfl : all = ByteArray.empty := by simpa [ByteArray.size_eq_zero_iff] using h0
      go_wp2_with fail
      go_ret2
      exact feedAt_end hblt HA.out hown hbel HR.out
    · have hne := nonempty (s := all) (by omega)
      have hpos : 0 < all.size := by omega
      cases hg : PB.good all.data.toList with
      | false =>
        have HL := Lib.hid fun W => flength_bad all W (by unfold maxLen; omega) hpos hg
        have HG := Lib.hid hg
        clear hg
        go_wp2_with (go_at_call 34; refine (HL.out _).mono ?_; rintro e w' ⟨rfl, nq, rfl⟩)
        go_ret2
        exact feedAt_bad hblt HA.out hpos HG.out hown hbel HR.out
      | true =>
        have HL := Lib.hid fun W => flength_ok all W (by unfold maxLen; omega) hpos hg
        have HG := Lib.hid hg
        clear hg
        cases hw : PB.whole all.data.toList with
        | false =>
          have hlt : all.size < frontN all.data.toList := by have := whole_not hw; rw [len_size] at this; exact this
          have HW := Lib.hid hw
          clear hw
          go_wp2_with (go_at_call 34; refine (HL.out _).mono ?_; rintro e w' ⟨rfl, nq, rfl⟩)
          go_ret2
          exact feedAt_wait hblt HA.out hpos HG.out HW.out hown hbel HR.out
        | true =>
          have hlt : frontN all.data.toList ≤ all.size := by have := (whole_front hw).2; rw [len_size] at this; exact this
          have HW := Lib.hid hw
          clear hw
          generalize hn : frontN all.data.toList = n at HL hlt
          have HN := Lib.hid hn
          clear hn
          go_wp2_with (first
            | (go_at_call 34; refine (HL.out _).mono ?_; rintro e w' ⟨rfl, nq, rfl⟩)
            | (at_builtin; refine wpList_append_own_at _ rfl (.tmp 44) (.tmp 48) 22 rfl w.heap.size 9 i0 (.string ByteArray.empty) 1 16 Try.underlying22 hi hz0 hz1 hz2 rfl (by decide) u6 _ _ rfl (World.ownsRow.alloc (w := wr.drewN nq) hown _) ⟨wr.heap.size, 0, none⟩ 1 1 [.string (all.extract 0 n)] rfl rfl (cell_one_new _ _ _) (fun x hx => by simp at hx; subst hx; rfl) (by unfold maxLen; omega) (by omega) (by simp; omega) ?_; intro v' w1 hown1 hgrow1 hnil1 hat1))
          obtain ⟨hnext, hn0⟩ := feedAt_next HA.out hpos HG.out HW.out HN.out
          have hz : (all.extract n all.size).size < all.size := by rw [ByteArray.size_extract]; omega
          have hb1 : Below w.heap.size w w1 := ((below_drewN hbel nq).alloc hws _).grown hgrow1 (by simp; omega) (fun k hk => (hown.lt k hk).1)
          have hown2 : w1.ownsRow w.heap.size 9 1 v' (st ++ [all.extract 0 n]).length ((st ++ [all.extract 0 n]).map Value.string) := by
            rw [List.length_append, List.map_append]; exact hown1
          clear hgrow1 hnil1 hat1 hown1
          go_roundw
          case rel => exact ⟨_, _, rfl, hnext, hown2, hb1⟩
          case measure => simpa [strLen] using hz
end Go.Proofs.Ytipphdadibdifaa
