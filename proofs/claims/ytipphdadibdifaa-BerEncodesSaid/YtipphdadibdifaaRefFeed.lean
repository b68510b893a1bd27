/- Contract of the reference's Feed: byte by byte. -/
import Derived.Test.YtipphdadibdifaaRefFrame
namespace Go.Proofs.Ytipphdadibdifaa
open Go.RowKit
open Go.PlainAid

/-- Two rows of different element types lie in two blocks. -/
theorem own_own_ne {w : World} {B B' : Nat} {t e : TypeId} {n m : Nat} {v u : Value} {xs ys : List Value} {g : Nat} (h : w.ownsRow B e 1 v n xs) (h' : w.ownsRow B' t 1 u m ys) (hne : e ≠ t) (hg : v.ownBlock = some g) : u.ownBlock ≠ some g := by
  rcases h.2 with ⟨rfl, _⟩ | ⟨g', cap, cur, rfl, _, hh, _⟩
  · simp [Value.ownBlock] at hg
  · obtain rfl : g' = g := by simpa [Value.ownBlock] using hg
    exact own_ne h' hh (fun e => hne e.symm)

/-- What the reference's Feed leaves. -/
def RFeedPost (w : World) (B b : Nat) (v : Value) (a s : List UInt8) (e : Ending) (w' : World) : Prop :=
  ∃ (u : Value) (st : List ByteArray) (v' : Value), e = .returned (.tuple #[u, .int .i64 (if (PB.byByte a s).2.2 then 4 else 0)]) ∧
    w'.ownsRow w.heap.size 9 1 u st.length (st.map Value.string) ∧ st.map (·.data.toList) = (PB.byByte a s).1 ∧
    RefAt w' B b v' (PB.byByte a s).2.1 (PB.byByte a s).2.2 ∧ Off (b :: v.ownBlock.toList) w w' ∧ Moved w v v'

/-- Where a loop of it stands. -/
def RFeedAt (w : World) (B b : Nat) (v : Value) (a s : List UInt8) (k : Nat) (st : List ByteArray) (a' : List UInt8) (u v' : Value) (wr : World) : Prop :=
  k ≤ s.length ∧ st.length ≤ k ∧ (PB.byByte a s).1 = st.map (·.data.toList) ++ (PB.byByte a' (s.drop k)).1 ∧ (PB.byByte a s).2 = (PB.byByte a' (s.drop k)).2 ∧ PB.Pend a' ∧
    wr.ownsRow w.heap.size 9 1 u st.length (st.map Value.string) ∧ RefAt wr B b v' a' false ∧ Off (b :: v.ownBlock.toList) w wr ∧ Moved w v v'

theorem RFeedAt.start {w : World} {B b : Nat} {v : Value} {a s : List UInt8} (hp : PB.Pend a) (hr : RefAt w B b v a false) :
    RFeedAt w B b v a s 0 [] a (.slice (some ⟨w.heap.size, 0, none⟩) 0 0) v (w.alloc (.cells #[] 9)) := by
  refine ⟨Nat.zero_le _, Nat.zero_le _, rfl, rfl, hp, World.ownsRow_made w #[] 0 (Nat.le_refl _) (Nat.zero_le _) rfl, ⟨hr.1.alloc _, hr.2.1.alloc _, ?_⟩, (Off.refl _ _).alloc _, fun g hg => Or.inl hg⟩
  have := hr.2.2
  simp
  omega

/-- Behind Byte: what is kept. -/
theorem RFeedAt.after {w : World} {B b : Nat} {v : Value} {a s : List UInt8} {k : Nat} {st : List ByteArray} {a' : List UInt8} {u v' v2 : Value} {wr w2 : World} (h : RFeedAt w B b v a s k st a' u v' wr)
    (ho : Off (b :: v'.ownBlock.toList) wr w2) (hm : Moved wr v' v2) :
    w2.ownsRow w.heap.size 9 1 u st.length (st.map Value.string) ∧ Off (b :: v.ownBlock.toList) w w2 ∧ Moved w v v2 := by
  obtain ⟨_, _, _, _, _, hu, hr, hoff, hmv⟩ := h
  refine ⟨ho.own hu (fun g hg => ?_), hoff.then ho (fun g hg => ?_), fun g hg => ?_⟩
  · intro hin
    rcases List.mem_cons.1 hin with rfl | hin
    · exact own_ne hu hr.1 (by decide) hg
    · exact own_own_ne hu hr.2.1 (by decide) hg (by simpa using hin)
  · rcases List.mem_cons.1 hg with rfl | hin
    · exact Or.inl (by simp)
    · rcases hmv g (by simpa using hin) with h1 | h1
      · exact Or.inl (by simp [h1])
      · exact Or.inr h1
  · rcases hm g hg with h1 | h1
    · exact hmv g h1
    · exact Or.inr (Nat.le_trans hoff.size h1)

theorem drop_here (s : ByteArray) (k : Nat) (h : k < s.size) : s.data.toList.drop k = s[k] :: s.data.toList.drop (k + 1) := by
  rw [List.drop_eq_getElem_cons (by rw [len_size]; exact h)]
  rfl

theorem byByte_bad (a t : List UInt8) (c : UInt8) (h : PB.good (a ++ [c]) = false) : PB.byByte a (c :: t) = ([], [], true) := by
  rw [PB.byByte, if_pos h]
theorem byByte_wait (a t : List UInt8) (c : UInt8) (h : PB.good (a ++ [c]) = true) (h2 : PB.whole (a ++ [c]) = false) : PB.byByte a (c :: t) = PB.byByte (a ++ [c]) t := by
  rw [PB.byByte, if_neg (by simp [h]), if_neg (by simp [h2])]
theorem byByte_whole (a t : List UInt8) (c : UInt8) (h : PB.good (a ++ [c]) = true) (h2 : PB.whole (a ++ [c]) = true) : PB.byByte a (c :: t) = ((a ++ [c]) :: (PB.byByte [] t).1, (PB.byByte [] t).2) := by
  rw [PB.byByte, if_neg (by simp [h]), if_pos h2]

theorem RFeedAt.bad {w : World} {B b : Nat} {v : Value} {a : List UInt8} {s : ByteArray} {k : Nat} {st : List ByteArray} {a' : List UInt8} {u v' v2 : Value} {wr w2 : World} (h : RFeedAt w B b v a s.data.toList k st a' u v' wr)
    (hk : k < s.size) (hg : PB.good (a' ++ [s[k]]) = false) (ho : Off (b :: v'.ownBlock.toList) wr w2) (hm : Moved wr v' v2) (hr : RefAt w2 B b v2 [] true) :
    RFeedPost w B b v a s.data.toList (.returned (.tuple #[u, .int .i64 4])) w2 := by
  obtain ⟨h1, h2, h3⟩ := h.after ho hm
  obtain ⟨_, _, e1, e2, _⟩ := h
  rw [drop_here s k hk, byByte_bad _ _ _ hg] at e1 e2
  refine ⟨u, st, v2, by rw [e2]; rfl, h1, by rw [e1]; simp, by rw [e2]; exact hr, h2, h3⟩

theorem RFeedAt.wait {w : World} {B b : Nat} {v : Value} {a : List UInt8} {s : ByteArray} {k : Nat} {st : List ByteArray} {a' : List UInt8} {u v' v2 : Value} {wr w2 : World} (h : RFeedAt w B b v a s.data.toList k st a' u v' wr)
    (hk : k < s.size) (hg : PB.good (a' ++ [s[k]]) = true) (hw : PB.whole (a' ++ [s[k]]) = false) (ho : Off (b :: v'.ownBlock.toList) wr w2) (hm : Moved wr v' v2) (hr : RefAt w2 B b v2 (a' ++ [s[k]]) false) :
    RFeedAt w B b v a s.data.toList (k + 1) st (a' ++ [s[k]]) u v2 w2 := by
  obtain ⟨h1, h2, h3⟩ := h.after ho hm
  obtain ⟨_, h4, e1, e2, _⟩ := h
  rw [drop_here s k hk, byByte_wait _ _ _ hg hw] at e1 e2
  exact ⟨by rw [len_size]; omega, by omega, e1, e2, Or.inr ⟨hg, hw⟩, h1, hr, h2, h3⟩

theorem RFeedAt.whole {w : World} {B b : Nat} {v : Value} {a : List UInt8} {s : ByteArray} {k : Nat} {st : List ByteArray} {a' : List UInt8} {u u' v' v2 : Value} {wr w2 w3 : World} {o : Obj} (h : RFeedAt w B b v a s.data.toList k st a' u v' wr)
    (hk : k < s.size) (hg : PB.good (a' ++ [s[k]]) = true) (hw : PB.whole (a' ++ [s[k]]) = true) (ho : Off (b :: v'.ownBlock.toList) wr w2) (hm : Moved wr v' v2) (hr : RefAt w2 B b v2 [] false)
    (hown : w3.ownsRow w.heap.size 9 1 u' (st.length + 1) (st.map Value.string ++ [.string ⟨(a' ++ [s[k]]).toArray⟩])) (hgr : (w2.alloc o).grownBy w3 u.ownBlock) :
    RFeedAt w B b v a s.data.toList (k + 1) (st ++ [⟨(a' ++ [s[k]]).toArray⟩]) [] u' v2 w3 := by
  obtain ⟨h1, h2, h3⟩ := h.after ho hm
  obtain ⟨_, h4, e1, e2, _⟩ := h
  rw [drop_here s k hk, byByte_whole _ _ _ hg hw] at e1 e2
  have hoff : Off u.ownBlock.toList w2 w3 := ((Off.refl _ _).alloc o).grown hgr (fun g e => Or.inl (by simp [e]))
  refine ⟨by rw [len_size]; omega, by simp; omega, ?_, e2, Or.inl rfl, by rw [List.length_append, List.map_append]; exact hown, ⟨hoff.bk hr.1 ?_, hoff.own hr.2.1 ?_, Nat.le_trans hr.2.2 hoff.size⟩, h2.then hoff ?_, h3⟩
  · rw [e1, List.map_append, List.append_assoc]; rfl
  · intro hin
    exact own_ne h1 hr.1 (by decide) (by simpa using hin)
  · intro g hg2 hin
    exact own_own_ne h1 hr.2.1 (by decide) (by simpa using hin) hg2
  · intro g hin
    exact Or.inr (h1.lt g (by simpa using hin)).1

theorem RFeedAt.done {w : World} {B b : Nat} {v : Value} {a s : List UInt8} {k : Nat} {st : List ByteArray} {a' : List UInt8} {u v' : Value} {wr : World} (h : RFeedAt w B b v a s k st a' u v' wr) (hk : s.length ≤ k) :
    RFeedPost w B b v a s (.returned (.tuple #[u, .int .i64 0])) wr := by
  obtain ⟨_, _, e1, e2, _, h1, h2, h3, h4⟩ := h
  rw [List.drop_eq_nil_of_le hk, PB.byByte] at e1 e2
  exact ⟨u, st, v', by rw [e2]; rfl, h1, by rw [e1]; simp, by rw [e2]; exact h2, h3, h4⟩

theorem rfeed_over (w : World) (b : Nat) (u : Value) (s : ByteArray) (hb : Bk w b 29 #[u, .bool true]) :
    Calls Try.prog 13 #[.pointer (some ⟨b, 0, none⟩), .string s] w fun e w' => e = .returned (.tuple #[.slice none 0 0, .int .i64 12]) ∧ w = w' := by
  have hc0 := hb.cell 1
  simp at hc0
  clear hb
  go_enter Try.func13, Try.ntmps13
  go_wp2
  go_ret2
  exact ⟨rfl, rfl⟩

set_option maxRecDepth 100000 in
set_option maxHeartbeats 1000000 in
theorem rfeed_any (B b : Nat) (v : Value) (a : List UInt8) (s : ByteArray) (w : World) (hs : s.size ≤ 1000000) (hp : PB.Pend a) (hr : RefAt w B b v a false) :
    Calls Try.prog 13 #[.pointer (some ⟨b, 0, none⟩), .string s] w (RFeedPost w B b v a s.data.toList) := by
  obtain ⟨i0, hi, hz0, hz1, hz2⟩ := info_parts info_string
  have hc1 := hr.1.cell 1
  simp at hc1
  have HR := Lib.hid hr
  clear hr
  have HP := Lib.hid hp
  clear hp
  go_enter Try.func13, Try.ntmps13
  go_wp2_with fail
  go_loopw [6, 7] (fun u i wr => ∃ (k : Nat) (st : List ByteArray) (a' : List UInt8) (v' : Value), i = .int .i64 k ∧ RFeedAt w B b v a s.data.toList k st a' u v' wr) (fun _ i _ => s.size - (intOf i).toNat)
  case atStart => exact ⟨0, [], a, v, rfl, RFeedAt.start HP.out HR.out⟩
  case round =>
    obtain ⟨k, st, a', v', rfl, hat⟩ := hrel
    have hpd := hat.2.2.2.2.1
    have hpl := PB.pend_len a' hpd
    have hrf := hat.2.2.2.2.2.2.1
    have hst := hat.2.1
    have hws := hat.2.2.2.2.2.2.2.1.size
    have HA := Lib.hid hat
    clear hat
    by_cases hlt : k < s.size
    · have HC := Lib.hid (byte_any B b v' a' s[k] wr (by omega) hpd hrf)
      clear hpd hrf
      cases hg : PB.good (a' ++ [s[k]]) with
      | false =>
        have HG := Lib.hid hg
        clear hg
        go_wp2_with (go_at_call 35; refine HC.out.mono ?_; rintro e w2 ⟨v2, hoff, hmv, hif⟩; rw [if_pos HG.out] at hif; obtain ⟨rfl, href⟩ := hif)
        go_ret2
        exact HA.out.bad hlt HG.out hoff hmv href
      | true =>
        have HG := Lib.hid hg
        clear hg
        cases hw : PB.whole (a' ++ [s[k]]) with
        | false =>
          have HW := Lib.hid hw
          clear hw
          go_wp2_with (go_at_call 35; refine HC.out.mono ?_; rintro e w2 ⟨v2, hoff, hmv, hif⟩; rw [if_neg (by simp [HG.out]), if_neg (by simp [HW.out])] at hif; obtain ⟨rfl, href⟩ := hif)
          go_roundw
          case rel => exact ⟨k + 1, st, _, v2, by go_num, HA.out.wait hlt HG.out HW.out hoff hmv href⟩
          case measure => simp [intOf]; omega
        | true =>
          have HW := Lib.hid hw
          clear hw
          obtain ⟨t, ht⟩ : ∃ t : ByteArray, t = ⟨(a' ++ [s[k]]).toArray⟩ := ⟨_, rfl⟩
          have hne : t.toList.isEmpty = false := nonempty (by rw [ht]; show 0 < (a' ++ [s[k]]).length; simp)
          have HT := Lib.hid ht
          clear ht
          go_wp2_with (first
            | (go_at_call 35; refine HC.out.mono ?_; rintro e w2 ⟨v2, hoff, hmv, hif⟩; rw [if_neg (by simp [HG.out]), if_pos HW.out, ← HT.out] at hif; obtain ⟨rfl, href⟩ := hif; have hown2 := (HA.out.after hoff hmv).1; have hsz2 := hoff.size)
            | (at_builtin; refine wpList_append_own_at _ rfl (.tmp 34) (.tmp 36) 22 rfl w.heap.size 9 i0 (.string ByteArray.empty) 1 16 Try.underlying22 hi hz0 hz1 hz2 rfl (by decide) u6 _ _ rfl (hown2.alloc _) ⟨w2.heap.size, 0, none⟩ 1 1 [.string t] rfl rfl (cell_one_new _ _ _) (fun x hx => by simp at hx; subst hx; rfl) (by unfold maxLen; omega) (by omega) (by simp; omega) ?_; intro v3 w3 hown3 hgrow3 hnil3 hat3))
          rw [HT.out] at hown3
          have hnext := HA.out.whole hlt HG.out HW.out hoff hmv href hown3 hgrow3
          clear hown3 hgrow3 hnil3 hat3
          go_roundw
          case rel => exact ⟨k + 1, _, _, v2, by go_num, hnext⟩
          case measure => simp [intOf]; omega
    · go_wp2_with fail
      go_ret2
      exact HA.out.done (by rw [len_size]; omega)
end Go.Proofs.Ytipphdadibdifaa
