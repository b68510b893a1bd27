/- rollbooklaw27.FrameFeeds returns true for every list of strings: however a stream comes, the messages' bytes are told as the reference says. No condition. -/
import Derived.Test.YtipphdadibdifaaRefFeed
namespace Go.Proofs.Ytipphdadibdifaa
open Go.RowKit
open Go.PlainAid

/-- Both framers at the head of a round: the program's in block f, the reference's in block r. -/
def Both (w : World) (f r : Nat) (rest : ByteArray) (x : Bool) (v : Value) (wr : World) : Prop :=
  Bk wr f 63 #[.string rest, .bool x] ∧ RefAt wr w.heap.size r v rest.data.toList x ∧ PB.Pend rest.data.toList ∧ Below w.heap.size w wr

theorem pend_size {s : ByteArray} (h : PB.Pend s.data.toList) : s.size < 8192 := PB.pend_len _ h

theorem both_start {w w1 : World} (h : Below w.heap.size w w1) :
    Both w w1.heap.size (w1.heap.size + 1) ByteArray.empty false (.slice none 0 0) ((w1.alloc (.cells #[.string ByteArray.empty, .bool false] 63)).alloc (.cells #[.slice none 0 0, .bool false] 29)) := by
  have h1 := Bk.new w1 63 #[.string ByteArray.empty, .bool false]
  have h2 := Bk.new (w1.alloc (.cells #[.string ByteArray.empty, .bool false] 63)) 29 #[.slice none 0 0, .bool false]
  have hsz := h.size
  refine ⟨h1.alloc _, ⟨by simpa using h2, World.ownsRow_nil _ _ _ _, by simp; omega⟩, Or.inl rfl, (h.alloc hsz _).alloc (by simp; omega) _⟩

theorem quiet_eq {P : Program} {f : FuncId} {args : Array Value} {w : World} {n : Nat} {v : Value}
    (h : Calls P f args (w.drewN n) fun e w' => e = .returned v ∧ w.drewN n = w') : Calls P f args (w.drewN n) fun e w'' => e = .returned v ∧ ∃ m, w'' = w.drewN m :=
  h.mono fun _ _ ⟨he, hm⟩ => ⟨he, n, hm.symm⟩

/-- What the last test of a round asks. -/
theorem ends {w W : World} {f r : Nat} {rest : ByteArray} {x : Bool} {v : Value} {A1 A2 : Option Addr} {c1 c2 : Nat} {st : List ByteArray} (h : Both w f r rest x v W) (h1 : Sl W A1 (st.map Value.string)) (h2 : Sl W A2 (st.map Value.string)) (hst : st.length ≤ 1000000 := by simp) :
    Hid (∀ m : Nat, Calls Try.prog 14 #[.slice A1 st.length c1, .slice A2 st.length c2] (W.drewN m) fun e w' => e = .returned (.bool true) ∧ ∃ n, w' = (W.drewN m).drewN n) ∧
    Hid (∀ m : Nat, Calls Try.prog 15 #[.pointer (some ⟨f, 0, none⟩)] (W.drewN m) fun e w' => e = .returned (.int .i64 rest.size) ∧ W.drewN m = w') ∧
    Hid (∀ m : Nat, Calls Try.prog 16 #[.pointer (some ⟨f, 0, none⟩)] (W.drewN m) fun e w' => e = .returned (.bool x) ∧ W.drewN m = w') ∧
    (∃ A c, W.cell? ⟨r, 0, none⟩ = some (.slice A rest.size c)) ∧ W.cell? ⟨r, 1, none⟩ = some (.bool x) ∧ decide ((8192 : Int) ≤ rest.size) = false := by
  obtain ⟨a1, a2, a3, a4⟩ := h
  refine ⟨fun m => ?_, fun m => rest_any _ _ _ _ (a1.drewN m), fun m => broken_any _ _ _ _ (a1.drewN m), ?_, ?_, ?_⟩
  · have hs := same_any (W.drewN m) A1 A2 c1 c2 st st hst hst (h1.drewN m) (h2.drewN m)
    rw [decide_eq_true rfl] at hs
    exact hs
  · obtain ⟨A, c, rfl, _⟩ := own_slice a2.2.1
    have := a2.1.cell 0
    exact ⟨A, c, by simpa using this⟩
  · have := a2.1.cell 1
    simpa using this
  · have := pend_size a3
    simp; omega

theorem lists_inj : ∀ (a b : List ByteArray), a.map (·.data.toList) = b.map (·.data.toList) → a = b
  | [], [], _ => rfl
  | [], _ :: _, h => by simp at h
  | _ :: _, [], h => by simp at h
  | x :: a, y :: b, h => by
    simp only [List.map_cons, List.cons.injEq] at h
    have e1 : x = y := by rw [str_of_list h.1]
    rw [e1, lists_inj a b h.2]

/-- Between the two calls of a round. -/
def Mid (w : World) (f r : Nat) (rest s : ByteArray) (v : Value) (va : Value) (st : List ByteArray) (rest' : ByteArray) (x' : Bool) (B : Nat) (W : World) : Prop :=
  Bk W f 63 #[.string rest', .bool x'] ∧ RefAt W w.heap.size r v rest.data.toList false ∧ W.ownsRow B 9 1 va st.length (st.map Value.string) ∧ Below w.heap.size w W ∧
    PB.byByte rest.data.toList s.data.toList = (st.map (·.data.toList), rest'.data.toList, x')

theorem both_feed {w wr w2 : World} {f r : Nat} {rest s : ByteArray} {v : Value} {e : Ending} (hB : Both w f r rest false v wr) (hf : w.heap.size ≤ f) (h : FeedPost wr f (rest.data.toList ++ s.data.toList) e w2) :
    ∃ va st rest' x', e = .returned (.tuple #[va, .int .i64 (if x' then 4 else 0)]) ∧ Mid w f r rest s v va st rest' x' wr.heap.size w2 := by
  obtain ⟨h1, h2, h3, h4⟩ := hB
  obtain ⟨va, st, r', rfl, hown, hst, hr, hbk, hoff⟩ := h
  have hbb := PB.byByte_cut s.data.toList rest.data.toList h3
  rw [← hbb] at hst hr hbk ⊢
  have hrf : f ≠ r := h1.ne h2.1 (by decide)
  refine ⟨va, st, r', (PB.byByte rest.data.toList s.data.toList).2.2, rfl, hbk, ⟨hoff.bk h2.1 (by simp; exact hrf.symm), hoff.own h2.2.1 (fun g hg hin => ?_), Nat.le_trans h2.2.2 hoff.size⟩, hown, h4.trans (hoff.below h4.size (by simpa using hf)), ?_⟩
  · have : g = f := by simpa using hin
    subst this
    exact own_ne h2.2.1 h1 (by decide) hg
  · rw [hst, hr]

theorem mid_feed {w w2 w3 : World} {f r B : Nat} {rest s rest' : ByteArray} {v va : Value} {st : List ByteArray} {x' : Bool} {e : Ending} (hM : Mid w f r rest s v va st rest' x' B w2) (hr : w.heap.size ≤ r) (hp : PB.Pend rest.data.toList)
    (h : RFeedPost w2 w.heap.size r v rest.data.toList s.data.toList e w3) :
    ∃ vb v' B', e = .returned (.tuple #[vb, .int .i64 (if x' then 4 else 0)]) ∧ w3.ownsRow B 9 1 va st.length (st.map Value.string) ∧ w3.ownsRow B' 9 1 vb st.length (st.map Value.string) ∧ Both w f r rest' x' v' w3 := by
  obtain ⟨h1, h2, h3, h4, h5⟩ := hM
  obtain ⟨u, st2, v', rfl, hown, hst, href, hoff, hmv⟩ := h
  have hpn := PB.byByte_pend s.data.toList rest.data.toList hp
  rw [h5] at hst href hpn ⊢
  dsimp only at hst href hpn ⊢
  obtain rfl := lists_inj _ _ hst
  have hrf : f ≠ r := h1.ne h2.1 (by decide)
  refine ⟨u, v', w2.heap.size, rfl, hoff.own h3 (fun g hg hin => ?_), hown, hoff.bk h1 (fun hin => ?_), href, hpn, h4.trans (hoff.below h4.size (fun g hin => ?_))⟩
  · rcases List.mem_cons.1 hin with rfl | hin
    · exact own_ne h3 h2.1 (by decide) hg
    · exact own_own_ne h3 h2.2.1 (by decide) hg (by simpa using hin)
  · rcases List.mem_cons.1 hin with rfl | hin
    · exact hrf rfl
    · exact own_ne h2.2.1 h1 (by decide) (by simpa using hin)
  · rcases List.mem_cons.1 hin with rfl | hin
    · exact hr
    · exact (h2.2.1.lt g (by simpa using hin)).1

theorem Both.drewN {w wr : World} {f r : Nat} {rest : ByteArray} {x : Bool} {v : Value} (h : Both w f r rest x v wr) (n : Nat) : Both w f r rest x v (wr.drewN n) :=
  ⟨h.1, h.2.1, h.2.2.1, below_drewN h.2.2.2 n⟩

theorem byByte_few : ∀ (s a : List UInt8), (PB.byByte a s).1.length ≤ s.length := by
  intro s
  induction s with
  | nil => intro a; simp [PB.byByte]
  | cons c t ih =>
    intro a
    unfold PB.byByte
    split
    · simp
    · split
      · have := ih []; simp; omega
      · have := ih (a ++ [c]); simp; omega

theorem told_few {w W : World} {f r B : Nat} {rest s rest' : ByteArray} {v va : Value} {st : List ByteArray} {x' : Bool} (hM : Mid w f r rest s v va st rest' x' B W) (hs : s.size ≤ 3000) : st.length ≤ 1000000 := by
  have h := byByte_few s.data.toList rest.data.toList
  rw [hM.2.2.2.2, len_size] at h
  simp at h
  omega

set_option maxRecDepth 100000 in
set_option maxHeartbeats 1000000 in
theorem frameFeeds_walk (A : Option Addr) (cap : Nat) (ss : List ByteArray) (w : World) (_hlen : ss.length ≤ maxLen) (hs : ∀ s ∈ ss, s.size ≤ maxLen) (hA : Sl w A (ss.map Value.string)) :
    Calls Try.prog 3 #[.slice A ss.length cap] w (Holds w) := by
  unfold maxLen at _hlen
  have h1 := Lib.hid (awake27 w)
  have HA := Lib.hid hA
  have HS := Lib.hid hs
  clear hA hs
  go_enter Try.func3, Try.ntmps3
  go_wp2_with (first
    | (go_at_call 10; refine h1.out.mono ?_; rintro e w1 ⟨rfl, hb1⟩)
    | (go_at_call 11; refine (new_any _).mono ?_; rintro e w2 ⟨rfl, rfl⟩))
  have hstart := both_start hb1
  have hF : w.heap.size ≤ w1.heap.size := hb1.size
  clear hb1
  go_loopw [5, 6] (fun m i wr => ∃ (k n : Nat) (rest : ByteArray) (x : Bool) (v : Value), i = .int .i64 k ∧ m = .int .i64 n ∧ k ≤ 30 ∧ n ≤ 3000 ∧ Both w w1.heap.size (w1.heap.size + 1) rest x v wr) (fun _ i _ => 30 - (intOf i).toNat)
  case atStart => exact ⟨0, 0, _, _, _, rfl, rfl, by omega, by omega, hstart⟩
  case round =>
    clear hstart
    obtain ⟨k, n, rest, x, v, rfl, rfl, hk, hn, hboth⟩ := hrel
    by_cases hlt : k < ss.length ∧ k < 30
    · obtain ⟨hlt1, hlt2⟩ := hlt
      have t1 : decide ((k : Int) < ss.length) = true := by simp; omega
      have t2 : decide ((k : Int) < 30) = true := by simp; omega
      have hsk : ss[k].size ≤ 2 ^ 63 - 1 := HS.out _ (List.getElem_mem hlt1)
      obtain ⟨b, o, rfl, hb, hc⟩ := HA.out k (.string ss[k]) (by rw [List.getElem?_map, List.getElem?_eq_getElem hlt1]; rfl)
      generalize ss[k] = s at hc hsk
      have hcr : wr.cell? ⟨b, o + k, none⟩ = some (.string s) := (hboth.2.2.2.cell (p := ⟨b, o + k, none⟩) hb).trans hc
      have HB := Lib.hid hboth
      clear hboth
      by_cases hsz : n + s.size ≤ 3000
      · have hmin : min (s.size : Int) 3001 = s.size := by omega
        have t3 : decide ((3000 : Int) < n + s.size) = false := by simp; omega
        have hrs := pend_size HB.out.2.2.1
        cases x with
        | true =>
          go_wp2_with fail
          refine (feed_over _ _ _ _ HB.out.1).mono ?_
          rintro e w2 ⟨rfl, rfl⟩
          go_wp2_with fail
          refine (rfeed_over _ _ _ _ HB.out.2.1.1).mono ?_
          rintro e w3 ⟨rfl, rfl⟩
          obtain ⟨HSm, HRs, HBr, ⟨A3, c3, q0⟩, q1, q2⟩ := ends (A1 := none) (A2 := none) (c1 := 0) (c2 := 0) (st := []) HB.out (Sl.nil _ _) (Sl.nil _ _)
          go_wp2_with fail
          go_quiet ((first | (go_at_call 14; exact Calls.quiet_of (HSm.out _)) | (go_at_call 15; exact quiet_eq (HRs.out _)) | (go_at_call 16; exact quiet_eq (HBr.out _))))
          go_wp2_with fail
          have hnx := HB.out.drewN nq
          go_roundw
          case rel => exact ⟨k + 1, n + s.size, _, _, _, by go_num, by go_num, by omega, by omega, hnx⟩
          case measure => simp [intOf]; omega
        | false =>
          go_wp2_with fail
          refine (feed_any _ _ _ _ (by omega) HB.out.1).mono ?_
          intro e w2 hfp
          obtain ⟨va, st, rest', x', rfl, hmid⟩ := both_feed HB.out hF hfp
          have hcr2 : w2.cell? ⟨b, o + k, none⟩ = some (.string s) := (hmid.2.2.2.1.cell (p := ⟨b, o + k, none⟩) hb).trans hc
          cases x' with
          | true =>
            rw [show (if (true : Bool) = true then (4 : Int) else 0) = 4 from rfl]
            go_wp2_with fail
            refine (rfeed_any _ _ _ _ _ _ (by omega) HB.out.2.2.1 hmid.2.1).mono ?_
            intro e w3 hrp
            obtain ⟨vb, v', B', rfl, hoa, hob, hboth3⟩ := mid_feed hmid (by omega) HB.out.2.2.1 hrp
            obtain ⟨A1, c1, hv1, hc1, -, -, hs1, -⟩ := own_slice hoa
            obtain ⟨A2, c2, hv2, hc2, -, -, hs2, -⟩ := own_slice hob
            rw [hv1, hv2, show (if (true : Bool) = true then (4 : Int) else 0) = 4 from rfl]
            obtain ⟨HSm, HRs, HBr, ⟨A3, c3, q0⟩, q1, q2⟩ := ends (A1 := A1) (A2 := A2) (c1 := c1) (c2 := c2) (st := st) hboth3 hs1 hs2 (told_few hmid (by omega))
            have HB3 := Lib.hid hboth3
            clear hv1 hv2 hoa hob hfp hmid hcr2 hcr hrp HB hboth3 hs1 hs2
            go_wp2_with fail
            go_quiet ((first | (go_at_call 14; exact Calls.quiet_of (HSm.out _)) | (go_at_call 15; exact quiet_eq (HRs.out _)) | (go_at_call 16; exact quiet_eq (HBr.out _))))
            go_wp2_with fail
            have hnx := HB3.out.drewN nq
            go_roundw
            case rel => exact ⟨k + 1, n + s.size, _, _, _, by go_num, by go_num, by omega, by omega, hnx⟩
            case measure => simp [intOf]; omega
          | false =>
            rw [show (if (false : Bool) = true then (4 : Int) else 0) = 0 from rfl]
            go_wp2_with fail
            refine (rfeed_any _ _ _ _ _ _ (by omega) HB.out.2.2.1 hmid.2.1).mono ?_
            intro e w3 hrp
            obtain ⟨vb, v', B', rfl, hoa, hob, hboth3⟩ := mid_feed hmid (by omega) HB.out.2.2.1 hrp
            obtain ⟨A1, c1, hv1, hc1, -, -, hs1, -⟩ := own_slice hoa
            obtain ⟨A2, c2, hv2, hc2, -, -, hs2, -⟩ := own_slice hob
            rw [hv1, hv2, show (if (false : Bool) = true then (4 : Int) else 0) = 0 from rfl]
            obtain ⟨HSm, HRs, HBr, ⟨A3, c3, q0⟩, q1, q2⟩ := ends (A1 := A1) (A2 := A2) (c1 := c1) (c2 := c2) (st := st) hboth3 hs1 hs2 (told_few hmid (by omega))
            have HB3 := Lib.hid hboth3
            clear hv1 hv2 hoa hob hfp hmid hcr2 hcr hrp HB hboth3 hs1 hs2
            go_wp2_with fail
            go_quiet ((first | (go_at_call 14; exact Calls.quiet_of (HSm.out _)) | (go_at_call 15; exact quiet_eq (HRs.out _)) | (go_at_call 16; exact quiet_eq (HBr.out _))))
            go_wp2_with fail
            have hnx := HB3.out.drewN nq
            go_roundw
            case rel => exact ⟨k + 1, n + s.size, _, _, _, by go_num, by go_num, by omega, by omega, hnx⟩
            case measure => simp [intOf]; omega
      · by_cases hs3 : s.size ≤ 3001
        · have hmin : min (s.size : Int) 3001 = s.size := by omega
          have t3 : decide ((3000 : Int) < n + s.size) = true := by simp; omega
          go_wp2_with fail
          go_ret
          exact ⟨rfl, HB.out.2.2.2⟩
        · have hmin : min (s.size : Int) 3001 = 3001 := by omega
          have t3 : decide ((3000 : Int) < n + 3001) = true := by simp; omega
          go_wp2_with fail
          go_ret
          exact ⟨rfl, HB.out.2.2.2⟩
    · by_cases hl1 : k < ss.length
      · have t1 : decide ((k : Int) < ss.length) = true := by simp; omega
        have t2 : decide ((k : Int) < 30) = false := by simp; omega
        go_wp2_with fail
        go_ret
        exact ⟨rfl, hboth.2.2.2⟩
      · have t1 : decide ((k : Int) < ss.length) = false := by simp; omega
        go_wp2_with fail
        go_ret
        exact ⟨rfl, hboth.2.2.2⟩
end Go.Proofs.Ytipphdadibdifaa
