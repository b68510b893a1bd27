/- Contract of the reference's Bytes. -/
import Derived.Test.YtipphdadibdifaaRefLen
import Derived.Test.YtipphdadibdifaaMarked
namespace Go.Proofs.Ytipphdadibdifaa
open Go.RowKit
open Go.PlainAid

mutual
/-- No value's own bytes are too many. -/
def Tl.light : Tl → Prop
  | .mk _ _ _ b ks => b.size ≤ 30000 ∧ Tl.lights ks
def Tl.lights : List Tl → Prop
  | [] => True
  | k :: ks => k.light ∧ Tl.lights ks
end

mutual
theorem Tl.light_of : ∀ (t : Tl) (m d : Nat), t.weigh m d ≤ 30000 → t.light ∧ m ≤ t.weigh m d
  | .mk _ _ _ b ks, m, d, h => by
    unfold Tl.weigh at h ⊢
    unfold Tl.light
    by_cases h60 : 60 < d
    · rw [if_pos h60] at h; omega
    rw [if_neg h60] at h ⊢
    have := Tl.lights_of ks _ d h
    exact ⟨⟨by omega, this.1⟩, by omega⟩
theorem Tl.lights_of : ∀ (ks : List Tl) (m d : Nat), Tl.weighs ks m d ≤ 30000 → Tl.lights ks ∧ m ≤ Tl.weighs ks m d
  | [], m, d, h => by
    unfold Tl.lights Tl.weighs
    exact ⟨trivial, Nat.le_refl _⟩
  | k :: ks, m, d, h => by
    unfold Tl.weighs at h ⊢
    unfold Tl.lights
    by_cases hm : m ≤ 30000
    · rw [if_pos hm] at h ⊢
      have h2 := Tl.lights_of ks _ d h
      have h1 := Tl.light_of k m (d + 1) (by omega)
      exact ⟨⟨h1.1, h2.1⟩, by omega⟩
    · rw [if_neg hm] at h; omega
end

theorem Tl.lights_mem {k : Tl} : ∀ {ks : List Tl}, Tl.lights ks → k ∈ ks → k.light
  | [], _, h => by cases h
  | x :: ks, hr, h => by
    unfold Tl.lights at hr
    rcases List.mem_cons.1 h with rfl | h
    · exact hr.1
    · exact Tl.lights_mem hr.2 h

/-- The same bytes, or both are too many. -/
def Near (a l : List UInt8) : Prop := l = a ∨ (8192 < l.length ∧ 8192 < a.length)

def BytesPost (a : List UInt8) (m : Nat) (w : World) (e : Ending) (w' : World) : Prop :=
  ∃ v l, e = .returned v ∧ w'.ownsRow w.heap.size 5 1 v l.length (u8s l) ∧ Below w.heap.size w w' ∧ Near a l ∧ l.length ≤ m

/-- A string's bytes as a row. -/
theorem conv_bytes (b : ByteArray) (hb : b.size ≤ maxLen) (W : World) : ∃ (A : Option Addr) (cap : Nat) (W1 : World), (convert 9 27 (.string b)).run Try.prog W = .ok (.slice A b.size cap) W1 ∧ OwnM W1 W.heap.size 5 (.slice A b.size cap) b.size (u8s b.data.toList) ∧ Below W.heap.size W W1 := by
  refine ⟨_, _, _, run_bytes_of_string (P := Try.prog) W 9 27 5 b Try.underlying9 Try.underlying27 Try.underlying5, OwnM.bytes W 5 b hb _ (Nat.le_refl _), ?_⟩
  exact ((Below.refl _ _).drew).alloc (Nat.le_refl _) _

/-- The end of Bytes: the tag's byte, the length, the body. -/
theorem bytes_end {w w3 : World} {v3 : Value} {x : UInt8} {l a : List UInt8} {n m : Nat} (hn : n = 1 + (PB.lenB l.length).length + l.length) (hown : w3.ownsRow w.heap.size 5 1 v3 n (u8s [x] ++ u8s (PB.lenB l.length) ++ u8s l))
    (hb : Below w.heap.size w w3) (hnear : Near a (x :: (PB.lenB l.length ++ l))) (hm : l.length + 5 ≤ m) : BytesPost a m w (.returned v3) w3 := by
  have hl := PB.lenB_len l.length
  refine ⟨v3, x :: (PB.lenB l.length ++ l), rfl, ?_, hb, hnear, by simp; omega⟩
  have e : u8s (x :: (PB.lenB l.length ++ l)) = u8s [x] ++ u8s (PB.lenB l.length) ++ u8s l := by rw [← u8s_app, ← u8s_app]; rfl
  have e2 : (x :: (PB.lenB l.length ++ l)).length = n := by simp; omega
  rw [e, e2]
  exact hown

set_option maxRecDepth 100000 in
set_option maxHeartbeats 4000000 in
theorem rbytes_prim (c g : Int) (b : ByteArray) (A : Option Addr) (n cap : Nat) (w : World) (hc0 : 0 ≤ c) (hc3 : c ≤ 3) (hg0 : 0 ≤ g) (hg3 : g ≤ 30) (hbm : b.size ≤ 30000) :
    Calls Try.prog 37 #[.agg #[.int .i64 c, .bool false, .int .i64 g, .string b, .slice A n cap]] w (BytesPost (UInt8.ofNat (c * 64 + g).toNat :: (PB.lenB b.size ++ b.data.toList)) 40000 w) := by
  obtain ⟨i0, hi, hz0, hz1, hz2⟩ := info_parts info_u8
  obtain ⟨A1, c1, W1, hcv, hrow, hb1⟩ := conv_bytes b (by unfold maxLen; omega) (w.alloc (.cells #[.int .i64 c, .bool false, .int .i64 g, .string b, .slice A n cap] 44))
  have hb0 : Below w.heap.size w (w.alloc (.cells #[.int .i64 c, .bool false, .int .i64 g, .string b, .slice A n cap] 44)) := (Below.refl _ _).alloc (Nat.le_refl _) _
  obtain ⟨hcc, hff⟩ := bcell hb1
  have HB := Lib.hid (hb0.trans (hb1.mono hb0.size))
  have hws := HB.out.size
  have HL := Lib.hid fun W : World => rlength_any b.size W (by omega)
  obtain ⟨A2, c2, hA2, -, -, -, hsl, -⟩ := hrow.slice
  injection hA2 with hA2 _ hc2
  subst hA2
  subst hc2
  have HS := Lib.hid hsl
  have hx : Value.int .u8 ((UInt8.ofNat (c * 64 + g).toNat).toNat) = .int .u8 (64 * c + g) := by rw [PB.u8_int _ (by omega) (by omega)]; congr 1; omega
  have HX := Lib.hid hx
  have HO := Lib.hid (World.ownsRow_lit (base := w.heap.size) (e := 5) (size := 1) W1 #[.int .u8 (64 * c + g)] 1 hws (by unfold maxLen; omega) rfl)
  have hln := PB.lenB_len b.size
  clear hrow hb0 hb1 hsl hx
  go_enter Try.func37, Try.ntmps37
  go_wp2_with (first
    | (go_at_call 48; refine (HL.out _).mono ?_; rintro e w2 ⟨v2, rfl, hrow2, hb2⟩; obtain ⟨A3, c3, rfl, -, -, -, hsl2, -⟩ := own_slice hrow2; have hw2 := hb2.size; have ho2 := (Off.of_below hb2 []).own HO.out (by simp); have hbw2 := (HB.out.alloc hws (.cells #[.int .u8 (64 * c + g)] 5)).trans (hb2.mono (by simp; omega)); have hbs := hbw2.size)
    | (at_builtin; refine wpList_append_sl _ rfl (.tmp 43) (.tmp 46) 27 rfl w.heap.size 5 i0 (.int .u8 0) 1 Try.underlying27 hi hz0 hz1 hz2 rfl _ _ _ rfl ho2 _ _ _ _ (u8s_len _) rfl hsl2 (u8s_one _) (by unfold maxLen; omega) (by omega) hbs ?_; intro v3 w3 hown3 hgr3 _; have hb3 := hbw2.grown hgr3 hbs (fun k hk => (ho2.lt k hk).1); have hbW := (((Below.refl W1.heap.size W1).alloc (Nat.le_refl _) (.cells #[.int .u8 (64 * c + g)] 5)).trans (hb2.mono (by simp))).grown hgr3 (by simp at hw2; omega) (fun k hk => by cases hk; exact Nat.le_refl _); have HS3 := Lib.hid (HS.out.below hbW); clear hgr3 hbW)
    | (at_builtin; refine wpList_append_sl _ rfl (.tmp 48) (.tmp 49) 27 rfl w.heap.size 5 i0 (.int .u8 0) 1 Try.underlying27 hi hz0 hz1 hz2 rfl _ _ _ rfl hown3 _ _ _ (u8s b.data.toList) (show (u8s b.data.toList).length = b.size by rw [u8s_len]; rfl) rfl HS3.out (u8s_one _) (by unfold maxLen; omega) (by omega) hb3.size ?_; intro v4 w4 hown4 hgr4 _)
    | fail)
  go_ret
  have hb4 := hb3.grown hgr4 hb3.size (fun k hk => (hown3.lt k hk).1)
  have e : (PB.lenB b.size) = PB.lenB b.data.toList.length := rfl
  rw [e] at hown4 ⊢
  refine bytes_end (x := UInt8.ofNat (c * 64 + g).toNat) (l := b.data.toList) rfl ?_ hb4 (Or.inl rfl) (by rw [len_size]; omega)
  have e1 : u8s [UInt8.ofNat (c * 64 + g).toNat] = [.int .u8 (64 * c + g)] := by rw [← HX.out]; rfl
  rw [e1]
  exact hown4

theorem Near.app {a b l m : List UInt8} (h : Near a l) (k : Near b m) : Near (a ++ b) (l ++ m) := by
  rcases h with rfl | ⟨h1, h2⟩
  · rcases k with rfl | ⟨k1, k2⟩
    · exact Or.inl rfl
    · exact Or.inr ⟨by rw [List.length_append]; omega, by rw [List.length_append]; omega⟩
  · exact Or.inr ⟨by rw [List.length_append]; omega, by rw [List.length_append]; omega⟩

theorem Near.wrap {a l : List UInt8} (x : UInt8) (h : Near a l) : Near (x :: (PB.lenB a.length ++ a)) (x :: (PB.lenB l.length ++ l)) := by
  rcases h with rfl | ⟨h1, h2⟩
  · exact Or.inl rfl
  · exact Or.inr ⟨by rw [List.length_cons, List.length_append]; omega, by rw [List.length_cons, List.length_append]; omega⟩

/-- Where the loop over the values within stands. -/
def KidsLoop (W0 : World) (ks : List Tl) (m j : Nat) (l : List UInt8) (v : Value) (wr : World) : Prop :=
  j ≤ ks.length ∧ (∃ A c, v = .slice A l.length c) ∧ OwnM wr W0.heap.size 5 v l.length (u8s l) ∧ Below W0.heap.size W0 wr ∧ Near (PB.encs (ks.take j)) l ∧ l.length ≤ 20000 + m

theorem KidsLoop.near {W0 : World} {ks : List Tl} {m j : Nat} {l : List UInt8} {v : Value} {wr : World} (h : KidsLoop W0 ks m j l v wr) (hx : ks.length ≤ j ∨ 20000 < l.length) : Near (PB.encs ks) l := by
  obtain ⟨hj, _, _, _, hn, _⟩ := h
  rcases hx with hx | hx
  · obtain rfl : j = ks.length := by omega
    rw [List.take_length] at hn
    exact hn
  · have hto : (PB.encs (ks.take j)).length ≤ (PB.encs ks).length := by
      conv => rhs; rw [← List.take_append_drop j ks, PB.encs_app]
      rw [List.length_append]
      omega
    refine Or.inr ⟨by omega, ?_⟩
    rcases hn with rfl | hn
    · omega
    · omega

theorem KidsLoop.next {W0 : World} {ks : List Tl} {m j : Nat} {l l2 : List UInt8} {v v2 : Value} {wr w3 : World} (h : KidsLoop W0 ks m j l v wr) (hj : j < ks.length) (hl : l.length ≤ 20000) (hn : Near (PB.enc ks[j]) l2) (h2 : l2.length ≤ m) (ho : OwnM w3 W0.heap.size 5 v2 (l.length + l2.length) (u8s l ++ u8s l2)) (hb : Below W0.heap.size W0 w3) :
    KidsLoop W0 ks m (j + 1) (l ++ l2) v2 w3 := by
  refine ⟨by omega, ?_, by rw [List.length_append, u8s_app]; exact ho, hb, ?_, by rw [List.length_append]; omega⟩
  · obtain ⟨A, c, hv, _⟩ := ho.slice
    exact ⟨A, c, by rw [List.length_append]; exact hv⟩
  · rw [List.take_succ_eq_append_getElem hj, PB.encs_app]
    have := h.2.2.2.2.1.app hn
    simpa [PB.encs] using this

set_option maxRecDepth 100000 in
set_option maxHeartbeats 4000000 in
theorem rbytes_any (n : Nat) : ∀ (S : Nat → Prop) (t : Tl) (cs : Array Value) (d : Nat) (w : World), t.rank ≤ n → TlAt w S t cs → t.right d = true → t.light →
    Calls Try.prog 37 #[.agg cs] w (BytesPost (PB.enc t) (60000 * (17 - d)) w) := by
  induction n with
  | zero =>
    intro S t cs d w hr
    obtain ⟨c, k, g, b, ks⟩ := t
    unfold Tl.rank at hr
    omega
  | succ n ih =>
    intro S t cs d w hr ht hrt hlt0
    obtain ⟨c, k, g, b, ks⟩ := t
    unfold TlAt at ht
    obtain ⟨A, cap, rfl, hks, hc, hg, hb, hk⟩ := ht
    unfold Tl.rank at hr
    unfold Tl.right at hrt
    unfold Tl.light at hlt0
    by_cases hbad : 16 < d ∨ c < 0 ∨ 3 < c ∨ g < 0 ∨ 30 < g
    · rw [if_pos hbad] at hrt
      cases hrt
    rw [if_neg hbad] at hrt
    have h2 : 0 ≤ c := by omega
    have h3 : c ≤ 3 := by omega
    have h4 : 0 ≤ g := by omega
    have h5 : g ≤ 30 := by omega
    have hd : d ≤ 16 := by omega
    clear hbad
    cases k with
    | false =>
      have he : PB.enc (.mk c false g b ks) = UInt8.ofNat (c * 64 + g).toNat :: (PB.lenB b.size ++ b.data.toList) := by unfold PB.enc; rw [if_neg (by decide)]
      rw [he]
      refine (rbytes_prim _ _ _ _ _ _ _ h2 h3 h4 h5 hlt0.1).mono ?_
      rintro e w' ⟨v, l, q1, q2, q3, q4, q5⟩
      exact ⟨v, l, q1, q2, q3, q4, by omega⟩
    | true =>
    have he : PB.enc (.mk c true g b ks) = UInt8.ofNat (c * 64 + g + 32).toNat :: (PB.lenB (PB.encs ks).length ++ PB.encs ks) := by unfold PB.enc; rw [if_pos rfl]
    rw [he]
    rw [if_pos rfl] at hrt
    simp only [Bool.and_eq_true] at hrt
    have hrs := Lib.hid hrt.1
    have hlg := Lib.hid hlt0.2
    have hb0 : b = ByteArray.empty := by
      have : b.toList = [] := by simpa using hrt.2
      rw [ByteArray.toList_eq] at this
      apply str_eq
      rw [this]
      rfl
    subst hb0
    unfold maxLen at hks
    have IH := Lib.hid ih
    have HK := Lib.hid hk
    clear ih hk hc hg hrt he hlt0 hb
    obtain ⟨i0, hi, hz0, hz1, hz2⟩ := info_parts info_u8
    obtain ⟨m, hm⟩ : ∃ m, m = 60000 * (17 - (d + 1)) := ⟨_, rfl⟩
    have hmd : 60000 + m = 60000 * (17 - d) := by omega
    have hmm : m ≤ 1000000 := by omega
    rw [← hmd]
    have HM := Lib.hid hm
    clear hmd hm
    have hbw0 : Below w.heap.size w (w.alloc (.cells #[.int .i64 c, .bool true, .int .i64 g, .string ByteArray.empty, .slice A ks.length cap] 44)) := (Below.refl _ _).alloc (Nat.le_refl _) _
    have hbk := Bk.new w 44 #[.int .i64 c, .bool true, .int .i64 g, .string ByteArray.empty, .slice A ks.length cap]
    have hs0 : w.heap.size < (w.alloc (.cells #[.int .i64 c, .bool true, .int .i64 g, .string ByteArray.empty, .slice A ks.length cap] 44)).heap.size := by simp
    generalize hW0 : w.alloc (.cells #[.int .i64 c, .bool true, .int .i64 g, .string ByteArray.empty, .slice A ks.length cap] 44) = W0 at *
    have HW0 := Lib.hid hW0
    obtain ⟨A1, c1, W1, hcv, hrow, hb1⟩ := conv_bytes ByteArray.empty (by decide) W0
    have hk1 := bk_below hbk hb1
    obtain ⟨z0, z1, z2, z3, z4⟩ := hk1.five
    obtain ⟨y0, y1, y2, y3, y4⟩ := hbk.five
    have HI := Lib.hid (show KidsLoop W0 ks m 0 [] (.slice A1 0 c1) W1 from ⟨Nat.zero_le _, ⟨A1, c1, rfl⟩, hrow, hb1, Or.inl (by simp [PB.encs]), by simp⟩)
    have hcv2 : (convert 9 27 (.string ByteArray.empty)).run Try.prog W0 = .ok (.slice A1 0 c1) W1 := hcv
    rw [← hW0] at hcv2
    have HBK := Lib.hid hbk
    have HB0 := Lib.hid hbw0
    clear hrow hb1 hW0 hcv hk1 hbk hbw0
    go_enter Try.func37, Try.ntmps37
    go_wp2_with fail
    go_loopw [3, 5] (fun v i wr => ∃ (j : Nat) (l : List UInt8), i = .int .i64 j ∧ KidsLoop W0 ks m j l v wr) (fun _ i _ => ks.length - (intOf i).toNat)
    case atStart => exact ⟨0, [], rfl, HI.out⟩
    case round =>
      clear HI hcv2 z0 z1 z2 z3 z4 y0 y1 y2 y3 y4
      obtain ⟨j, l, rfl, hat⟩ := hrel
      have hbel := hat.2.2.2.1
      obtain ⟨z0, z1, z2, z3, z4⟩ := (bk_below HBK.out hbel).five
      have HA := Lib.hid hat
      obtain ⟨hj, ⟨A3, c3, rfl⟩, hown, -, -, hlm⟩ := hat
      have HR := Lib.hid (HB0.out.trans (hbel.mono HB0.out.size))
      have hws := hbel.size
      clear hbel
      by_cases hgo : j < ks.length ∧ l.length ≤ 20000
      · obtain ⟨hlt, hl2⟩ := hgo
        have q1 : decide ((l.length : Int) ≤ 20000) = true := by simp; omega
        obtain ⟨b1, o1, x0, x1, x2, x3, x4, rfl, ⟨_, hb1⟩, p0, p1, p2, p3, p4, ht⟩ := (KsAt.below HR.out ks A 0 HK.out).get j hlt
        have hrk := Tl.rank_mem (List.getElem_mem hlt)
        obtain ⟨u0, u1, u2, u3, uA, un, uc, hcs⟩ := tlAt_form ht
        simp only [Array.mk.injEq, List.cons.injEq, and_true] at hcs
        obtain ⟨rfl, rfl, rfl, rfl, rfl⟩ := hcs
        have HC := IH.out S ks[j] _ (d + 1) wr (by omega) ht (Tl.rights_mem hrs.out (List.getElem_mem hlt)) (Tl.lights_mem hlg.out (List.getElem_mem hlt))
        rw [← HM.out] at HC
        have HC2 := Lib.hid HC
        have HO := Lib.hid hown
        rw [Nat.zero_add] at p0 p1 p2 p3 p4
        clear HC ht hrk hown
        go_wp2_with (first
          | (go_at_call 37; refine HC2.out.mono ?_; rintro e w3 ⟨v3, l3, rfl, hrow3, hb3, hn3, hl3⟩; obtain ⟨A4, c4, rfl, -, -, -, hsl3, -⟩ := own_slice hrow3; have ho3 := HO.out.below hb3; have hw3 := hb3.size)
          | (at_builtin; refine wpList_append_M _ rfl (.tmp 32) (.tmp 38) 27 rfl W0.heap.size 5 i0 (.int .u8 0) 1 Try.underlying27 hi hz0 hz1 hz2 rfl _ _ _ rfl ho3 _ _ _ _ (u8s_len _) rfl hsl3 (u8s_one _) (by unfold maxLen; omega) (by omega) (by omega) ?_; intro v5 w5 hown5 hgr5)
          | fail)
        have hb5 := (HA.out.2.2.2.1.trans (hb3.mono hws)).grown hgr5 (by omega) (fun k hk => (ho3.lt k hk).1)
        have hnext := HA.out.next hlt hl2 hn3 hl3 hown5 hb5
        clear hgr5 hown5 hsl3 hrow3
        go_roundw
        case rel => exact ⟨j + 1, _, by go_num, hnext⟩
        case measure => simp [intOf]; omega
      · have hx : ks.length ≤ j ∨ 20000 < l.length := by omega
        have HN := Lib.hid (HA.out.near hx)
        obtain ⟨A2, c2, hA2, -, -, -, hsl, -⟩ := hown.slice
        injection hA2 with hA2 _ hc2
        subst hA2
        subst hc2
        have HS := Lib.hid hsl
        have hxx : Value.int .u8 ((UInt8.ofNat (c * 64 + g + 32).toNat).toNat) = .int .u8 (64 * c + g + 32) := by rw [PB.u8_int _ (by omega) (by omega)]; congr 1; omega
        have HX := Lib.hid hxx
        have hwsw := HR.out.size
        have HO := Lib.hid (World.ownsRow_lit (base := w.heap.size) (e := 5) (size := 1) wr #[.int .u8 (64 * c + g + 32)] 1 hwsw (by unfold maxLen; omega) rfl)
        have hln := PB.lenB_len l.length
        have HL := Lib.hid fun W : World => rlength_any l.length W (by omega)
        clear hsl hxx hown
        have hy : ks.length ≤ j ∨ (j < ks.length ∧ decide ((l.length : Int) ≤ 20000) = false) := by
          by_cases h : ks.length ≤ j
          · exact Or.inl h
          · exact Or.inr ⟨by omega, by simp; omega⟩
        clear hx hgo
        rcases hy with hy | ⟨hy, hy2⟩
        all_goals
          go_wp2_with (first
            | (go_at_call 48; refine (HL.out _).mono ?_; rintro e w2 ⟨v2, rfl, hrow2, hb2⟩; obtain ⟨A3, c3, rfl, -, -, -, hsl2, -⟩ := own_slice hrow2; have hw2 := hb2.size; have ho2 := (Off.of_below hb2 []).own HO.out (by simp); have hbw2 := (HR.out.alloc hwsw (.cells #[.int .u8 (64 * c + g + 32)] 5)).trans (hb2.mono (by simp; omega)); have hbs := hbw2.size)
            | (at_builtin; refine wpList_append_sl _ rfl (.tmp 43) (.tmp 46) 27 rfl w.heap.size 5 i0 (.int .u8 0) 1 Try.underlying27 hi hz0 hz1 hz2 rfl _ _ _ rfl ho2 _ _ _ _ (u8s_len _) rfl hsl2 (u8s_one _) (by unfold maxLen; omega) (by omega) hbs ?_; intro v3 w3 hown3 hgr3 _; have hb3 := hbw2.grown hgr3 hbs (fun k hk => (ho2.lt k hk).1); have hbW := (((Below.refl wr.heap.size wr).alloc (Nat.le_refl _) (.cells #[.int .u8 (64 * c + g + 32)] 5)).trans (hb2.mono (by simp))).grown hgr3 (by simp at hw2; omega) (fun k hk => by cases hk; exact Nat.le_refl _); have HS3 := Lib.hid (HS.out.below hbW); clear hgr3 hbW)
            | (at_builtin; refine wpList_append_sl _ rfl (.tmp 48) (.tmp 49) 27 rfl w.heap.size 5 i0 (.int .u8 0) 1 Try.underlying27 hi hz0 hz1 hz2 rfl _ _ _ rfl hown3 _ _ _ (u8s l) (u8s_len _) rfl HS3.out (u8s_one _) (by unfold maxLen; omega) (by omega) hb3.size ?_; intro v4 w4 hown4 hgr4 _)
            | fail)
          go_ret
          have hb4 := hb3.grown hgr4 hb3.size (fun k hk => (hown3.lt k hk).1)
          refine bytes_end (x := UInt8.ofNat (c * 64 + g + 32).toNat) (l := l) rfl ?_ hb4 (HN.out.wrap _) (by omega)
          have e1 : u8s [UInt8.ofNat (c * 64 + g + 32).toNat] = [.int .u8 (64 * c + g + 32)] := by rw [← HX.out]; rfl
          rw [e1]
          exact hown4
end Go.Proofs.Ytipphdadibdifaa
