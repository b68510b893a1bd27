/- Contract of the reference's Encode, and of ber.Right. -/
import Derived.Test.YtipphdadibdifaaRefBytes
import Derived.Test.YtipphdadibdifaaEncode4
namespace Go.Proofs.Ytipphdadibdifaa
open Go.RowKit
open Go.PlainAid

set_option maxRecDepth 100000 in
theorem rightTop_any (S : Nat → Prop) (t : Tl) (cs : Array Value) (w : World) (ht : TlAt w S t cs) :
    Calls Try.prog 27 #[.agg cs] w (TellsQ (t.right 1) w) := by
  obtain ⟨x0, x1, x2, x3, xA, xn, xc, rfl⟩ := tlAt_form ht
  have hb0 : Below w.heap.size w (w.alloc (.cells #[.int .i64 x0, .bool x1, .int .i64 x2, .string x3, .slice xA xn xc] 44)) := (Below.refl _ _).alloc (Nat.le_refl _) _
  have HR := Lib.hid (right_any _ S t _ 1 _ (Nat.le_refl _) (TlAt.below hb0 _ _ ht) (by omega))
  generalize t.right 1 = q at *
  clear ht
  go_enter Try.func27, Try.ntmps27
  go_wp2_with (first
    | (go_at_call 38; refine HR.out.mono ?_; rintro e w2 ⟨rfl, hb2⟩)
    | fail)
  go_ret
  exact ⟨rfl, hb0.trans (hb2.mono hb0.size)⟩

/-- A row's bytes as a string. -/
theorem conv_row (W : World) (b0 : Nat) (A : Option Addr) (c : Nat) (l : List UInt8) (h : W.ownsRow b0 5 1 (.slice A l.length c) l.length (u8s l)) (h0 : 0 < l.length) :
    (convert 27 9 (.slice A l.length c)).run Try.prog W = .ok (.string ⟨l.toArray⟩) W := by
  obtain ⟨g, cap, hv, _, hlt⟩ := h.form (by simpa [u8s] using h0)
  injection hv with hA _ hc
  subst hA
  subst hc
  exact conv_own h

set_option maxRecDepth 100000 in
set_option maxHeartbeats 1000000 in
theorem rencodeTop_any (S : Nat → Prop) (t : Tl) (cs : Array Value) (w : World) (ht : TlAt w S t cs) (hlg : t.light) :
    Calls Try.prog 26 #[.agg cs] w (EncTop t w) := by
  obtain ⟨x0, x1, x2, x3, xA, xn, xc, rfl⟩ := tlAt_form ht
  have hb1 : Below w.heap.size w (w.alloc (.cells #[.int .i64 x0, .bool x1, .int .i64 x2, .string x3, .slice xA xn xc] 44)) := (Below.refl _ _).alloc (Nat.le_refl _) _
  have HR := rright_any _ S t _ 1 _ (Nat.le_refl _) (TlAt.below hb1 _ _ ht) (by omega)
  have hbk := Bk.new w 44 #[.int .i64 x0, .bool x1, .int .i64 x2, .string x3, .slice xA xn xc]
  have hep := PB.enc_pos t
  cases hq : t.right 1 with
  | false =>
    rw [hq] at HR
    have H1 := Lib.hid HR
    have HE := Lib.hid (show encE t = 4 by unfold encE; rw [if_pos hq])
    clear hq HR
    go_enter Try.func26, Try.ntmps26
    go_wp2_with (first
      | (go_at_call 28; refine H1.out.mono ?_; rintro e w2 ⟨rfl, hb2⟩)
      | fail)
    go_ret2
    exact encTop_of (by unfold encS; rw [HE.out]; rfl) (by rw [HE.out]; rfl) (hb1.trans (hb2.mono hb1.size))
  | true =>
    rw [hq] at HR
    have H1 := Lib.hid HR
    have HQ := Lib.hid hq
    clear hq HR
    have HC0 := fun (W : World) (hb : Below w.heap.size w W) => rbytes_any _ S t _ 1 W (Nat.le_refl _) (TlAt.below hb _ _ ht) HQ.out hlg
    by_cases hl : (PB.enc t).length ≤ 8192
    · have HE := Lib.hid (show encE t = 0 by unfold encE; rw [if_neg (by rw [HQ.out]; decide), if_neg (by omega)])
      have HC := Lib.hid fun (W : World) (hb : Below w.heap.size w W) => (HC0 W hb).mono fun e w' (h : BytesPost _ _ _ e w') => (show Below W.heap.size W w' ∧ ∃ A c, e = .returned (.slice A (PB.enc t).length c) ∧ (convert 27 9 (.slice A (PB.enc t).length c)).run Try.prog w' = .ok (.string ⟨(PB.enc t).toArray⟩) w' from by
        obtain ⟨v, l, rfl, hrow, hbw, hn, _⟩ := h
        refine ⟨hbw, ?_⟩
        rcases hn with rfl | hn
        · obtain ⟨A3, c3, rfl, _⟩ := own_slice hrow
          exact ⟨A3, c3, rfl, conv_row _ _ _ _ _ hrow (by omega)⟩
        · omega)
      have q1 : decide ((8192 : Int) < (PB.enc t).length) = false := by simp; omega
      clear ht HC0
      have HS := Lib.hid (show encS t = ⟨(PB.enc t).toArray⟩ by unfold encS; rw [if_pos HE.out])
      generalize PB.enc t = el at *
      go_enter Try.func26, Try.ntmps26
      go_wp2_with (first
        | (go_at_call 28; refine H1.out.mono ?_; rintro e w2 ⟨rfl, hb2⟩; have hbl2 := hb1.trans (hb2.mono hb1.size); obtain ⟨z0, z1, z2, z3, z4⟩ := (bk_below hbk hb2).five; clear hb2)
        | (go_at_call 37; refine (HC.out _ hbl2).mono ?_; rintro e w3 ⟨hb3, A3, c3, rfl, hcv⟩)
        | fail)
      go_ret2
      exact encTop_of HS.out (by rw [HE.out]; rfl) (hbl2.trans (hb3.mono hbl2.size))
    · have HE := Lib.hid (show encE t = 5 by unfold encE; rw [if_neg (by rw [HQ.out]; decide), if_pos (by omega)])
      have HC := Lib.hid fun (W : World) (hb : Below w.heap.size w W) => (HC0 W hb).mono fun e w' (h : BytesPost _ _ _ e w') => (show Below W.heap.size W w' ∧ ∃ (A : Option Addr) (n c : Nat), e = .returned (.slice A n c) ∧ decide ((8192 : Int) < n) = true from by
        obtain ⟨v, l, rfl, hrow, hbw, hn, _⟩ := h
        refine ⟨hbw, ?_⟩
        obtain ⟨A3, c3, rfl, _⟩ := own_slice hrow
        refine ⟨A3, l.length, c3, rfl, ?_⟩
        rcases hn with rfl | hn
        · simp; omega
        · simp; omega)
      clear ht HC0
      go_enter Try.func26, Try.ntmps26
      go_wp2_with (first
        | (go_at_call 28; refine H1.out.mono ?_; rintro e w2 ⟨rfl, hb2⟩; have hbl2 := hb1.trans (hb2.mono hb1.size); obtain ⟨z0, z1, z2, z3, z4⟩ := (bk_below hbk hb2).five; clear hb2)
        | (go_at_call 37; refine (HC.out _ hbl2).mono ?_; rintro e w3 ⟨hb3, A3, n3, c3, rfl, hq3⟩)
        | fail)
      go_ret2
      exact encTop_of (by unfold encS; rw [HE.out]; rfl) (by rw [HE.out]; rfl) (hbl2.trans (hb3.mono hbl2.size))
end Go.Proofs.Ytipphdadibdifaa
