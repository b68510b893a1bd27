/- Contract of ber.Encode. -/
import Derived.Test.YtipphdadibdifaaEncode3
import Derived.Test.YtipphdadibdifaaRRight
namespace Go.Proofs.Ytipphdadibdifaa
open Go.RowKit
open Go.PlainAid

/-- What is amiss with a value that is to be laid. -/
def encE (t : Tl) : Nat := if t.right 1 = false then 4 else if 8192 < (PB.enc t).length then 5 else 0
/-- A value's bytes, if it may be. -/
def encS (t : Tl) : ByteArray := if encE t = 0 then ⟨(PB.enc t).toArray⟩ else ⟨#[]⟩

def EncTop (t : Tl) (w : World) (e : Ending) (w' : World) : Prop :=
  Below w.heap.size w w' ∧ e = .returned (.tuple #[.string (encS t), .int .i64 (encE t)])

theorem encTop_of {t : Tl} {w w' : World} {s : ByteArray} {k : Int} (hs : encS t = s) (hk : ((encE t : Nat) : Int) = k) (hb : Below w.heap.size w w') : EncTop t w (.returned (.tuple #[.string s, .int .i64 k])) w' := by
  subst hs
  subst hk
  exact ⟨hb, rfl⟩

set_option maxRecDepth 100000 in
set_option maxHeartbeats 1000000 in
theorem encodeTop_any (S : Nat → Prop) (t : Tl) (cs : Array Value) (w : World) (ht : TlAt w S t cs) :
    Calls Try.prog 25 #[.agg cs] w (EncTop t w) := by
  obtain ⟨x0, x1, x2, x3, xA, xn, xc, rfl⟩ := tlAt_form ht
  have hb0 : Below w.heap.size w (w.alloc (.cells #[.int .i64 x0, .bool x1, .int .i64 x2, .string x3, .slice xA xn xc] 44)) := (Below.refl _ _).alloc (Nat.le_refl _) _
  have hb1 := hb0.alloc hb0.size (.cells #[.int .i64 x0, .bool x1, .int .i64 x2, .string x3, .slice xA xn xc] 44)
  have HR := right_any _ S t _ 1 _ (Nat.le_refl _) (TlAt.below hb1 _ _ ht) (by omega)
  have hbk := (Bk.new w 44 #[.int .i64 x0, .bool x1, .int .i64 x2, .string x3, .slice xA xn xc]).alloc (.cells #[.int .i64 x0, .bool x1, .int .i64 x2, .string x3, .slice xA xn xc] 44)
  cases hq : t.right 1 with
  | false =>
    rw [hq] at HR
    have H1 := Lib.hid HR
    have HE := Lib.hid (show encE t = 4 by unfold encE; rw [if_pos hq])
    clear hq HR
    go_enter Try.func25, Try.ntmps25
    go_wp2_with (first
      | (go_at_call 27; go_in)
      | (go_at_call 38; refine H1.out.mono ?_; rintro e w2 ⟨rfl, hb2⟩)
      | fail)
    go_ret2
    exact encTop_of (by unfold encS; rw [HE.out]; rfl) (by rw [HE.out]; rfl) (hb1.trans (hb2.mono hb1.size))
  | true =>
    rw [hq] at HR
    have H1 := Lib.hid HR
    have HQ := Lib.hid hq
    clear hq HR
    by_cases hl : (PB.enc t).length ≤ 8192
    · have HE := Lib.hid (show encE t = 0 by unfold encE; rw [if_neg (by rw [HQ.out]; decide), if_neg (by omega)])
      have HC := Lib.hid fun (W : World) (hb : Below w.heap.size w W) => (encode_any _ S t _ 1 W (Nat.le_refl _) (TlAt.below hb _ _ ht) HQ.out).mono fun e w' (h : EncPost _ _ e w') => (show Below _ _ w' ∧ e = _ from ⟨h.1, h.2.elim (fun x => x.2) (fun x => absurd hl (by omega))⟩)
      clear ht
      go_enter Try.func25, Try.ntmps25
      go_wp2_with (first
        | (go_at_call 27; go_in)
        | (go_at_call 38; refine H1.out.mono ?_; rintro e w2 ⟨rfl, hb2⟩; have hbl2 := hb1.trans (hb2.mono hb1.size); obtain ⟨z0, z1, z2, z3, z4⟩ := (bk_below hbk hb2).five; clear hb2)
        | (go_at_call 36; refine (HC.out _ hbl2).mono ?_; rintro e w3 ⟨hb3, rfl⟩)
        | fail)
      go_ret2
      exact encTop_of (by unfold encS; rw [HE.out]; rfl) (by rw [HE.out]; rfl) (hbl2.trans (hb3.mono hbl2.size))
    · have HE := Lib.hid (show encE t = 5 by unfold encE; rw [if_neg (by rw [HQ.out]; decide), if_pos (by omega)])
      have HC := Lib.hid fun (W : World) (hb : Below w.heap.size w W) => (encode_any _ S t _ 1 W (Nat.le_refl _) (TlAt.below hb _ _ ht) HQ.out).mono fun e w' (h : EncPost _ _ e w') => (show Below _ _ w' ∧ ∃ s, e = _ from ⟨h.1, h.2.elim (fun x => absurd x.1 hl) (fun x => x.2)⟩)
      clear ht
      go_enter Try.func25, Try.ntmps25
      go_wp2_with (first
        | (go_at_call 27; go_in)
        | (go_at_call 38; refine H1.out.mono ?_; rintro e w2 ⟨rfl, hb2⟩; have hbl2 := hb1.trans (hb2.mono hb1.size); obtain ⟨z0, z1, z2, z3, z4⟩ := (bk_below hbk hb2).five; clear hb2)
        | (go_at_call 36; refine (HC.out _ hbl2).mono ?_; rintro e w3 ⟨hb3, s0, rfl⟩)
        | fail)
      go_ret2
      exact encTop_of (by unfold encS; rw [HE.out]; rfl) (by rw [HE.out]; rfl) (hbl2.trans (hb3.mono hbl2.size))
end Go.Proofs.Ytipphdadibdifaa
