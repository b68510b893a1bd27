/- A message's reader: must, end. -/
import Derived.Test.YtbiglfpikfjbpaaDoorMsgRow
namespace Go.Proofs.YtbiglfpikfjbpaaDoor
open Go.RowKit
set_option maxRecDepth 100000
set_option linter.unusedVariables false
set_option linter.unusedSimpArgs false

/-- A call that throws msg's trouble. -/
def ThrowsM (e : Ending) : Prop := e = .panicked [{ v := .iface 72 (.agg #[]), recovered := false }]
def MustPost (b : Nat) (S : Nat → Prop) (ks : List Tl) (q : Bool) (w : World) (e : Ending) (w' : World) : Prop :=
  Off [b] w w' ∧ ((q = false ∧ ThrowsM e) ∨
    (q = true ∧ ∃ (k : Tl) (rest : List Tl) (cs : Array Value) (v' : Value), ks = k :: rest ∧ e = .returned (.agg cs) ∧ Bk w' b 75 #[v'] ∧ TlAt w' S k cs ∧ TRow w' S v' rest))

set_option maxHeartbeats 4000000 in
theorem must_any (b : Nat) (v : Value) (ks : List Tl) (S : Nat → Prop) (cls tag : Int) (cons : Bool) (w : World) (hb : Bk w b 75 #[v]) (hr : TRow w S v ks) (hnb : ∀ x, S x → x ≠ b) :
    Calls Tryd.prog 50 #[.pointer (some ⟨b, 0, none⟩), .int .i64 cls, .int .i64 tag, .bool cons] w (MustPost b S ks (headIs ks cls tag cons) w) := by
  have ha : Below w.heap.size w (w.alloc zTlv) := (Below.refl _ w).alloc (Nat.le_refl _) _
  have hr' : TRow w (fun x => S x ∧ x < w.heap.size) v ks := hr.keep (Nat.le_refl _) (fun _ _ _ => rfl) (fun _ h hl => ⟨h, hl⟩)
  have HM := Lib.hid (may_any b v ks (fun x => S x ∧ x < w.heap.size) cls tag cons (w.alloc zTlv) (hb.alloc _) (hr'.below ha) (fun x hx => hnb x hx.1))
  have HA : Hid (Off [b] w (w.alloc zTlv)) := (Off.refl [b] w).alloc _
  have hlt := hb.lt
  have HNB := Lib.hid hnb
  clear hb hr hr' hnb ha
  go_enter Tryd.func50, Tryd.ntmps50
  go_wp2_with fail
  (go_at_call 30)
  refine HM.out.mono ?_
  rintro e w2 ⟨ho, hcs⟩
  have HO := Lib.hid ho
  clear ho
  rcases hcs with ⟨hq, rfl, hb2⟩ | ⟨hq, k, rest, cs, v', hks, rfl, hb2, ht, hr⟩
  · have HQ := Lib.hid hq
    have HB2 := Lib.hid hb2
    clear hb2 hq
    unfold flat
    go_wp2_with fail
    exact ⟨rfl, ((HA.out.trans HO.out).alloc _), .inl ⟨HQ.out, rfl⟩⟩
  · have HQ := Lib.hid hq
    obtain ⟨x0, x1, x2, x3, xA, xn, xc, rfl⟩ := tlAt_form ht
    have HB2 := Lib.hid hb2
    have HT := Lib.hid ht
    have HR := Lib.hid hr
    have HK := Lib.hid hks
    have hz := (HO.out.bk (Bk.new w 38 #[.int .i64 0, .bool false, .int .i64 0, .string ⟨#[]⟩, .slice none 0 0]) (by simp; omega))
    have HZ := Lib.hid hz
    obtain ⟨y0, y1, y2, y3, y4⟩ := hz.five
    have f0 := hz.frozen 0
    have f1 := hz.frozen 1
    have f2 := hz.frozen 2
    have f3 := hz.frozen 3
    have f4 := hz.frozen 4
    have hs3 := hz.lt
    clear hb2 hq ht hr hks hz
    have hs8 : ¬ (b = w.heap.size) := by omega
    have hO := HA.out.trans HO.out
    have HO2 := Lib.hid ((((((hO.setCell (p := ⟨w.heap.size, 0, none⟩) (.inr (Nat.le_refl _)) (.int .i64 x0)).setCell (p := ⟨w.heap.size, 1, none⟩) (.inr (Nat.le_refl _)) (.bool x1)).setCell (p := ⟨w.heap.size, 2, none⟩) (.inr (Nat.le_refl _)) (.int .i64 x2)).setCell (p := ⟨w.heap.size, 3, none⟩) (.inr (Nat.le_refl _)) (.string x3)).setCell (p := ⟨w.heap.size, 4, none⟩) (.inr (Nat.le_refl _)) (.slice xA xn xc)).alloc (.cells #[.int .i64 x0, .bool x1, .int .i64 x2, .string x3, .slice xA xn xc] 38))
    clear hO
    go_wp2_with fail
    have hX : ∀ x, (S x ∧ x < w.heap.size) → x < w2.heap.size → ((((((w2.setCell ⟨w.heap.size, 0, none⟩ (.int .i64 x0)).setCell ⟨w.heap.size, 1, none⟩ (.bool x1)).setCell ⟨w.heap.size, 2, none⟩ (.int .i64 x2)).setCell ⟨w.heap.size, 3, none⟩ (.string x3)).setCell ⟨w.heap.size, 4, none⟩ (.slice xA xn xc)).alloc (.cells #[.int .i64 x0, .bool x1, .int .i64 x2, .string x3, .slice xA xn xc] 38)).heap[x]? = w2.heap[x]? := fun x hx hl =>
      ((((((Off.refl [w.heap.size] w2).setCell (.inl (by simp)) _).setCell (.inl (by simp)) _).setCell (.inl (by simp)) _).setCell (.inl (by simp)) _).setCell (.inl (by simp)) _).alloc _ |>.block x hl (by simp; omega)
    have hB := (((((HB2.out.far (p := ⟨w.heap.size, 0, none⟩) hs8 (.int .i64 x0)).far (p := ⟨w.heap.size, 1, none⟩) hs8 (.bool x1)).far (p := ⟨w.heap.size, 2, none⟩) hs8 (.int .i64 x2)).far (p := ⟨w.heap.size, 3, none⟩) hs8 (.string x3)).far (p := ⟨w.heap.size, 4, none⟩) hs8 (.slice xA xn xc)).alloc (.cells #[.int .i64 x0, .bool x1, .int .i64 x2, .string x3, .slice xA xn xc] 38)
    have HX := Lib.hid hX
    have HBF := Lib.hid hB
    clear hX hB
    refine bodyPost_ret (v := .agg #[.int .i64 x0, .bool x1, .int .i64 x2, .string x3, .slice xA xn xc]) (by simp [results, Tryd.results50, go_sem, y0, y1, y2, y3, y4, hs3]) rfl ⟨HO2.out, .inr ⟨HQ.out, k, rest, _, v', HK.out, rfl, HBF.out, ?_, ?_⟩⟩
    · exact TlAt.keep (by simp [World.setCell]) HX.out (fun _ h _ => h.1) _ _ HT.out
    · exact HR.out.keep (by simp [World.setCell]) HX.out (fun _ h _ => h.1)

/-- Nothing is left, or a trouble is thrown. -/
def EndPost (q : Bool) (w : World) (e : Ending) (w' : World) : Prop := Off [] w w' ∧ ((q = true ∧ e = .returned (.tuple #[])) ∨ (q = false ∧ ThrowsM e))
theorem end_any (b n : Nat) (A : Option Addr) (cap : Nat) (w : World) (hb : Bk w b 75 #[.slice A n cap]) :
    Calls Tryd.prog 32 #[.pointer (some ⟨b, 0, none⟩)] w (EndPost (n == 0) w) := by
  have c0 : w.cell? ⟨b, 0, none⟩ = some (.slice A n cap) := by simpa using hb.cell 0
  clear hb
  cases n with
  | zero =>
    go_enter Tryd.func32, Tryd.ntmps32
    go_wp2_with fail
    go_end0
    exact ⟨Off.refl _ _, .inl ⟨rfl, rfl⟩⟩
  | succ n =>
    have z1 : decide ((0 : Int) < (n : Int) + 1) = true := decide_eq_true (by omega)
    go_enter Tryd.func32, Tryd.ntmps32
    go_wp2_with fail
    exact ⟨rfl, Off.refl _ _, .inr ⟨rfl, rfl⟩⟩
end Go.Proofs.YtbiglfpikfjbpaaDoor
