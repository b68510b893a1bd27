/- An argument of type api.Message, read as data, is a message in memory: the whole. -/
import Derived.Test.YtbiglfpikfjbpaaDoorMsgOpen
namespace Go.Proofs.YtbiglfpikfjbpaaDoor
open Go.ChangeShapes Go.WideShapes Go.ChangeAt Go.RowKit Go.Deep
set_option maxRecDepth 100000
set_option linter.unusedVariables false
section
variable {H : Type} {enc : TypeId × Value → H} {W : World} {base : Nat} {spare : Nat → Bool} {held : Bool}
theorem cmsg : Tryd.prog.cellsOf 30 = 31 := by kernel_rfl
/-- A filter's cells by name. -/
theorem flAt_fc {S : Nat → Prop} {F : Fl} {c : List Value} (h : FlAt W S F c) : ∃ f : FC, c = f.cells ∧ FlAt W S F f.cells := by
  have h' := h
  obtain ⟨k, a, v, g, any, l, kids⟩ := F
  unfold FlAt at h
  obtain ⟨q, r, e, -⟩ := h
  exact ⟨⟨k, a, v, g, q, l, r⟩, e, by rw [e] at h'; exact h'⟩
set_option maxHeartbeats 4000000 in
theorem msg_trod {m : Nat} {cs : List Value} {x : DataW H × List MemPlace} (h : DataW.trod enc Tryd.prog W base spare held m 30 cs = some x) : ∃ (M : Ms) (mc : MC), cs = mc.cells.toList ∧ MsAt W (fun _ => True) M mc := by
  obtain ⟨xs, n, -, -, hlen, hxl, hf⟩ := DataW.trod_struct Tryd.underlying30 h
  have hx : xs.length = 25 := hxl
  match cs, hlen.trans cmsg with
  | [c0, c1, c2, c3, c4, c5, c6, c7, c8, c9, c10, c11, c12, c13, c14, c15, c16, c17, c18, c19, c20, c21, c22, c23, c24, c25, c26, c27, c28, c29, c30], _ =>
    obtain ⟨y0, g0⟩ := some_of (hf 0 _ rfl) (by omega)
    obtain ⟨y1, g1⟩ := some_of (hf 1 _ rfl) (by omega)
    obtain ⟨y2, g2⟩ := some_of (hf 2 _ rfl) (by omega)
    obtain ⟨y3, g3⟩ := some_of (hf 3 _ rfl) (by omega)
    obtain ⟨y4, g4⟩ := some_of (hf 4 _ rfl) (by omega)
    obtain ⟨y5, g5⟩ := some_of (hf 5 _ rfl) (by omega)
    obtain ⟨y6, g6⟩ := some_of (hf 6 _ rfl) (by omega)
    obtain ⟨y7, g7⟩ := some_of (hf 7 _ rfl) (by omega)
    obtain ⟨y8, g8⟩ := some_of (hf 8 _ rfl) (by omega)
    obtain ⟨y9, g9⟩ := some_of (hf 9 _ rfl) (by omega)
    obtain ⟨y10, g10⟩ := some_of (hf 10 _ rfl) (by omega)
    obtain ⟨y11, g11⟩ := some_of (hf 11 _ rfl) (by omega)
    obtain ⟨y12, g12⟩ := some_of (hf 12 _ rfl) (by omega)
    obtain ⟨y13, g13⟩ := some_of (hf 13 _ rfl) (by omega)
    obtain ⟨y14, g14⟩ := some_of (hf 14 _ rfl) (by omega)
    obtain ⟨y15, g15⟩ := some_of (hf 15 _ rfl) (by omega)
    obtain ⟨y16, g16⟩ := some_of (hf 16 _ rfl) (by omega)
    obtain ⟨y17, g17⟩ := some_of (hf 17 _ rfl) (by omega)
    obtain ⟨y18, g18⟩ := some_of (hf 18 _ rfl) (by omega)
    obtain ⟨y19, g19⟩ := some_of (hf 19 _ rfl) (by omega)
    obtain ⟨y20, g20⟩ := some_of (hf 20 _ rfl) (by omega)
    obtain ⟨y21, g21⟩ := some_of (hf 21 _ rfl) (by omega)
    obtain ⟨y22, g22⟩ := some_of (hf 22 _ rfl) (by omega)
    obtain ⟨y23, g23⟩ := some_of (hf 23 _ rfl) (by omega)
    obtain ⟨y24, g24⟩ := some_of (hf 24 _ rfl) (by omega)
    clear hf h hlen hxl hx
    obtain ⟨v_id, e0, -, w_id⟩ := DataW.trod_int Tryd.underlying3 g0
    simp [ci] at e0
    subst e0
    obtain ⟨v_op, e1, -, w_op⟩ := DataW.trod_int Tryd.underlying3 g1
    simp [ci] at e1
    subst e1
    obtain ⟨v_version, e2, -, w_version⟩ := DataW.trod_int Tryd.underlying3 g2
    simp [ci] at e2
    subst e2
    obtain ⟨v_name, e3, -, w_name⟩ := DataW.trod_string Tryd.underlying9 g3
    simp [cst] at e3
    subst e3
    obtain ⟨v_sasl, e4, -⟩ := DataW.trod_bool Tryd.underlying4 g4
    simp [cb] at e4
    subst e4
    obtain ⟨v_secret, e5, -, w_secret⟩ := DataW.trod_string Tryd.underlying9 g5
    simp [cst] at e5
    subst e5
    obtain ⟨v_kind, e6, -, w_kind⟩ := DataW.trod_string Tryd.underlying9 g6
    simp [cst] at e6
    subst e6
    obtain ⟨v_has, e7, -⟩ := DataW.trod_bool Tryd.underlying4 g7
    simp [cb] at e7
    subst e7
    obtain ⟨v_value, e8, -, w_value⟩ := DataW.trod_string Tryd.underlying9 g8
    simp [cst] at e8
    subst e8
    obtain ⟨v_code, e9, -, w_code⟩ := DataW.trod_int Tryd.underlying3 g9
    simp [ci] at e9
    subst e9
    obtain ⟨v_text, e10, -, w_text⟩ := DataW.trod_string Tryd.underlying9 g10
    simp [cst] at e10
    subst e10
    obtain ⟨v_scope, e11, -, w_scope⟩ := DataW.trod_int Tryd.underlying3 g11
    simp [ci] at e11
    subst e11
    obtain ⟨v_deref, e12, -, w_deref⟩ := DataW.trod_int Tryd.underlying3 g12
    simp [ci] at e12
    subst e12
    obtain ⟨v_size, e13, -, w_size⟩ := DataW.trod_int Tryd.underlying3 g13
    simp [ci] at e13
    subst e13
    obtain ⟨v_time, e14, -, w_time⟩ := DataW.trod_int Tryd.underlying3 g14
    simp [ci] at e14
    subst e14
    obtain ⟨v_types, e15, -⟩ := DataW.trod_bool Tryd.underlying4 g15
    simp [cb] at e15
    subst e15
    simp [cfil] at g16
    obtain ⟨v_filter, w0_filter⟩ := fil_trod _ _ (Nat.le_refl _) _ _ g16
    obtain ⟨fc, e16, w_filter⟩ := flAt_fc w0_filter
    simp only [FC.cells, List.cons.injEq, and_true] at e16
    obtain ⟨d0, d1, d2, d3, d4, d5, d6⟩ := e16
    subst d0 d1 d2 d3 d4 d5 d6
    simp [csl] at g17
    obtain ⟨q_attrs, v_attrs, e17, w_attrs⟩ := strs_trod g17
    subst e17
    simp [cal] at g18
    obtain ⟨q_list, v_list, e18, w_list⟩ := row_trod (α := At) (At := AttrAt) (k := 2) Tryd.underlying26 (by kernel_rfl) (by omega) (N := n) (fun n' _ cs x h => attr_trod h) (Nat.le_refl _) g18
    subst e18
    simp [cml] at g19
    obtain ⟨q_mods, v_mods, e19, w_mods⟩ := row_trod (α := Md) (At := ModAt) (k := 3) Tryd.underlying27 (by kernel_rfl) (by omega) (N := n) (fun n' _ cs x h => mod_trod h) (Nat.le_refl _) g19
    subst e19
    obtain ⟨v_rdn, e20, -, w_rdn⟩ := DataW.trod_string Tryd.underlying9 g20
    simp [cst] at e20
    subst e20
    obtain ⟨v_old, e21, -⟩ := DataW.trod_bool Tryd.underlying4 g21
    simp [cb] at e21
    subst e21
    simp [csl] at g22
    obtain ⟨q_dest, v_dest, e22, w_dest⟩ := strs_trod g22
    subst e22
    obtain ⟨v_other, e23, -, w_other⟩ := DataW.trod_int Tryd.underlying3 g23
    simp [ci] at e23
    subst e23
    simp [ccl] at g24
    obtain ⟨q_controls, v_controls, e24, w_controls⟩ := row_trod (α := Co) (At := CoAt) (k := 4) Tryd.underlying28 (by kernel_rfl) (by omega) (N := n) (fun n' _ cs x h => ctl_trod h) (Nat.le_refl _) g24
    subst e24
    let M : Ms := ⟨v_id, v_op, v_version, v_name, v_sasl, v_secret, v_kind, v_has, v_value, v_code, v_text, v_scope, v_deref, v_size, v_time, v_types, v_filter, v_attrs, v_list, v_mods, v_rdn, v_old, v_dest, v_other, v_controls⟩
    exact ⟨M, M.mc fc q_attrs q_list q_mods q_dest q_controls, rfl, fc, q_attrs, q_list, q_mods, q_dest, q_controls, rfl, ⟨w_name, w_secret, w_kind, w_value, w_text, w_rdn⟩, w_filter, w_attrs, w_list, w_mods, w_dest, w_controls⟩
theorem open_msg {r : Reach} {b0 : Nat} {v : Value} {d : DataW H} {p : List MemPlace} (hv : Value.okWide Tryd.prog W r b0 30 v) (h : DataW.Trod enc Tryd.prog W base spare held 30 v d p) :
    ∃ (M : Ms) (mc : MC), v = .agg mc.cells ∧ MsAt W (fun _ => True) M mc := by
  obtain ⟨cs, rfl, _⟩ := okWide_struct Tryd.underlying30 hv
  obtain ⟨fuel, hf⟩ := h
  obtain ⟨M, mc, e, hm⟩ := msg_trod hf
  refine ⟨M, mc, ?_, hm⟩
  obtain ⟨l⟩ := cs
  have e' : l = mc.cells.toList := e
  subst e'
  rfl
end
end Go.Proofs.YtbiglfpikfjbpaaDoor
