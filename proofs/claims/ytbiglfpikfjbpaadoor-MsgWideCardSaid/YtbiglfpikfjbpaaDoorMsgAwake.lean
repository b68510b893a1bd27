/- The statements of layer 26 ask first: awake returns true. -/
import Derived.Test.YtbiglfpikfjbpaaDoorMsgEnc
import Derived.Test.YtbiglfpikfjbpaaDoorMsgDecode
import Derived.Test.YtbiglfpikfjbpaaDoorMsgFlat
import Derived.Test.YtbiglfpikfjbpaaDoorWide
import Derived.Deep.RegionHeld3
namespace Go.Proofs.YtbiglfpikfjbpaaDoor
open Go.RowKit
set_option maxRecDepth 100000
set_option linter.unusedVariables false

def unb : Tl := tlist [tnum 2 3, .mk 1 false 2 ⟨#[]⟩ []]
theorem base_right : (Ms.base 3 2).right = true := by decide +kernel
theorem unb_E : encE unb = 0 := by decide +kernel
theorem unb_S : encS unb = ⟨#[48, 5, 2, 1, 3, 66, 0]⟩ := by decide +kernel
theorem unb_P : decP ⟨#[48, 5, 2, 1, 3, 66, 0]⟩ = some (Ms.base 3 2) := by kernel_rfl
theorem base_at (w : World) (S : Nat → Prop) : MsAt w S (Ms.base 3 2) (MC.base 3 2) :=
  MsAt.flat rfl rfl rfl rfl rfl rfl ⟨by decide, by decide, by decide, by decide, by decide, by decide⟩
theorem enc_unb (w : World) (ha : AnsAt w) : Calls Tryd.prog 8 #[.agg (MC.base 3 2).cells] w (fun e w' => Below w.heap.size w w' ∧ e = .returned (.tuple #[.string ⟨#[48, 5, 2, 1, 3, 66, 0]⟩, .int .i64 0])) := by
  have h := encode_bare (Ms.base 3 2) (MC.base 3 2) (fun _ => True) (.mk 1 false 2 ⟨#[]⟩ []) w (base_at w _) ha base_right rfl ⟨by decide, by decide⟩ (fun W hb => operation_unbind _ _ _ W (base_at W (fun _ => True)) rfl)
  refine h.mono ?_
  rintro e w' ⟨hb, rfl⟩
  refine ⟨hb, ?_⟩
  show Ending.returned (.tuple #[.string (encS unb), .int .i64 (encE unb)]) = _
  rw [unb_E, unb_S]
  rfl

theorem dec_unb (w : World) (ha : AnsAt w) : Calls Tryd.prog 11 #[.string ⟨#[48, 5, 2, 1, 3, 66, 0]⟩] w (fun e w' => Below w.heap.size w w' ∧ ∃ m : MC, e = .returned (.tuple #[.agg m.cells, .int .i64 0]) ∧ MsAt w' (fun x => w.heap.size ≤ x) (Ms.base 3 2) m) := by
  refine (mdecode_any _ w (by decide) ha).mono ?_
  rintro e w' ⟨hb, h⟩
  rw [unb_P] at h
  rcases h with ⟨h, _⟩ | ⟨M, m, h, rfl, hm⟩
  · cases h
  · obtain rfl := Option.some.inj h
    exact ⟨hb, m, rfl, hm⟩

/-- What Decode gives, its cells not named. -/
theorem dec_unb' (w : World) (ha : AnsAt w) : Calls Tryd.prog 11 #[.string ⟨#[48, 5, 2, 1, 3, 66, 0]⟩] w (fun e w' => Below w.heap.size w w' ∧ ∃ ms : Array Value, e = .returned (.tuple #[.agg ms, .int .i64 0]) ∧ ms.size = 31 ∧ ms.all (·.oneCell') = true ∧
    ∀ W, Off [w'.heap.size] (w'.alloc mzero) W → Calls Tryd.prog 12 #[.agg ms, .agg (MC.base 3 2).cells] W (TellsQ true W)) := by
  refine (dec_unb w ha).mono ?_
  rintro e w' ⟨hb, m, rfl, hm⟩
  refine ⟨hb, m.cells, rfl, msg_size m, msg_one m, fun W ho => ?_⟩
  refine same_flat 3 2 m (MC.base 3 2) (fun _ => True) (fun _ => True) W (hm.keep ?_ (fun x _ hlt => ?_) (fun _ _ _ => trivial)) (base_at W _)
  · have := ho.size; simp at this; omega
  · rw [ho.block x (by simp; omega) (by simp; omega)]
    exact (((Below.refl w'.heap.size w').alloc (Nat.le_refl _) mzero).block x hlt)
set_option maxHeartbeats 4000000 in
theorem awake26 (w : World) (ha : AnsAt w) : Calls Tryd.prog 6 #[] w (Holds w) := by
  have H1 := Lib.hid (enc_unb w ha)
  have H2 := Lib.hid (fun W hb => dec_unb' W (ha.below hb))
  have HS := Lib.hid size_msg
  clear ha
  go_enter Tryd.func6, Tryd.ntmps6
  go_wp2_with (first
    | (refine wpList_store_wide rfl 30 (.tmp 3) (.tmp 13) rfl w2.heap.size rfl ms rfl 30 MC.zero.cells (Bk.new w2 _ _) HSZ.out.symm (by rw [HSZ.out]; exact HS.out) HON.out (fun w3 hbk3 hof3 => ?_); have HBK3 := Lib.hid hbk3; have HOF3 := Lib.hid hof3; clear hbk3 hof3)
    | (refine wpList_load_row_g rfl 30 (.tmp 3) rfl w2.heap.size rfl 30 ms (0, 0) _ HBK3.out Tryd.underlying30 rfl (by rw [HSZ.out]; exact HS.out) ?_)
    | (go_at_call 8; refine H1.out.mono ?_; rintro e w1 ⟨hb1, rfl⟩)
    | (go_at_call 11; refine (H2.out _ hb1).mono ?_; rintro e w2 ⟨hb2, ms, rfl, hsz, hone, hsm⟩; have HSZ := Lib.hid hsz; have HON := Lib.hid hone; have HSM := Lib.hid hsm; clear hsz hone hsm)
    | (go_at_call 12; refine (HSM.out _ HOF3.out).mono ?_; rintro e w4 ⟨rfl, hb4⟩)
    | fail)
  go_ret
  have h2 := hb1.trans (hb2.mono hb1.size)
  have h3 := h2.alloc h2.size mzero
  have h4 := h3.trans (HOF3.out.below (B := w.heap.size) h3.size (by simpa using h2.size))
  exact ⟨rfl, h4.trans (hb4.mono h4.size)⟩
end Go.Proofs.YtbiglfpikfjbpaaDoor
