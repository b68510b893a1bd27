/- Contracts of the device: Read; what stands at a key of what waits. -/
import Derived.Test.YtkkgiajjdcpicaaGreatDoorDev
namespace Go.Proofs.YtkkgiajjdcpicaaGreatDoor
open Go.RowKit
open Go.PlainAid
set_option maxRecDepth 100000
set_option linter.unusedVariables false
set_option linter.unusedSimpArgs false

theorem zero_strs (w : World) : (zeroValue 28).run Tryz.prog w = .ok (.slice none 0 0) w := by kernel_rfl

/-- What a lookup at sector k tells: a slice that reads as what waits. -/
theorem look_run {w : World} {g : Nat} {S : List Nat} {D : DevS} {l m nn : Nat} {B C : Nat → Nat} (h : DevAt w g S D l m nn B C) (k : Nat) (hk : k ≤ 100000) :
    ∃ (A : Option Addr) (c : Nat), (Instr.lookup 136 (.map (some m)) (.int .i64 (k : Int)) false).run Tryz.prog w = .ok (.slice A (D.waits k).length c) w ∧ Sl w A (strs (D.waits k)) ∧
      w.ownsRow 0 9 1 (.slice A (D.waits k).length c) (D.waits k).length (strs (D.waits k)) ∧ (Value.slice A (D.waits k).length c) = (waitV D.row B C (k : Int)).getD (.slice none 0 0) := by
  have h1 := h.map.look (t := 136) Tryz.underlying3 Tryz.underlying136 (zero_strs w) (i := (k : Int)) (wf64 (by omega) (by omega))
  by_cases hn : D.waits k = []
  · refine ⟨none, 0, ?_, ?_, ?_, ?_⟩
    · rw [h1]
      unfold waitV
      rw [Int.toNat_natCast, if_neg (fun e => e.2 hn), hn]
      rfl
    · rw [hn]; exact Sl.nil _ _
    · rw [hn]; exact ⟨rfl, .inl ⟨rfl, rfl⟩⟩
    · unfold waitV; rw [Int.toNat_natCast, if_neg (fun e => e.2 hn), hn]; rfl
  · have ho := h.own k hn
    refine ⟨some ⟨B k, 0, none⟩, C k, ?_, Sl.of_own ho, ho, by unfold waitV; rw [Int.toNat_natCast, if_pos ⟨by omega, hn⟩]; rfl⟩
    rw [h1]
    unfold waitV
    rw [Int.toNat_natCast, if_pos ⟨by omega, hn⟩]
    rfl

def ReadPost (s : ByteArray) (e : Int) (w : World) (en : Ending) (w' : World) : Prop := en = .returned (.tuple #[.string s, .int .i64 e]) ∧ w = w'
theorem readPost_of {s s' : ByteArray} {e e' : Int} {w : World} (h : s = s') (h' : e = e') : ReadPost s e w (.returned (.tuple #[.string s', .int .i64 e'])) w := by subst h; subst h'; exact ⟨rfl, rfl⟩

theorem dread_any {g : Nat} {S : List Nat} {D : DevS} {w : World} (hd : Dev w g S D) (i : Int) (hb : D.steps ≤ 1000000000) :
    Calls Tryz.prog 125 #[ptr g, .int .i64 i] w (ReadPost (D.read i).1 (D.read i).2 w) := by
  have hd0 := Lib.hid hd
  obtain ⟨l, m, nn, B, C, h⟩ := hd
  obtain ⟨c0, c1, c2, c3, c4, c5⟩ := h.cells.six
  cases hin : D.isIn i with
  | false =>
    have HL : Hid (D.read i = (ByteArray.empty, 1)) := show _ = _ by unfold DevS.read; rw [hin]; rfl
    clear h
    go_enter Tryz.func125, Tryz.ntmps125
    go_wp2_with (go_at_call 163; refine (dis_any hd0.out i).mono ?_; rintro e w2 ⟨rfl, rfl⟩; rw [hin])
    go_ret2
    exact readPost_of (by rw [HL.out]; rfl) (by rw [HL.out])
  | true =>
    cases hoff : D.off with
    | true =>
      have HL : Hid (D.read i = (ByteArray.empty, 6)) := show _ = _ by unfold DevS.read; rw [hin, hoff]; rfl
      rw [hoff] at c2
      clear h hoff
      go_enter Tryz.func125, Tryz.ntmps125
      go_wp2_with (go_at_call 163; refine (dis_any hd0.out i).mono ?_; rintro e w2 ⟨rfl, rfl⟩; rw [hin])
      go_ret2
      exact readPost_of (by rw [HL.out]; rfl) (by rw [HL.out])
    | false =>
      obtain ⟨i0, i1⟩ := DevS.isIn_iff.1 hin
      obtain ⟨k, rfl⟩ : ∃ k : Nat, i = (k : Int) := ⟨i.toNat, by omega⟩
      have hk : k < D.sec.length := by omega
      have HL : Hid (D.read (k : Int) = (D.latest k, 0)) := show _ = _ by unfold DevS.read; rw [hin, hoff, if_pos rfl, if_neg (by simp), Int.toNat_natCast]
      rw [hoff] at c2
      obtain ⟨A, c, hrun, hsl, hr2⟩ := look_run h k (by have := h.ok.most; omega)
      clear hr2
      have hlen : (D.waits k).length ≤ 1000000000 := by
        have h1 := waitsOf_length_le D.row k
        have h2 := h.ok.rowW
        have h3 := h.ok.writesS
        unfold DevS.waits
        omega
      by_cases hn : D.waits k = []
      · have HV : Hid (D.latest k = D.sec[k]) := show _ = _ by
          rcases DevS.latest_mem hk with hm | hm
          · rw [hn] at hm; simp at hm
          · exact hm.2
        have hc : w.cell? ⟨l, k, none⟩ = some (.string D.sec[k]) := by
          rw [h.sec.cell k]
          simp [strs, hk]
        rw [hn] at hrun
        have hrun' : (Instr.lookup 136 (.map (some m)) (.int .i64 (k : Int)) false).run Tryz.prog w = .ok (.slice A 0 c) w := hrun
        clear h hoff i1 hn hrun hsl hlen
        go_enter Tryz.func125, Tryz.ntmps125
        go_wp2_with (go_at_call 163; refine (dis_any hd0.out _).mono ?_; rintro e w2 ⟨rfl, rfl⟩; rw [hin])
        go_ret2
        exact readPost_of (by rw [HL.out, HV.out]) (by rw [HL.out])
      · obtain ⟨n, hn'⟩ : ∃ n, (D.waits k).length = n + 1 := ⟨(D.waits k).length - 1, by have := List.length_pos_iff.2 hn; omega⟩
        have hlt : n < (D.waits k).length := by omega
        have HV : Hid (D.latest k = (D.waits k)[n]) := show _ = _ by
          unfold DevS.latest
          rw [List.getLastD_eq_getLast?, List.getLast?_eq_getElem?, List.getElem?_eq_getElem (by omega)]
          simp [hn']
        obtain ⟨b, o, rfl, hb, hc⟩ := hsl n (.string (D.waits k)[n]) (by simp [strs, hlt])
        rw [hn'] at hrun
        have hn2 : n < 1000000000 := by omega
        have q1 : decide ((0 : Int) < (n : Int) + 1) = true := by simp
        have HC := Lib.hid hc
        generalize hv : (D.waits k)[n] = v at *
        have hc' := HC.out
        clear h hoff i1 hn hlen hsl hn' hv hlt
        go_enter Tryz.func125, Tryz.ntmps125
        go_wp2_with (go_at_call 163; refine (dis_any hd0.out _).mono ?_; rintro e w2 ⟨rfl, rfl⟩; rw [hin])
        go_ret2
        exact readPost_of (by rw [HL.out, HV.out]) (by rw [HL.out])
theorem dread_nil (i : Int) (w : World) : Calls Tryz.prog 125 #[.pointer none, .int .i64 i] w (ReadPost ByteArray.empty 2 w) := by
  go_enter Tryz.func125, Tryz.ntmps125
  go_wp2_with fail
  go_ret2
  exact ⟨rfl, rfl⟩
end Go.Proofs.YtkkgiajjdcpicaaGreatDoor
