/- DevFuses: the walk. -/
import Derived.Test.YtchldjjfaiikbaaDevAwake
namespace Go.Proofs.Ytchldjjfaiikbaa
open Go.RowKit
open Go.PlainAid
set_option maxRecDepth 100000
set_option linter.unusedVariables false
set_option linter.unusedSimpArgs false

theorem and31 (n : Int) : ∃ m : Nat, m ≤ 31 ∧ bits .and .i64 n 31 = (m : Int) := by
  refine ⟨(BitVec.ofInt 64 n &&& BitVec.ofInt 64 31).toNat, ?_, ?_⟩
  · rw [BitVec.toNat_and]
    exact Nat.le_trans Nat.and_le_right (by decide)
  · show IntKind.i64.wrap ((BitVec.ofInt 64 n &&& BitVec.ofInt 64 31).toNat : Int) = _
    have h : (BitVec.ofInt 64 n &&& BitVec.ofInt 64 31).toNat ≤ 31 := by
      rw [BitVec.toNat_and]
      exact Nat.le_trans Nat.and_le_right (by decide)
    exact IntWalk.i64_in _ (by omega)

theorem step_more {D : DevS} {k : Int} (ho : D.off = false) (hf : D.fuse = k + 1) (hk : 1 ≤ k) : D.stepOk = true ∧ D.stepped = { D with fuse := k, steps := D.steps + 1 } := by
  obtain ⟨sec, row, off, fuse, steps, writes⟩ := D
  simp only at ho hf
  subst ho
  subst hf
  have e : ((k + 1) == 1) = false := by simp; omega
  have e2 : max 0 (k + 1 - 1) = k := by omega
  unfold DevS.stepOk DevS.stepped
  simp only [e, e2]
  exact ⟨rfl, rfl⟩
theorem step_last {D : DevS} (ho : D.off = false) (hf : D.fuse = 1) : D.stepOk = false ∧ D.stepped = { D with off := true, fuse := 0, steps := D.steps + 1 } := by
  obtain ⟨sec, row, off, fuse, steps, writes⟩ := D
  simp only at ho hf
  subst ho
  subst hf
  exact ⟨rfl, rfl⟩
/-- A step of the play: what is answered, and the device behind it. -/
structure Fz (D D' : DevS) (r : Int) (k : Int) : Prop where
  len : D'.sec.length = D.sec.length
  steps : D'.steps = D.steps + 1
  more : 1 ≤ k → r = 0 ∧ D'.off = false ∧ D'.fuse = k
  last : k = 0 → r = 6 ∧ D'.off = true ∧ D'.writes = D.writes
theorem fz_sync {D : DevS} {k : Int} (ho : D.off = false) (hf : D.fuse = k + 1) (hk : 0 ≤ k) : Fz D D.sync.1 D.sync.2 k := by
  by_cases h : 1 ≤ k
  · obtain ⟨h1, h2⟩ := step_more ho hf h
    unfold DevS.sync
    rw [h1, if_pos rfl, h2]
    exact ⟨by simp [DevS.synced], rfl, fun _ => ⟨rfl, ho, rfl⟩, fun h0 => by omega⟩
  · have h0 : k = 0 := by omega
    subst h0
    obtain ⟨h1, h2⟩ := step_last ho (by omega)
    unfold DevS.sync
    rw [h1, if_neg (by simp), h2]
    exact ⟨rfl, rfl, fun h => by omega, fun _ => ⟨rfl, rfl, rfl⟩⟩
theorem fz_write {D : DevS} {k : Int} {s : ByteArray} (ho : D.off = false) (hf : D.fuse = k + 1) (hk : 0 ≤ k) (hl : D.sec.length = 1) (hs : s.size = 128) : Fz D (D.write 0 s).1 (D.write 0 s).2 k := by
  have hin : D.isIn 0 = true := by unfold DevS.isIn; rw [hl]; rfl
  have hc : (D.isIn 0 && s.size == 128) = true := by rw [hin, hs]; rfl
  by_cases h : 1 ≤ k
  · obtain ⟨h1, h2⟩ := step_more ho hf h
    unfold DevS.write
    rw [if_pos hc, h1, if_pos rfl, h2]
    exact ⟨rfl, rfl, fun _ => ⟨rfl, ho, rfl⟩, fun h0 => by omega⟩
  · have h0 : k = 0 := by omega
    subst h0
    obtain ⟨h1, h2⟩ := step_last ho (by omega)
    unfold DevS.write
    rw [if_pos hc, h1, if_neg (by simp), h2]
    exact ⟨rfl, rfl, fun h => by omega, fun _ => ⟨rfl, rfl, rfl⟩⟩
theorem sync_down {D : DevS} (ho : D.off = true) : D.sync = (D, 6) := by
  unfold DevS.sync DevS.stepOk DevS.stepped
  rw [ho]
  rfl

/-- Where the play stands ahead of step i: the device has a fuse of n + 1 - i. -/
def FzAt (n i : Nat) (D : DevS) : Prop := D.sec.length = 1 ∧ D.steps = (i : Int) - 1 ∧ (i ≤ n → D.off = false ∧ D.fuse = (n : Int) + 1 - i) ∧ (i = n + 1 → D.off = true)
theorem fzAt_next {n i : Nat} {D D' : DevS} {r : Int} (h : FzAt n i D) (hi : i ≤ n) (hf : Fz D D' r ((n : Int) - i)) : FzAt n (i + 1) D' := by
  obtain ⟨h1, h2, h3, h4⟩ := h
  refine ⟨by rw [hf.len, h1], by rw [hf.steps, h2]; omega, fun hlt => ?_, fun he => ?_⟩
  · obtain ⟨_, a, b⟩ := hf.more (by omega)
    exact ⟨a, by rw [b]; omega⟩
  · exact (hf.last (by omega)).2.1

theorem sector_nat (k : Nat) (h : k < 256) (w : World) : Calls Try.prog 9 #[.int .u8 (k : Int)] w (TellsS (sectorB (UInt8.ofNat k)) w) := by
  have h1 := sector_any (UInt8.ofNat k) w
  have e : (UInt8.ofNat k).toNat = k := by rw [UInt8.toNat_ofNat']; omega
  rw [e] at h1
  exact h1
theorem dfuse_to {g : Nat} {S : List Nat} {D D' : DevS} {w : World} (hd : Dev w g S D) (n : Int) (hn : n ≤ 9223372036854775807) (r : Int) (h : D.setFuse n = (D', r)) :
    Calls Try.prog 17 #[ptr g, .int .i64 n] w (DevPost g S D' (.int .i64 r) w) := by
  have h1 := dfuse_any hd n hn
  rw [h] at h1
  exact h1
theorem dsteps_to {g : Nat} {S : List Nat} {D : DevS} {w : World} (hd : Dev w g S D) (k : Int) (h : D.steps = k) :
    Calls Try.prog 21 #[ptr g] w fun e w' => e = .returned (.int .i64 k) ∧ w = w' := by
  have h1 := dsteps_any hd
  rw [h] at h1
  exact h1
theorem don_to {g : Nat} {S : List Nat} {D : DevS} {w : World} (hd : Dev w g S D) (b : Bool) (h : D.off = !b) :
    Calls Try.prog 10 #[ptr g] w (TellsB b w) := by
  have h1 := don_any hd
  rw [h, Bool.not_not] at h1
  exact h1
theorem dwrites_to {g : Nat} {S : List Nat} {D : DevS} {w : World} (hd : Dev w g S D) (k : Int) (h : D.writes = k) :
    Calls Try.prog 18 #[ptr g] w fun e w' => e = .returned (.int .i64 k) ∧ w = w' := by
  have h1 := dwrites_any hd
  rw [h] at h1
  exact h1
theorem dsync_to {g : Nat} {S : List Nat} {D D' : DevS} {w : World} (hd : Dev w g S D) (hb : D.steps ≤ 1000000000) (r : Int) (h : D.sync = (D', r)) :
    Calls Try.prog 19 #[ptr g] w (DevPost g S D' (.int .i64 r) w) := by
  have h1 := dsync_any hd hb
  rw [h] at h1
  exact h1
theorem new_fuse (N : Nat) : (DevS.new 1).setFuse (N : Int) = ({ DevS.new 1 with fuse := (N : Int) }, 0) := by
  unfold DevS.setFuse
  have e : max 0 (N : Int) = N := by omega
  rw [e]
  rfl

set_option maxHeartbeats 4000000 in
theorem devFuses_walk (n syncs : Int) (w : World) (_ : (Lit.int .i64 n).wf = true) (_ : (Lit.int .i64 syncs).wf = true) : Calls Try.prog 4 #[.int .i64 n, .int .i64 syncs] w (Holds w) := by
  have HN : Hid (∀ W, Calls Try.prog 8 #[.int .i64 1] W (NewPost 1 W)) := fun W => dnew_any 1 W (by decide) (by decide)
  obtain ⟨m, hm, hmn⟩ := and31 n
  have hw2 : IntKind.i64.wrap (1 + (m : Int)) = 1 + (m : Int) := by exact IntWalk.i64_in _ (by omega)
  obtain ⟨N, hN⟩ : ∃ N : Nat, N = m + 1 := ⟨_, rfl⟩
  have hw3 : (1 + (m : Int)) = (N : Int) := by omega
  have HNN := Lib.hid hN
  clear hN
  go_enter Try.func4, Try.ntmps4
  go_wp2_with fail
  (go_at_call 7)
  refine (awake_any _).mono ?_
  rintro e w1 ⟨rfl, hb1⟩
  have HB1 := Lib.hid hb1
  clear hb1
  go_wp2_with fail
  (go_at_call 8)
  refine (HN.out _).mono ?_
  rintro e w2 ⟨g, S2, rfl, hd2, hbel2, hS2⟩
  have HD2 := Lib.hid hd2
  have H2 : Hid (Below w.heap.size w w2 ∧ ∀ b ∈ S2, w.heap.size ≤ b) := ⟨HB1.out.trans (hbel2.mono HB1.out.size), fun b hb => Nat.le_trans HB1.out.size (hS2 b hb)⟩
  clear hd2 hbel2 hS2
  go_wp2_with fail
  (go_at_call 17)
  refine (dfuse_to HD2.out (N : Int) (by omega) 0 (new_fuse N)).mono ?_
  rintro e w3 ⟨rfl, hp3⟩
  obtain ⟨S3, hd3, hbel3, hS3⟩ := post_step H2.out.1 H2.out.2 hp3
  have HD3 := Lib.hid hd3
  have H3 : Hid (Below w.heap.size w w3 ∧ ∀ b ∈ S3, w.heap.size ≤ b) := ⟨hbel3, hS3⟩
  clear hd3 hbel3 hS3 hp3
  go_wp2_with fail
  go_loopw [7] (fun v wr => ∃ (i : Nat) (D : DevS) (S : List Nat), 1 ≤ i ∧ i ≤ N + 1 ∧ v = .int .i64 (i : Int) ∧ Dev wr g S D ∧ FzAt N i D ∧ Below w.heap.size w wr ∧ ∀ b ∈ S, w.heap.size ≤ b) (fun v _ => N + 1 - (intOf v).toNat)
  case atStart => exact ⟨1, _, S3, Nat.le_refl _, by have := HNN.out; omega, rfl, HD3.out, ⟨rfl, rfl, fun _ => ⟨rfl, by show (N : Int) = _; omega⟩, fun h => by have := HNN.out; omega⟩, H3.out.1, H3.out.2⟩
  case round =>
    obtain ⟨i, D, S, hi1, hi2, rfl, hd, hfz, hbel, hS⟩ := hrel
    have HD := Lib.hid hd
    have HFZ := Lib.hid hfz
    have H : Hid (Below w.heap.size w wr ∧ ∀ b ∈ S, w.heap.size ≤ b) := ⟨hbel, hS⟩
    clear hd hfz hbel hS
    have hN32 : N ≤ 32 := by have := HNN.out; omega
    by_cases hle : i ≤ N
    · obtain ⟨j, hj, hij⟩ := and31 (i : Int)
      have t1 : decide ((i : Int) ≤ (N : Int)) = true := by simp; omega
      go_wp2_with (first
        | (go_at_call 18; refine (dwrites_any HD.out).mono ?_; rintro e w4 ⟨rfl, rfl⟩)
        | fail)
      · (go_at_call 19)
        refine (dsync_any HD.out (by have := HFZ.out.2.1; omega)).mono ?_
        rintro e w5 ⟨rfl, hp5⟩
        obtain ⟨S5, hd5, hbel5, hS5⟩ := post_step H.out.1 H.out.2 hp5
        have HF : Hid (Fz D D.sync.1 D.sync.2 ((N : Int) - i)) := fz_sync (HFZ.out.2.2.1 hle).1 (by rw [(HFZ.out.2.2.1 hle).2]; omega) (by omega)
        generalize D.sync.1 = D' at *
        generalize D.sync.2 = r at *
        have HD5 := Lib.hid hd5
        have H5 : Hid (Below w.heap.size w w5 ∧ ∀ b ∈ S5, w.heap.size ≤ b) := ⟨hbel5, hS5⟩
        clear hd5 hbel5 hS5 hp5
        by_cases hlt : i < N
        · obtain ⟨rfl, hoffD, _⟩ := HF.out.more (by omega)
          have HOF := Lib.hid hoffD
          have HST : Hid (D'.steps = (i : Int)) := show _ = _ by rw [HF.out.steps, HFZ.out.2.1]; omega
          have HNX := Lib.hid (fzAt_next HFZ.out hle HF.out)
          have q1 : decide ((i : Int) < (N : Int)) = true := by simp; omega
          have q2 : ((i : Int) == (N : Int)) = false := by simp; omega
          clear hoffD
          go_wp2_with (first
            | (go_at_call 21; refine (dsteps_to HD5.out (i : Int) HST.out).mono ?_; rintro e w6 ⟨rfl, rfl⟩)
            | (go_at_call 10; refine (don_to HD5.out true HOF.out).mono ?_; rintro e w6 ⟨rfl, rfl⟩)
            | fail)
          go_roundw
          case rel =>
            first
              | exact ⟨i + 1, D', S5, by omega, by omega, by go_num, HD5.out, HNX.out, H5.out.1, H5.out.2⟩
              | ((repeat apply Exists.intro); exact ⟨⟨i + 1, D', S5, by omega, by omega, by go_num, HD5.out, HNX.out, H5.out.1, H5.out.2⟩, rfl⟩)
          case measure => simp [intOf]; omega
        · have hiN : i = N := by omega
          obtain ⟨rfl, hoffD, hwrD⟩ := HF.out.last (by omega)
          have HOF := Lib.hid hoffD
          have HWR := Lib.hid hwrD
          have HST : Hid (D'.steps = (i : Int)) := show _ = _ by rw [HF.out.steps, HFZ.out.2.1]; omega
          have HNX := Lib.hid (fzAt_next HFZ.out hle HF.out)
          have q1 : decide ((i : Int) < (N : Int)) = false := by simp; omega
          have q2 : ((i : Int) == (N : Int)) = true := by simp; omega
          clear hoffD hwrD
          have HIN := Lib.hid hiN
          clear hiN
          go_wp2_with (first
            | (go_at_call 21; refine (dsteps_to HD5.out (i : Int) HST.out).mono ?_; rintro e w6 ⟨rfl, rfl⟩)
            | (go_at_call 10; refine (don_to HD5.out false HOF.out).mono ?_; rintro e w6 ⟨rfl, rfl⟩)
            | (go_at_call 18; refine (dwrites_to HD5.out D.writes HWR.out).mono ?_; rintro e w6 ⟨rfl, rfl⟩)
            | fail)
          go_roundw
          case rel =>
            first
              | exact ⟨i + 1, D', S5, by omega, by omega, by go_num, HD5.out, HNX.out, H5.out.1, H5.out.2⟩
              | ((repeat apply Exists.intro); exact ⟨⟨i + 1, D', S5, by omega, by omega, by go_num, HD5.out, HNX.out, H5.out.1, H5.out.2⟩, rfl⟩)
          case measure => simp [intOf]; omega
      · (go_at_call 9)
        refine (sector_nat i (by omega) _).mono ?_
        rintro e w4 ⟨rfl, hb4⟩
        have HD4 := Lib.hid (HD.out.below hb4)
        have H4 := Lib.hid (H.out.1.trans (hb4.mono H.out.1.size))
        clear hb4
        go_wp2_with fail
        (go_at_call 20)
        refine (dwrite_any HD4.out 0 (sectorB (UInt8.ofNat i)) (by have := HFZ.out.2.1; omega) (by rw [sectorB_size]; decide)).mono ?_
        rintro e w5 ⟨rfl, hp5⟩
        obtain ⟨S5, hd5, hbel5, hS5⟩ := post_step H4.out H.out.2 hp5
        have HF : Hid (Fz D (D.write 0 (sectorB (UInt8.ofNat i))).1 (D.write 0 (sectorB (UInt8.ofNat i))).2 ((N : Int) - i)) := fz_write (HFZ.out.2.2.1 hle).1 (by rw [(HFZ.out.2.2.1 hle).2]; omega) (by omega) HFZ.out.1 (sectorB_size _)
        generalize (D.write 0 (sectorB (UInt8.ofNat i))).1 = D' at *
        generalize (D.write 0 (sectorB (UInt8.ofNat i))).2 = r at *
        have HD5 := Lib.hid hd5
        have H5 : Hid (Below w.heap.size w w5 ∧ ∀ b ∈ S5, w.heap.size ≤ b) := ⟨hbel5, hS5⟩
        clear hd5 hbel5 hS5 hp5
        by_cases hlt : i < N
        · obtain ⟨rfl, hoffD, _⟩ := HF.out.more (by omega)
          have HOF := Lib.hid hoffD
          have HST : Hid (D'.steps = (i : Int)) := show _ = _ by rw [HF.out.steps, HFZ.out.2.1]; omega
          have HNX := Lib.hid (fzAt_next HFZ.out hle HF.out)
          have q1 : decide ((i : Int) < (N : Int)) = true := by simp; omega
          have q2 : ((i : Int) == (N : Int)) = false := by simp; omega
          clear hoffD
          go_wp2_with (first
            | (go_at_call 21; refine (dsteps_to HD5.out (i : Int) HST.out).mono ?_; rintro e w6 ⟨rfl, rfl⟩)
            | (go_at_call 10; refine (don_to HD5.out true HOF.out).mono ?_; rintro e w6 ⟨rfl, rfl⟩)
            | fail)
          go_roundw
          case rel =>
            first
              | exact ⟨i + 1, D', S5, by omega, by omega, by go_num, HD5.out, HNX.out, H5.out.1, H5.out.2⟩
              | ((repeat apply Exists.intro); exact ⟨⟨i + 1, D', S5, by omega, by omega, by go_num, HD5.out, HNX.out, H5.out.1, H5.out.2⟩, rfl⟩)
          case measure => simp [intOf]; omega
        · have hiN : i = N := by omega
          obtain ⟨rfl, hoffD, hwrD⟩ := HF.out.last (by omega)
          have HOF := Lib.hid hoffD
          have HWR := Lib.hid hwrD
          have HST : Hid (D'.steps = (i : Int)) := show _ = _ by rw [HF.out.steps, HFZ.out.2.1]; omega
          have HNX := Lib.hid (fzAt_next HFZ.out hle HF.out)
          have q1 : decide ((i : Int) < (N : Int)) = false := by simp; omega
          have q2 : ((i : Int) == (N : Int)) = true := by simp; omega
          clear hoffD hwrD
          have HIN := Lib.hid hiN
          clear hiN
          go_wp2_with (first
            | (go_at_call 21; refine (dsteps_to HD5.out (i : Int) HST.out).mono ?_; rintro e w6 ⟨rfl, rfl⟩)
            | (go_at_call 10; refine (don_to HD5.out false HOF.out).mono ?_; rintro e w6 ⟨rfl, rfl⟩)
            | (go_at_call 18; refine (dwrites_to HD5.out D.writes HWR.out).mono ?_; rintro e w6 ⟨rfl, rfl⟩)
            | fail)
          go_roundw
          case rel =>
            first
              | exact ⟨i + 1, D', S5, by omega, by omega, by go_num, HD5.out, HNX.out, H5.out.1, H5.out.2⟩
              | ((repeat apply Exists.intro); exact ⟨⟨i + 1, D', S5, by omega, by omega, by go_num, HD5.out, HNX.out, H5.out.1, H5.out.2⟩, rfl⟩)
          case measure => simp [intOf]; omega
    · have hiN : i = N + 1 := by omega
      have t1 : decide ((i : Int) ≤ (N : Int)) = false := by simp; omega
      have HOFF : Hid (D.off = true) := HFZ.out.2.2.2 hiN
      go_wp2_with fail
      (go_at_call 19)
      refine (dsync_to HD.out (by have := HFZ.out.2.1; omega) 6 (sync_down HOFF.out)).mono ?_
      rintro e w5 ⟨rfl, hp5⟩
      obtain ⟨S5, hd5, hbel5, hS5⟩ := post_step H.out.1 H.out.2 hp5
      have HD5 := Lib.hid hd5
      have HB5 := Lib.hid hbel5
      clear hd5 hbel5 hS5 hp5
      go_wp2_with (first
        | (go_at_call 21; refine (dsteps_to HD5.out (N : Int) (by have := HFZ.out.2.1; omega)).mono ?_; rintro e w6 ⟨rfl, rfl⟩)
        | fail)
      go_ret
      exact ⟨by simp, HB5.out⟩
end Go.Proofs.Ytchldjjfaiikbaa
