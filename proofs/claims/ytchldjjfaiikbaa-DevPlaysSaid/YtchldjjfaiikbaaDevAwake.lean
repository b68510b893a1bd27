/- The example of the device's law. -/
import Derived.Test.YtchldjjfaiikbaaDevActs
namespace Go.Proofs.Ytchldjjfaiikbaa
open Go.RowKit
open Go.PlainAid
set_option maxRecDepth 100000
set_option linter.unusedVariables false
set_option linter.unusedSimpArgs false

theorem dwrite_to {g : Nat} {S : List Nat} {D D' : DevS} {w : World} (hd : Dev w g S D) (i : Int) (s : ByteArray) (r : Int) (hb : D.steps ≤ 1000000000) (hsz : s.size ≤ maxLen) (h : D.write i s = (D', r)) :
    Calls Try.prog 20 #[ptr g, .int .i64 i, .string s] w (DevPost g S D' (.int .i64 r) w) := by
  have h1 := dwrite_any hd i s hb hsz
  rw [h] at h1
  exact h1
theorem dread_to {g : Nat} {S : List Nat} {D : DevS} {w : World} (hd : Dev w g S D) (i : Int) (s : ByteArray) (r : Int) (hb : D.steps ≤ 1000000000) (h : D.read i = (s, r)) :
    Calls Try.prog 25 #[ptr g, .int .i64 i] w (ReadPost s r w) := by
  have h1 := dread_any hd i hb
  rw [h] at h1
  exact h1
theorem write_plain {d : DevS} {i : Int} {s : ByteArray} (ho : d.off = false) (hf : d.fuse = 0) (hi : d.isIn i = true) (hs : s.size = 128) :
    d.write i s = ({ d with row := d.row ++ [(i.toNat, s)], steps := d.steps + 1, writes := d.writes + 1 }, 0) := by
  obtain ⟨sec, row, off, fuse, steps, writes⟩ := d
  simp only at ho hf
  subst ho
  subst hf
  unfold DevS.write
  rw [hi, hs]
  rfl

def awS (k : Nat) : DevS := match k with
  | 0 => DevS.new 2
  | 1 => ⟨[DevS.noughts, DevS.noughts], [(0, sectorB 1)], false, 0, 1, 1⟩
  | 2 => ⟨[DevS.noughts, DevS.noughts], [(0, sectorB 1), (0, sectorB 2)], false, 0, 2, 2⟩
  | 3 => ⟨[DevS.noughts, DevS.noughts], [(0, sectorB 1), (0, sectorB 2), (1, sectorB 3)], false, 0, 3, 3⟩
  | 4 => ⟨[DevS.noughts, DevS.noughts], [(0, sectorB 1), (0, sectorB 2), (1, sectorB 3)], true, 0, 3, 3⟩
  | _ => ⟨[sectorB 1, DevS.noughts], [], false, 0, 3, 3⟩
theorem aw1 : (awS 0).write 0 (sectorB 1) = (awS 1, 0) := write_plain rfl rfl (by decide) (sectorB_size 1)
theorem aw2 : (awS 1).write 0 (sectorB 2) = (awS 2, 0) := write_plain rfl rfl (by decide) (sectorB_size 2)
theorem aw3 : (awS 2).write 1 (sectorB 3) = (awS 3, 0) := write_plain rfl rfl (by decide) (sectorB_size 3)
theorem aw4 : (awS 3).cut = (awS 4, 0) := rfl
theorem aw5 : (awS 4).start [1, 0] = (awS 5, 0) := rfl
theorem aw6 : (awS 5).read 0 = (sectorB 1, 0) := rfl
theorem aw7 : (awS 5).read 1 = (sectorB 0, 0) := rfl

/-- Two steps on one device. -/
theorem post_step {g : Nat} {S : List Nat} {D' : DevS} {w0 w w' : World} (hb : Below w0.heap.size w0 w) (hS : ∀ b ∈ S, w0.heap.size ≤ b) (h : ∃ S', Dev w' g S' D' ∧ Off S w w' ∧ Fresh w S S') :
    ∃ S', Dev w' g S' D' ∧ Below w0.heap.size w0 w' ∧ ∀ b ∈ S', w0.heap.size ≤ b := by
  obtain ⟨S', h1, h2, h3⟩ := h
  exact ⟨S', h1, hb.trans (h2.below hb.size hS), fun b hb' => (h3 b hb').elim (hS b) (fun h => Nat.le_trans hb.size h)⟩
theorem sl_new (w : World) (t : TypeId) (xs : List Value) : Sl (w.alloc (.cells xs.toArray t)) (some ⟨w.heap.size, 0, none⟩) xs := by
  intro j u hu
  refine ⟨w.heap.size, 0, rfl, by simp, ?_⟩
  rw [Nat.zero_add, (Bk.new w t xs.toArray).cell j]
  simpa using hu
theorem dcut_to {g : Nat} {S : List Nat} {D D' : DevS} {w : World} (hd : Dev w g S D) (r : Int) (h : D.cut = (D', r)) :
    Calls Try.prog 14 #[ptr g] w (DevPost g S D' (.int .i64 r) w) := by
  have h1 := dcut_any hd
  rw [h] at h1
  exact h1
theorem dstart_to {g : Nat} {S : List Nat} {D D' : DevS} {w : World} (hd : Dev w g S D) (A : Option Addr) (picks : List Int) (n cap : Nat) (hn : n = picks.length) (hp : Sl w A (picks.map (Value.int .i64))) (hpl : picks.length ≤ maxLen) (hpw : ∀ p ∈ picks, p ≤ 9223372036854775807) (hA : picks ≠ [] → ∀ a, A = some a → a.block ∉ S)
    (hb : D.steps ≤ 1000000000) (r : Int) (h : D.start picks = (D', r)) :
    Calls Try.prog 15 #[ptr g, .slice A n cap] w (DevPost g S D' (.int .i64 r) w) := by
  have h1 := dstart_any hd A picks cap hp hpl hpw hA hb
  rw [h] at h1
  subst hn
  exact h1

set_option maxHeartbeats 4000000 in
theorem awake_any (w : World) : Calls Try.prog 7 #[] w (TellsQ true w) := by
  have HN : Hid (∀ W, Calls Try.prog 8 #[.int .i64 2] W (NewPost 2 W)) := fun W => dnew_any 2 W (by decide) (by decide)
  go_enter Try.func7, Try.ntmps7
  go_wp2_with fail
  (go_at_call 8)
  refine (HN.out _).mono ?_
  rintro e w0 ⟨g, S0, rfl, hd0, hbel0, hS0⟩
  have HD0 := Lib.hid hd0
  clear hd0
  have H0 : Hid (Below w.heap.size w w0 ∧ ∀ b ∈ S0, w.heap.size ≤ b) := ⟨hbel0, hS0⟩
  clear hbel0 hS0
  go_wp2_with fail
  (go_at_call 9)
  refine (sector_any 1 _).mono ?_
  rintro e wS1 ⟨rfl, hb1⟩
  have HE1 := Lib.hid (HD0.out.below hb1)
  have HB1 := Lib.hid (H0.out.1.trans (hb1.mono H0.out.1.size))
  clear hb1
  go_wp2_with fail
  (go_at_call 20)
  refine (dwrite_to HE1.out 0 (sectorB 1) 0 (by decide) (by rw [sectorB_size]; decide) aw1).mono ?_
  rintro e w1 ⟨rfl, hp1⟩
  obtain ⟨S1, hd1, hbel1, hS1⟩ := post_step HB1.out H0.out.2 hp1
  have HD1 := Lib.hid hd1
  have H1 : Hid (Below w.heap.size w w1 ∧ ∀ b ∈ S1, w.heap.size ≤ b) := ⟨hbel1, hS1⟩
  clear hd1 hbel1 hS1 hp1
  go_wp2_with fail
  (go_at_call 9)
  refine (sector_any 2 _).mono ?_
  rintro e wS2 ⟨rfl, hb2⟩
  have HE2 := Lib.hid (HD1.out.below hb2)
  have HB2 := Lib.hid (H1.out.1.trans (hb2.mono H1.out.1.size))
  clear hb2
  go_wp2_with fail
  (go_at_call 20)
  refine (dwrite_to HE2.out 0 (sectorB 2) 0 (by decide) (by rw [sectorB_size]; decide) aw2).mono ?_
  rintro e w2 ⟨rfl, hp2⟩
  obtain ⟨S2, hd2, hbel2, hS2⟩ := post_step HB2.out H1.out.2 hp2
  have HD2 := Lib.hid hd2
  have H2 : Hid (Below w.heap.size w w2 ∧ ∀ b ∈ S2, w.heap.size ≤ b) := ⟨hbel2, hS2⟩
  clear hd2 hbel2 hS2 hp2
  go_wp2_with fail
  (go_at_call 9)
  refine (sector_any 3 _).mono ?_
  rintro e wS3 ⟨rfl, hb3⟩
  have HE3 := Lib.hid (HD2.out.below hb3)
  have HB3 := Lib.hid (H2.out.1.trans (hb3.mono H2.out.1.size))
  clear hb3
  go_wp2_with fail
  (go_at_call 20)
  refine (dwrite_to HE3.out 1 (sectorB 3) 0 (by decide) (by rw [sectorB_size]; decide) aw3).mono ?_
  rintro e w3 ⟨rfl, hp3⟩
  obtain ⟨S3, hd3, hbel3, hS3⟩ := post_step HB3.out H2.out.2 hp3
  have HD3 := Lib.hid hd3
  have H3 : Hid (Below w.heap.size w w3 ∧ ∀ b ∈ S3, w.heap.size ≤ b) := ⟨hbel3, hS3⟩
  clear hd3 hbel3 hS3 hp3
  go_wp2_with fail
  (go_at_call 14)
  refine (dcut_to HD3.out 0 aw4).mono ?_
  rintro e w4 ⟨rfl, hp4⟩
  obtain ⟨S4, hd4, hbel4, hS4⟩ := post_step H3.out.1 H3.out.2 hp4
  have HD4 := Lib.hid hd4
  have H4 : Hid (Below w.heap.size w w4 ∧ ∀ b ∈ S4, w.heap.size ≤ b) := ⟨hbel4, hS4⟩
  clear hd4 hbel4 hS4 hp4
  go_wp2_with fail
  (go_at_call 15)
  have HE5 : Hid (Dev (w4.alloc (.cells #[.int .i64 1, .int .i64 0] 3)) g S4 (awS 4)) := HD4.out.off ((Off.refl [] w4).alloc _) (by simp)
  have HB5 : Hid (Below w.heap.size w (w4.alloc (.cells #[.int .i64 1, .int .i64 0] 3))) := H4.out.1.alloc H4.out.1.size _
  have HA5 : Hid ([(1 : Int), 0] ≠ [] → ∀ a, some (⟨w4.heap.size, 0, none⟩ : Addr) = some a → a.block ∉ S4) := fun _ a ha hS => by
    injection ha with ha
    subst ha
    have := HD4.out.old _ hS
    simp at this
  refine (dstart_to HE5.out (some ⟨w4.heap.size, 0, none⟩) [1, 0] 2 2 rfl (sl_new w4 3 [.int .i64 1, .int .i64 0]) (by decide) (by decide) HA5.out (by decide) 0 aw5).mono ?_
  rintro e w5 ⟨rfl, hp5⟩
  obtain ⟨S5, hd5, hbel5, hS5⟩ := post_step HB5.out H4.out.2 hp5
  have HD5 := Lib.hid hd5
  have H5 : Hid (Below w.heap.size w w5 ∧ ∀ b ∈ S5, w.heap.size ≤ b) := ⟨hbel5, hS5⟩
  clear hd5 hbel5 hS5 hp5
  go_wp2_with fail
  (go_at_call 25)
  refine (dread_to HD5.out 0 (sectorB 1) 0 (by decide) aw6).mono ?_
  rintro e w6 ⟨rfl, rfl⟩
  go_wp2_with fail
  (go_at_call 25)
  refine (dread_to HD5.out 1 (sectorB 0) 0 (by decide) aw7).mono ?_
  rintro e w6 ⟨rfl, rfl⟩
  go_wp2_with fail
  (go_at_call 9)
  refine (sector_any 1 _).mono ?_
  rintro e w7 ⟨rfl, hb7⟩
  have HB7 := Lib.hid hb7
  clear hb7
  go_wp2_with fail
  (go_at_call 9)
  refine (sector_any 0 _).mono ?_
  rintro e w8 ⟨rfl, hb8⟩
  have HB8 := Lib.hid hb8
  clear hb8
  go_wp2_with fail
  go_ret
  have hall := (H5.out.1.trans (HB7.out.mono H5.out.1.size))
  exact ⟨by simp, hall.trans (HB8.out.mono hall.size)⟩
end Go.Proofs.Ytchldjjfaiikbaa
