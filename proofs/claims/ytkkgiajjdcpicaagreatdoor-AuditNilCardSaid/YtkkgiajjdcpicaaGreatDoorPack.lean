/- Contract of page.Pack. -/
import Derived.Test.YtkkgiajjdcpicaaGreatDoorRights
import Derived.Test.YtkkgiajjdcpicaaGreatDoorCrc
namespace Go.Proofs.YtkkgiajjdcpicaaGreatDoor
open Go.RowKit
open Go.PlainAid
set_option maxRecDepth 100000

/-- A page's bytes: ahead of the sum, behind it, the sum, all. -/
def pageHead (k n t len : Nat) : List UInt8 := [82, 66] ++ lays [(k, 1), (0, 1), (len, 2), (n, 4), (t, 8)]
def pageTail (b : List UInt8) : List UInt8 := [0, 0] ++ b ++ List.replicate (488 - b.length) 0
def pageSum (k n t : Nat) (b : List UInt8) : Nat := Crc.sum (pageHead k n t b.length ++ [0, 0, 0, 0] ++ pageTail b)
def pageS (k n t : Nat) (b : List UInt8) : List UInt8 := pageHead k n t b.length ++ Be.low (pageSum k n t b) 4 ++ pageTail b

/-- The page's bytes, or none. -/
def packS (k n t : Int) (b : ByteArray) : ByteArray := if rightB k n t b then ⟨(pageS k.toNat n.toNat t.toNat b.data.toList).toArray⟩ else ⟨#[]⟩
def packE (k n t : Int) (b : ByteArray) : Int := if rightB k n t b then 0 else 4
def PackPost (k n t : Int) (b : ByteArray) (w : World) (e : Ending) (w' : World) : Prop := e = .returned (.tuple #[.string (packS k n t b), .int .i64 (packE k n t b)]) ∧ Below w.heap.size w w'

theorem RowAt.lt {w : World} (h : RowAt w) : 0 < w.heap.size := by
  have h0 := h 0 (by decide)
  rcases Nat.lt_or_ge 0 w.heap.size with hl | hl
  · exact hl
  · simp [World.cell?, Array.getElem?_eq_none hl] at h0
theorem RowAt.below {w w' : World} (h : RowAt w) (hb : Below w.heap.size w w') : RowAt w' := fun k hk => (hb.cell (p := ⟨0, k, none⟩) h.lt).trans (h k hk)

theorem sum_lt (l : List UInt8) : Crc.sum l < 4294967296 := by unfold Crc.sum Crc.on; omega

theorem numsAt5 (w : World) (a0 a1 a2 a3 a4 k0 k1 k2 k3 k4 : Nat) (e : TypeId) :
    NumsAt (w.alloc (.cells #[.int .i64 a0, .int .i64 k0, .int .i64 a1, .int .i64 k1, .int .i64 a2, .int .i64 k2, .int .i64 a3, .int .i64 k3, .int .i64 a4, .int .i64 k4] e)) w.heap.size [(a0, k0), (a1, k1), (a2, k2), (a3, k3), (a4, k4)] := by
  have hb := Bk.new w e #[.int .i64 a0, .int .i64 k0, .int .i64 a1, .int .i64 k1, .int .i64 a2, .int .i64 k2, .int .i64 a3, .int .i64 k3, .int .i64 a4, .int .i64 k4]
  refine ⟨hb.lt, ?_⟩
  intro i hi
  have hc : i = 0 ∨ i = 1 ∨ i = 2 ∨ i = 3 ∨ i = 4 := by simp at hi; omega
  rcases hc with rfl | rfl | rfl | rfl | rfl <;> exact ⟨hb.cell _, hb.cell _⟩
theorem numsAt1 (w : World) (a0 k0 : Nat) (e : TypeId) : NumsAt (w.alloc (.cells #[.int .i64 a0, .int .i64 k0] e)) w.heap.size [(a0, k0)] := by
  have hb := Bk.new w e #[.int .i64 a0, .int .i64 k0]
  refine ⟨hb.lt, ?_⟩
  intro i hi
  obtain rfl : i = 0 := by simp at hi; omega
  exact ⟨hb.cell _, hb.cell _⟩

theorem fits5 (k n t len : Nat) (hk : k ≤ 4) (hn : n < 512) (ht : t ≤ 1099511627776) (hl : len ≤ 488) : Fits [(k, 1), (0, 1), (len, 2), (n, 4), (t, 8)] := by
  intro p hp
  simp only [List.mem_cons, List.not_mem_nil, or_false] at hp
  rcases hp with rfl | rfl | rfl | rfl | rfl <;> refine ⟨by simp, by simp, ?_, ?_⟩ <;> simp <;> omega
theorem fits_one4 (s : Nat) (h : s < 4294967296) : Fits [(s, 4)] := by
  intro p hp
  simp only [List.mem_singleton] at hp
  subst hp
  exact ⟨by simp, by simp, by simp; omega, by simp; omega⟩

set_option maxHeartbeats 4000000 in
theorem pack_any (k n t : Int) (b : ByteArray) (w : World) (hr : RowAt w) :
    Calls Tryz.prog 157 #[.agg #[.int .i64 k, .int .i64 n, .int .i64 t, .string b]] w (PackPost k n t b w) := by
  have HR := fun W : World => pright_any k n t b W
  have hb0 : Below w.heap.size w (w.alloc (.cells #[.int .i64 k, .int .i64 n, .int .i64 t, .string b] 118)) := (Below.refl _ _).alloc (Nat.le_refl _) _
  have hbk := Bk.new w 118 #[.int .i64 k, .int .i64 n, .int .i64 t, .string b]
  have hrow0 := hr.below hb0
  cases hq : rightB k n t b with
  | false =>
    rw [hq] at HR
    have H1 := Lib.hid HR
    have HS := Lib.hid (show packS k n t b = ⟨#[]⟩ ∧ packE k n t b = 4 by unfold packS packE; rw [hq]; exact ⟨rfl, rfl⟩)
    clear hq HR
    go_enter Tryz.func157, Tryz.ntmps157
    go_wp2_with (first
      | (go_at_call 212; refine (H1.out _).mono ?_; rintro e w2 ⟨rfl, hb2⟩)
      | fail)
    go_ret2
    exact ⟨by rw [HS.out.1, HS.out.2]; rfl, hb0.trans (hb2.mono hb0.size)⟩
  | true =>
    rw [hq] at HR
    have H1 := Lib.hid HR
    have hS : packS k n t b = ⟨(pageS k.toNat n.toNat t.toNat b.data.toList).toArray⟩ ∧ packE k n t b = 0 := by unfold packS packE; rw [hq]; exact ⟨rfl, rfl⟩
    have HS := Lib.hid hS
    obtain ⟨h1, h2, h3, h4, h5, h6, h7⟩ := rightB_yes hq
    clear hq HR hS
    obtain ⟨kn, rfl⟩ := Int.eq_ofNat_of_zero_le (show 0 ≤ k by omega)
    obtain ⟨nn, rfl⟩ := Int.eq_ofNat_of_zero_le (show 0 ≤ n by omega)
    obtain ⟨tn, rfl⟩ := Int.eq_ofNat_of_zero_le (show 0 ≤ t by omega)
    have hfit := fits5 kn nn tn b.size (by omega) (by omega) (by omega) h7
    have HL1 := Lib.hid fun W : World => lay_any ⟨#[82, 66]⟩ W.heap.size 5 [(kn, 1), (0, 1), (b.size, 2), (nn, 4), (tn, 8)] _ rfl (by simp) (by decide) (numsAt5 W kn 0 b.size nn tn 1 1 2 4 8 256) hfit
    have hhd : (⟨#[82, 66]⟩ ++ ⟨(lays [(kn, 1), (0, 1), (b.size, 2), (nn, 4), (tn, 8)]).toArray⟩ : ByteArray) = ⟨(pageHead kn nn tn b.size).toArray⟩ := by
      apply str_eq
      rw [append_list]
      rfl
    rw [hhd] at HL1
    have HL1a := Lib.hid (show ∀ W : World, Calls Tryz.prog 160 #[.string ⟨#[82, 66]⟩, .slice (some ⟨W.heap.size, 0, none⟩) 5 5] (W.alloc (.cells #[.int .i64 (kn : Int), .int .i64 1, .int .i64 0, .int .i64 1, .int .i64 (b.size : Int), .int .i64 2, .int .i64 (nn : Int), .int .i64 4, .int .i64 (tn : Int), .int .i64 8] 256))
      (TellsS ⟨(pageHead kn nn tn b.size).toArray⟩ (W.alloc (.cells #[.int .i64 (kn : Int), .int .i64 1, .int .i64 0, .int .i64 1, .int .i64 (b.size : Int), .int .i64 2, .int .i64 (nn : Int), .int .i64 4, .int .i64 (tn : Int), .int .i64 8] 256))) from HL1.out)
    clear HL1
    have hhs : (⟨(pageHead kn nn tn b.size).toArray⟩ : ByteArray).size ≤ 18 := by rw [size_list]; unfold pageHead lays; simp [Be.low_len]
    have hts0 : (⟨#[0, 0]⟩ ++ b : ByteArray).size = 2 + b.size := by rw [ByteArray.size_append]; rfl
    have HF := fun W : World => filled_any (⟨#[0, 0]⟩ ++ b) 490 W (by omega) (by decide)
    have htl : (⟨#[0, 0]⟩ ++ b ++ noughts (490 - (⟨#[0, 0]⟩ ++ b : ByteArray).size) : ByteArray) = ⟨(pageTail b.data.toList).toArray⟩ := by
      apply str_eq
      rw [append_list, append_list, hts0, noughts_list, show 490 - (2 + b.size) = 488 - b.size by omega]
      rfl
    rw [htl] at HF
    have HF2 := Lib.hid HF
    have hts : (⟨(pageTail b.data.toList).toArray⟩ : ByteArray).size ≤ 490 := by rw [size_list]; unfold pageTail; simp; omega
    have hsum : (⟨(pageHead kn nn tn b.size).toArray⟩ ++ ⟨#[0, 0, 0, 0]⟩ ++ ⟨(pageTail b.data.toList).toArray⟩ : ByteArray).data.toList = pageHead kn nn tn b.size ++ [0, 0, 0, 0] ++ pageTail b.data.toList := by
      rw [append_list, append_list]
    have hz3 : (⟨(pageHead kn nn tn b.size).toArray⟩ ++ ⟨#[0, 0, 0, 0]⟩ ++ ⟨(pageTail b.data.toList).toArray⟩ : ByteArray).size ≤ maxLen := by
      rw [ByteArray.size_append, ByteArray.size_append]
      have : (⟨#[0, 0, 0, 0]⟩ : ByteArray).size = 4 := rfl
      unfold maxLen
      omega
    have HSm := fun (W : World) (hW : RowAt W) => sum_any (⟨(pageHead kn nn tn b.size).toArray⟩ ++ ⟨#[0, 0, 0, 0]⟩ ++ ⟨(pageTail b.data.toList).toArray⟩) W hz3 hW
    rw [hsum] at HSm
    have hsl := sum_lt (pageHead kn nn tn b.size ++ [0, 0, 0, 0] ++ pageTail b.data.toList)
    have HS2 := Lib.hid (show packS (kn : Int) nn tn b = ⟨(pageHead kn nn tn b.size).toArray⟩ ++ ⟨(Be.low (Crc.sum (pageHead kn nn tn b.size ++ [0, 0, 0, 0] ++ pageTail b.data.toList)) 4).toArray⟩ ++ ⟨(pageTail b.data.toList).toArray⟩ ∧ packE (kn : Int) nn tn b = 0 by
      refine ⟨?_, HS.out.2⟩
      rw [HS.out.1]
      apply str_eq
      rw [append_list, append_list]
      rfl)
    generalize Crc.sum (pageHead kn nn tn b.size ++ [0, 0, 0, 0] ++ pageTail b.data.toList) = sm at *
    have HL2 := fun W : World => lay_any ⟨(pageHead kn nn tn b.size).toArray⟩ W.heap.size 1 [(sm, 4)] _ rfl (by simp) (by omega) (numsAt1 W sm 4 256) (fits_one4 sm hsl)
    have hl1 : lays [(sm, 4)] = Be.low sm 4 := by unfold lays; simp
    rw [hl1] at HL2
    have HL2a := (show ∀ W : World, Calls Tryz.prog 160 #[.string ⟨(pageHead kn nn tn b.size).toArray⟩, .slice (some ⟨W.heap.size, 0, none⟩) 1 1] (W.alloc (.cells #[.int .i64 (sm : Int), .int .i64 4] 256))
      (TellsS (⟨(pageHead kn nn tn b.size).toArray⟩ ++ ⟨(Be.low sm 4).toArray⟩) (W.alloc (.cells #[.int .i64 (sm : Int), .int .i64 4] 256))) from HL2)
    clear HL2
    have hls : (⟨(Be.low sm 4).toArray⟩ : ByteArray).size ≤ 4 := by rw [size_list, Be.low_len]; exact Nat.le_refl _
    have hlc : (⟨(pageHead kn nn tn b.size).toArray⟩ ++ ⟨(Be.low sm 4).toArray⟩ : ByteArray).size ≤ 22 := by rw [ByteArray.size_append]; omega
    generalize (⟨(pageHead kn nn tn b.size).toArray⟩ : ByteArray) = hd at *
    generalize (⟨(Be.low sm 4).toArray⟩ : ByteArray) = ls at *
    generalize (⟨(pageTail b.data.toList).toArray⟩ : ByteArray) = tl at *
    have HSM := Lib.hid HSm
    have HL22 := Lib.hid HL2a
    have HBK := Lib.hid hbk
    have HRW := Lib.hid hrow0
    have HB0 := Lib.hid hb0
    clear HS HSm HL2a HF hsum hz3 htl hts0 hhd hfit hl1 hbk hrow0 hb0 hr h1 h2 h3 h4 h5 h6
    go_enter Tryz.func157, Tryz.ntmps157
    go_wp2_with (first
      | (go_at_call 212; refine (H1.out _).mono ?_; rintro e w2 ⟨rfl, hb2⟩; obtain ⟨z0, z1, z2, z3⟩ := (bk_below HBK.out hb2).four; have HB2 := Lib.hid hb2; clear hb2)
      | (go_at_call 160; (with_reducible refine (HL1a.out _).mono ?_); rintro e w3 ⟨rfl, hb3⟩; have HB3 := Lib.hid (((Below.refl w2.heap.size w2).alloc (Nat.le_refl _) _).trans (hb3.mono (by simp))); obtain ⟨y0, y1, y2, y3⟩ := (bk_below (bk_below HBK.out HB2.out) HB3.out).four; clear hb3)
      | (go_at_call 161; refine (HF2.out _).mono ?_; rintro e w4 ⟨rfl, hb4⟩; have HB4 := Lib.hid hb4; have HRW4 := Lib.hid (((HRW.out.below HB2.out).below HB3.out).below hb4); clear hb4)
      | (go_at_call 162; refine (HSM.out _ HRW4.out).mono ?_; rintro e w' ⟨rfl, rfl⟩)
      | (go_at_call 160; (with_reducible refine (HL22.out _).mono ?_); rintro e w5 ⟨rfl, hb5⟩)
      | fail)
    go_ret2
    have a1 := HB0.out.trans (HB2.out.mono HB0.out.size)
    have a2 := a1.trans (HB3.out.mono a1.size)
    have a3 := a2.trans (HB4.out.mono a2.size)
    have a4 := a3.alloc a3.size (.cells #[.int .i64 (sm : Nat), .int .i64 4] 256)
    exact ⟨by rw [HS2.out.1, HS2.out.2]; rfl, a4.trans (hb5.mono a4.size)⟩
end Go.Proofs.YtkkgiajjdcpicaaGreatDoor
