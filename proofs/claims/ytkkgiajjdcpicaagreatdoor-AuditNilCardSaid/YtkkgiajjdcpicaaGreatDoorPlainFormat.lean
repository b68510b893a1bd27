/- What a formatted device is, and what Open reads of it. Plain. -/
import Derived.Test.YtkkgiajjdcpicaaGreatDoorPagerOpen
namespace Go.Proofs.YtkkgiajjdcpicaaGreatDoor
open Go.PlainAid
set_option maxRecDepth 100000

def fmt0 (limit : Int) : MetaV := ⟨0, 0, 0, 1, limit⟩
def fmt1 (limit : Int) : MetaV := ⟨1, 0, 0, 1, limit⟩
theorem fmt0_ok {limit : Int} (h : 4 ≤ limit ∧ limit ≤ 512) : (fmt0 limit).ok = true := show rightM 0 0 0 1 limit = true from rightM_of (by omega)
theorem fmt1_ok {limit : Int} (h : 4 ≤ limit ∧ limit ≤ 512) : (fmt1 limit).ok = true := show rightM 1 0 0 1 limit = true from rightM_of (by omega)
/-- A device that was made and formatted. -/
def fmtDev (n : Nat) (limit : Int) : DevS := ⟨(List.range n).map fun i => if i = 0 then (fmt0 limit).bytes else if i = 1 then (fmt1 limit).bytes else DevS.noughts, [], false, 0, 3, 2⟩

theorem write_fresh {d : DevS} {i : Int} {s : ByteArray} (ho : d.off = false) (hf : d.fuse = 0) (hi : d.isIn i = true) (hs : s.size = 128) :
    d.write i s = ({ d with row := d.row ++ [(i.toNat, s)], steps := d.steps + 1, writes := d.writes + 1 }, 0) := by
  obtain ⟨sec, row, off, fuse, steps, writes⟩ := d
  simp only at ho hf
  subst ho
  subst hf
  unfold DevS.write
  rw [hi, hs]
  rfl
theorem format_new {n : Nat} {limit : Int} (h : 4 ≤ limit ∧ limit ≤ 512) (hn : 4 * limit ≤ (n : Int)) : formatD (DevS.new n) limit = (fmtDev n limit, 0) := by
  have e0 : metaS 0 0 0 1 limit = (fmt0 limit).bytes := rfl
  have e1 : metaS 1 0 0 1 limit = (fmt1 limit).bytes := rfl
  have s0 := MetaV.size (fmt0_ok h)
  have s1 := MetaV.size (fmt1_ok h)
  have l0 : (DevS.new n).sec.length = n := by simp [DevS.new]
  have w0 : (DevS.new n).write 0 (fmt0 limit).bytes = (⟨(DevS.new n).sec, [(0, (fmt0 limit).bytes)], false, 0, 1, 1⟩, 0) := write_fresh rfl rfl (DevS.isIn_iff.2 ⟨by omega, by rw [l0]; omega⟩) s0
  have w1 : (⟨(DevS.new n).sec, [(0, (fmt0 limit).bytes)], false, 0, 1, 1⟩ : DevS).write 1 (fmt1 limit).bytes = (⟨(DevS.new n).sec, [(0, (fmt0 limit).bytes), (1, (fmt1 limit).bytes)], false, 0, 2, 2⟩, 0) := write_fresh rfl rfl (DevS.isIn_iff.2 ⟨by omega, by simp only; rw [l0]; omega⟩) s1
  unfold formatD
  rw [if_pos ⟨h.1, h.2, by rw [l0]; exact hn⟩, e0, e1, w0]
  simp only [ne_eq, not_true, if_false]
  rw [w1]
  simp only [not_true, if_false]
  unfold DevS.sync
  rw [show (⟨(DevS.new n).sec, [(0, (fmt0 limit).bytes), (1, (fmt1 limit).bytes)], false, 0, 2, 2⟩ : DevS).stepOk = true from rfl, if_pos rfl]
  refine Prod.ext ?_ rfl
  show DevS.synced (⟨(DevS.new n).sec, [(0, (fmt0 limit).bytes), (1, (fmt1 limit).bytes)], false, 0, 3, 2⟩ : DevS) = _
  unfold DevS.synced fmtDev
  simp only [l0]
  congr 1
  refine List.map_congr_left (fun i hi => ?_)
  have hi' : i < n := List.mem_range.1 hi
  unfold DevS.latest DevS.waits waitsOf
  by_cases h0 : i = 0
  · subst h0
    simp
  · by_cases h1 : i = 1
    · subst h1
      simp
    · have h0' : (0 == i) = false := by simpa using fun e => h0 e.symm
      have h1' : (1 == i) = false := by simpa using fun e => h1 e.symm
      simp [h0, h1, h0', h1', DevS.new, hi']

theorem read_still {d : DevS} {i : Nat} (ho : d.off = false) (hr : d.row = []) (hi : i < d.sec.length) : d.read (i : Int) = (d.sec[i], 0) := by
  unfold DevS.read
  rw [DevS.isIn_iff.2 ⟨by omega, by omega⟩, ho, if_pos rfl, if_neg (by simp), Int.toNat_natCast]
  have : d.latest i = d.sec[i] := by
    unfold DevS.latest DevS.waits
    rw [hr]
    simp [waitsOf, hi]
  rw [this]
theorem fmt_read {n : Nat} {limit : Int} (hn : 2 ≤ n) : (fmtDev n limit).read 0 = ((fmt0 limit).bytes, 0) ∧ (fmtDev n limit).read 1 = ((fmt1 limit).bytes, 0) := by
  have l : (fmtDev n limit).sec.length = n := by simp [fmtDev]
  have h0 := read_still (d := fmtDev n limit) (i := 0) rfl rfl (by omega)
  have h1 := read_still (d := fmtDev n limit) (i := 1) rfl rfl (by omega)
  refine ⟨h0.trans ?_, h1.trans ?_⟩
  · simp [fmtDev]
  · simp [fmtDev]
theorem fmt_newest {limit : Int} (h : 4 ≤ limit ∧ limit ≤ 512) : nwI (fmt0 limit).bytes (fmt1 limit).bytes = true := by
  obtain ⟨a0, b0⟩ := unmV_of (fmt0_ok h)
  obtain ⟨a1, b1⟩ := unmV_of (fmt1_ok h)
  have t0 : unmT (fmt0 limit).bytes = 0 := congrArg MetaV.t b0
  have t1 : unmT (fmt1 limit).bytes = 1 := congrArg MetaV.t b1
  unfold nwI
  rw [a1, t0, t1]
  simp
/-- The file of a formatted device. -/
def fmtPg (limit : Int) : PgS := ⟨fmt1 limit, fmt0 limit, true, none, []⟩
theorem fmt_open {n : Nat} {limit : Int} (h : 4 ≤ limit ∧ limit ≤ 512) (hn : 4 * limit ≤ (n : Int)) : openR (fmtDev n limit) = 0 ∧ openP (fmtDev n limit) = fmtPg limit := by
  obtain ⟨r0, r1⟩ := fmt_read (n := n) (limit := limit) (by omega)
  obtain ⟨a0, b0⟩ := unmV_of (fmt0_ok h)
  obtain ⟨a1, b1⟩ := unmV_of (fmt1_ok h)
  have hw := fmt_newest h
  have hs : nwS (fmt0 limit).bytes (fmt1 limit).bytes = (fmt1 limit).bytes := by unfold nwS; rw [hw]; rfl
  have l : (fmtDev n limit).sec.length = n := by simp [fmtDev]
  have hl : unmL (fmt1 limit).bytes = limit := congrArg MetaV.l b1
  constructor
  · unfold openR
    rw [r0, r1, if_neg (by simp), if_neg (by simp), hs, if_pos ⟨a1, by rw [hl, l]; omega⟩]
  · unfold openP restS fmtPg
    rw [r0, r1, hs, hw, b1]
    simp only [if_true]
    rw [a0, b0]

theorem noughts_none : unmB DevS.noughts = false := by
  have hl : numAt DevS.noughts 28 4 = 0 := by decide
  cases h : unmB DevS.noughts with
  | false => rfl
  | true =>
    have h1 := (unmB_yes h).1
    rw [hl] at h1
    have := rightM_yes h1
    omega
theorem new_open {n : Nat} (h0 : 0 < n) : openR (DevS.new n) = if n < 2 then 1 else 4 := by
  have l : (DevS.new n).sec.length = n := by simp [DevS.new]
  have g : ∀ i (hi : i < (DevS.new n).sec.length), (DevS.new n).sec[i] = DevS.noughts := fun i hi => by simp [DevS.new]
  have r0 := read_still (d := DevS.new n) (i := 0) rfl rfl (by omega)
  rw [g 0 (by omega)] at r0
  have r0' : (DevS.new n).read 0 = (DevS.noughts, 0) := r0
  by_cases h2 : n < 2
  · have r1 : (DevS.new n).read 1 = (ByteArray.empty, 1) := by
      unfold DevS.read
      have : (DevS.new n).isIn 1 = false := by unfold DevS.isIn; rw [l]; simp; omega
      rw [this]
      rfl
    unfold openR
    rw [r0', r1, if_neg (by simp), if_pos (by simp), if_pos h2]
  · have r1 := read_still (d := DevS.new n) (i := 1) rfl rfl (by omega)
    rw [g 1 (by omega)] at r1
    have r1' : (DevS.new n).read 1 = (DevS.noughts, 0) := r1
    have hw : nwI DevS.noughts DevS.noughts = false := by unfold nwI; rw [noughts_none]; rfl
    have hs : nwS DevS.noughts DevS.noughts = DevS.noughts := by unfold nwS; rw [hw]; rfl
    unfold openR
    rw [r0', r1', if_neg (by simp), if_neg (by simp), hs, if_neg (by rw [noughts_none]; simp), if_neg h2]
end Go.Proofs.YtkkgiajjdcpicaaGreatDoor
