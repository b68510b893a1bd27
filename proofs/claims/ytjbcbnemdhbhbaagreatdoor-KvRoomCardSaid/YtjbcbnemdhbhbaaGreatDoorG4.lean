import Derived.Test.YtjbcbnemdhbhbaaGreatDoorG1
import Derived.Laws.BitsAllLaws
import Derived.Test.YtjbcbnemdhbhbaaGreatDoorRows
import Derived.Test.YtjbcbnemdhbhbaaGreatDoorTie
import Derived.ProofKit
import Derived.LaidMore
import Derived.OpenShut
import Derived.ShutString
import Derived.ChangeOld
import Derived.Stop.Joined
import Derived.Lib.SmallJoins
import Derived.PlainAid
import Derived.Test.YtjbcbnemdhbhbaaGreatDoorG2
namespace Go.Proofs.YtjbcbnemdhbhbaaGreatDoor
namespace Crc
def bit (r : Nat) : Nat := r / 2 ^^^ (if r % 2 = 1 then 3988292384 else 0)
def bit8 (r : Nat) : Nat := bit (bit (bit (bit (bit (bit (bit (bit r)))))))
def byt (r : Nat) (c : UInt8) : Nat := bit8 (r ^^^ c.toNat)
def reg (r : Nat) (l : List UInt8) : Nat := l.foldl byt r
def on (s : Nat) (l : List UInt8) : Nat := 4294967295 - reg (4294967295 - s) l
def sum (l : List UInt8) : Nat := on 0 l
def row : List Nat := [0x00000000, 0x1db71064, 0x3b6e20c8, 0x26d930ac, 0x76dc4190, 0x6b6b51f4, 0x4db26158, 0x5005713c, 0xedb88320, 0xf00f9344, 0xd6d6a3e8, 0xcb61b38c, 0x9b64c2b0, 0x86d3d2d4, 0xa00ae278, 0xbdbdf21c]
def nib (r : Nat) : Nat := r / 16 ^^^ row.getD (r % 16) 0
theorem half_xor (a b : Nat) : (a ^^^ b) / 2 = a / 2 ^^^ b / 2 := by
 have h := Nat.shiftRight_xor_distrib (a := a) (b := b) (i := 1)
 simpa [Nat.shiftRight_eq_div_pow] using h
theorem mod_xor (a b : Nat) : (a ^^^ b) % 2 = (a % 2 + b % 2) % 2 := by
 have h := Nat.xor_mod_two_pow (a := a) (b := b) (n := 1)
 simp at h
 rw [h]
 rcases Nat.mod_two_eq_zero_or_one a with ha | ha <;> rcases Nat.mod_two_eq_zero_or_one b with hb | hb <;> rw [ha, hb] <;> rfl
theorem xor4 (a b c d : Nat) : (a ^^^ b) ^^^ (c ^^^ d) = (a ^^^ c) ^^^ (b ^^^ d) := by
 rw [Nat.xor_assoc, ← Nat.xor_assoc b c d, Nat.xor_comm b c, Nat.xor_assoc c b d, ← Nat.xor_assoc]
theorem bit_xor (a b : Nat) : bit (a ^^^ b) = bit a ^^^ bit b := by
 unfold bit
 rw [half_xor, mod_xor, xor4]
 congr 1
 rcases Nat.mod_two_eq_zero_or_one a with ha | ha <;> rcases Nat.mod_two_eq_zero_or_one b with hb | hb <;> simp [ha, hb]
theorem bit_even (q : Nat) : bit (2 * q) = q := by
 unfold bit
 rw [if_neg (by omega), Nat.xor_zero]
 omega
theorem bit4_row : ∀ a : Fin 16, bit (bit (bit (bit a.val))) = row.getD a.val 0 := by decide
theorem split16 (r : Nat) : r = 2 * (2 * (2 * (2 * (r / 16)))) ^^^ r % 16 := by
 obtain ⟨x, hx⟩ : ∃ x, x = 2 * (2 * (2 * (2 * (r / 16)))) ^^^ r % 16 := ⟨_, rfl⟩
 rw [← hx]
 have m0 := mod_xor (2 * (2 * (2 * (2 * (r / 16))))) (r % 16)
 have h1 := half_xor (2 * (2 * (2 * (2 * (r / 16))))) (r % 16)
 rw [← hx] at m0 h1
 rw [Nat.mul_div_cancel_left _ (by decide : 0 < 2)] at h1
 have m1 := mod_xor (2 * (2 * (2 * (r / 16)))) (r % 16 / 2)
 have h2 := half_xor (2 * (2 * (2 * (r / 16)))) (r % 16 / 2)
 rw [← h1] at m1 h2
 rw [Nat.mul_div_cancel_left _ (by decide : 0 < 2)] at h2
 have m2 := mod_xor (2 * (2 * (r / 16))) (r % 16 / 2 / 2)
 have h3 := half_xor (2 * (2 * (r / 16))) (r % 16 / 2 / 2)
 rw [← h2] at m2 h3
 rw [Nat.mul_div_cancel_left _ (by decide : 0 < 2)] at h3
 have m3 := mod_xor (2 * (r / 16)) (r % 16 / 2 / 2 / 2)
 have h4 := half_xor (2 * (r / 16)) (r % 16 / 2 / 2 / 2)
 rw [← h3] at m3 h4
 rw [Nat.mul_div_cancel_left _ (by decide : 0 < 2)] at h4
 have z : r % 16 / 2 / 2 / 2 / 2 = 0 := by omega
 rw [z, Nat.xor_zero] at h4
 clear hx h1 h2 h3
 omega
theorem nib_bits (r : Nat) : nib r = bit (bit (bit (bit r))) := by
 conv => rhs; rw [split16 r]
 simp only [bit_xor, bit_even]
 unfold nib
 rw [← bit4_row ⟨r % 16, by omega⟩]
end Crc
end Go.Proofs.YtjbcbnemdhbhbaaGreatDoor
namespace Go.Proofs.YtjbcbnemdhbhbaaGreatDoor
open Go.RowKit
open Go.PlainAid
def RowAt (w : World) : Prop := ∀ k, k < 16 → w.cell? ⟨0, k, none⟩ = some (.int .u32 (Crc.row.getD k 0 : Nat))
def TellsU (n : Nat) (w : World) (e : Ending) (w' : World) : Prop := e = .returned (.int .u32 n) ∧ w = w'
theorem and15 (x : Nat) (h : x < 4294967296) : bits .and .u32 (x : Int) 15 = ((x % 16 : Nat) : Int) := by
 have := u32_and_nat x 15 h (by decide)
 rw [show x &&& 15 = x % 16 from Nat.and_two_pow_sub_one_eq_mod x 4] at this
 exact this
theorem row_lt (k : Nat) : Crc.row.getD k 0 < 4294967296 := by
 by_cases h : k < 16
 · exact (show ∀ k : Fin 16, Crc.row.getD k.val 0 < 4294967296 by decide) ⟨k, h⟩
 · rw [List.getD_eq_getElem?_getD, List.getElem?_eq_none (by simpa [Crc.row] using h)]
   decide
theorem nibXor (x : Nat) (h : x < 4294967296) : bits .xor .u32 ((x : Int) / 16) ((Crc.row.getD (x % 16) 0 : Nat) : Int) = ((Crc.nib x : Nat) : Int) := by
 have := u32_xor_nat (x / 16) (Crc.row.getD (x % 16) 0) (by omega) (row_lt _)
 exact this
theorem nib_lt (x : Nat) (h : x < 4294967296) : Crc.nib x < 4294967296 := Nat.xor_lt_two_pow (n := 32) (by omega) (row_lt _)
theorem not32 (n : Nat) (h : n < 4294967296) : bits .xor .u32 IntKind.u32.max (n : Int) = ((4294967295 - n : Nat) : Int) := by
 have h1 := u32_xor_nat 4294967295 n (by decide) h
 have h2 : 4294967295 ^^^ n = 4294967295 - n := by
   have h3 := BitVec.toNat_not (x := BitVec.ofNat 32 n)
   have h4 := BitVec.toNat_xor (x := BitVec.allOnes 32) (y := BitVec.ofNat 32 n)
   rw [BitVec.allOnes_xor] at h4
   have h5 : (BitVec.ofNat 32 n).toNat = n := by rw [BitVec.toNat_ofNat]; exact Nat.mod_eq_of_lt (by omega)
   have h6 : (BitVec.allOnes 32).toNat = 4294967295 := by decide
   rw [h5, h6] at h4
   rw [← h4, h3, h5]
 rw [h2] at h1
 exact h1
theorem byt_nib (r : Nat) (c : UInt8) : Crc.byt r c = Crc.nib (Crc.nib (r ^^^ c.toNat)) := by
 unfold Crc.byt Crc.bit8
 rw [Crc.nib_bits, Crc.nib_bits]
theorem reg_snoc (r : Nat) (l : List UInt8) (c : UInt8) : Crc.reg r (l ++ [c]) = Crc.byt (Crc.reg r l) c := by unfold Crc.reg; rw [List.foldl_append]; rfl
theorem take_snoc (s : ByteArray) (k : Nat) (h : k < s.size) : s.data.toList.take (k + 1) = s.data.toList.take k ++ [s[k]] := by
 rw [List.take_succ_eq_append_getElem (by simpa using h)]; rfl
set_option maxRecDepth 100000 in
set_option maxHeartbeats 1000000 in
theorem crcOn_any (s : ByteArray) (w : World) (hs : s.size ≤ maxLen) (hr : RowAt w) :
   Calls Tryz.prog 94 #[.int .u32 0, .string s] w (TellsU (Crc.sum s.data.toList) w) := by
 unfold maxLen at hs
 have HR := Lib.hid hr
 clear hr
 have e0 : bits .xor .u32 IntKind.u32.max 0 = ((4294967295 : Nat) : Int) := not32 0 (by decide)
 go_enter Tryz.func94, Tryz.ntmps94
 go_wp2_with fail
 clear e0
 go_loop [5, 11] (fun r i => ∃ (k n : Nat), i = .int .i64 k ∧ r = .int .u32 n ∧ k ≤ s.size ∧ Hid (n < 4294967296) ∧ Hid (n = Crc.reg 4294967295 (s.data.toList.take k))) (fun _ i => s.size - (intOf i).toNat)
 case atStart => exact ⟨0, _, rfl, rfl, Nat.zero_le _, show _ < _ by decide, show _ = _ by simp [Crc.reg]⟩
 case round =>
   obtain ⟨k, n, rfl, rfl, hk, HL, HN⟩ := hrel
   by_cases hlt : k < s.size
   · have hc := s[k].toNat_lt
     have e1 := u32_xor_nat n s[k].toNat HL.out (by omega)
     have HX := Lib.hid (show n ^^^ s[k].toNat < 4294967296 from Nat.xor_lt_two_pow (n := 32) HL.out (by omega))
     have HE := Lib.hid (show Crc.byt n s[k] = _ from byt_nib n s[k])
     have HT := Lib.hid (take_snoc s k hlt)
     generalize n ^^^ s[k].toNat = x at *
     have HM := Lib.hid (nib_lt x HX.out)
     have e2 := and15 x HX.out
     have e3 := nibXor x HX.out
     have hm : x % 16 < 16 := by omega
     have c1 := HR.out (x % 16) hm
     generalize x % 16 = m at *
     generalize Crc.row.getD m 0 = a at *
     generalize Crc.nib x = y at *
     have e4 := and15 y HM.out
     have e5 := nibXor y HM.out
     have HZ := Lib.hid (nib_lt y HM.out)
     have hm2 : y % 16 < 16 := by omega
     have c2 := HR.out (y % 16) hm2
     generalize y % 16 = m2 at *
     generalize Crc.row.getD m2 0 = a2 at *
     generalize Crc.nib y = z at *
     have e6 : ((s[k].toNat : Nat) : Int) % 4294967296 = s[k].toNat := by omega
     clear hc
     go_wp2_with fail
     go_round
     case rel => exact ⟨k + 1, z, by go_num, rfl, by omega, HZ.out, show _ = _ by rw [HT.out, reg_snoc, ← HN.out, HE.out]⟩
     case measure => simp [intOf]; omega
   · have e9 := not32 n HL.out
     have HE : Hid (n = Crc.reg 4294967295 s.data.toList) := by
       have := HN.out
       rw [List.take_of_length_le (by rw [len_size]; omega)] at this
       exact this
     go_wp2_with fail
     go_ret
     refine ⟨?_, rfl⟩
     rw [show Crc.sum s.data.toList = 4294967295 - n by unfold Crc.sum Crc.on; rw [HE.out]]
     rfl
theorem sum_any (s : ByteArray) (w : World) (hs : s.size ≤ maxLen) (hr : RowAt w) :
   Calls Tryz.prog 177 #[.string s] w (TellsU (Crc.sum s.data.toList) w) := by
 have H := Lib.hid (crcOn_any s w hs hr)
 clear hr
 go_enter Tryz.func177, Tryz.ntmps177
 go_wp2_with (go_at_call 94; refine H.out.mono ?_; rintro e w' ⟨rfl, rfl⟩)
 go_ret
 exact ⟨rfl, rfl⟩
end Go.Proofs.YtjbcbnemdhbhbaaGreatDoor
namespace Go.Proofs.YtjbcbnemdhbhbaaGreatDoor
open Go.ChangeShapes Go.WideShapes Go.ChangeAt Go.RowKit Go.Joins
set_option maxRecDepth 100000
set_option linter.unusedVariables false
theorem ownD : ownKnob Tryz.prog.godebug = none := by kernel_rfl
theorem laidOutD : laidOutB Tryz.prog = true := by kernel_rfl
theorem gRow : Tryz.prog.globalNamed "rollbook/crc.row" = some 0 := by kernel_rfl
theorem tRow : (Tryz.prog.globals[0]?).map (·.type) = some 231 := by kernel_rfl
abbrev theLaid : List (String × DataW Unit) := [("rollbook/crc.row", Rows.laid_rollbook_crc_row)]
theorem door_met (os : Os) (args : Array Value) : laidMetH Tryz.prog theLaid ((World.doorLaid Tryz.prog 400 os).forCall (fun _ _ => 0) ⟨#[], args, []⟩).memory :=
 laidMetH_of_parts3 (fuel := 8) (laidMet_of_run' 8 (by kernel_rfl) (by kernel_rfl)) (by kernel_rfl) (by kernel_rfl)
theorem of_laid {W : World} (h : laidMetH Tryz.prog theLaid W) : RowAt W := by
 rw [MakeChecks.laidMetH_plain _ _ _ (by kernel_rfl)] at h
 obtain ⟨ps, ⟨g0, t0, cs0, f0, p0, q0, hg0, ht0, hv0, hd0, _, _⟩, _, _⟩ := h
 obtain rfl := Option.some.inj (gRow.symm.trans hg0)
 obtain rfl := Option.some.inj (tRow.symm.trans ht0)
 obtain ⟨xs, m, rfl, hx, hlen, hn, hel⟩ := DataW.trod_array Tryz.underlying231 hd0
 have c1 : Tryz.prog.cellsOf 81 = 1 := by kernel_rfl
 rw [c1] at hel
 have hx1 : Rows.laid_rollbook_crc_row = DataW.agg (xs.map (·.1)) := (Prod.mk.injEq _ _ _ _ ▸ hx).1
 intro k hk
 have h1 := hel k hk
 have hxk : k < xs.length := by omega
 rw [List.getElem?_eq_getElem hxk] at h1
 obtain ⟨n, e1, e2, _⟩ := DataW.trod_int Tryz.underlying81 h1
 rw [World.var?_cell hg0 hv0 k]
 have hc : cs0.toList[k]? = some (.int .u32 n) := by
   have h2 := congrArg (fun l => l[0]?) e1
   simp only [List.getElem?_take, Nat.mul_one] at h2
   simpa using h2
 rw [Array.getElem?_toList] at hc
 rw [hc]
 have e3 : (xs.map (·.1))[k]? = some (.lit (.int .u32 n)) := by
   rw [List.getElem?_map, List.getElem?_eq_getElem hxk, e2]
   rfl
 have e4 : ∀ k, k < 16 → (match (Rows.laid_rollbook_crc_row : DataW Unit) with | .agg l => l[k]? | _ => Option.none) = some (.lit (.int .u32 ((Crc.row.getD k 0 : Nat) : Int))) := by
   intro k hk
   unfold Rows.laid_rollbook_crc_row
   have : k = 0 ∨ k = 1 ∨ k = 2 ∨ k = 3 ∨ k = 4 ∨ k = 5 ∨ k = 6 ∨ k = 7 ∨ k = 8 ∨ k = 9 ∨ k = 10 ∨ k = 11 ∨ k = 12 ∨ k = 13 ∨ k = 14 ∨ k = 15 := by omega
   rcases this with rfl | rfl | rfl | rfl | rfl | rfl | rfl | rfl | rfl | rfl | rfl | rfl | rfl | rfl | rfl | rfl <;> rfl
 have e5 := e4 k hk
 rw [hx1] at e5
 simp only at e5
 rw [e3] at e5
 injection e5 with e5
 injection e5 with e5
 injection e5 with _ e5
 rw [e5]
section
variable {H : Type} {enc : TypeId × Value → H} {W : World} {base b0 : Nat} {spare : Nat → Bool} {held : Bool} {r : Reach} {v : Value} {d : DataW H} {p : List MemPlace}
end
end Go.Proofs.YtjbcbnemdhbhbaaGreatDoor
namespace Go.Proofs.YtjbcbnemdhbhbaaGreatDoor
open Go.PlainAid
structure DevS where
 sec : List ByteArray
 row : List (Nat × ByteArray)
 off : Bool
 fuse : Int
 steps : Int
 writes : Int
def waitsOf (row : List (Nat × ByteArray)) (i : Nat) : List ByteArray := (row.filter fun x => x.1 == i).map (·.2)
namespace DevS
def waits (d : DevS) (i : Nat) : List ByteArray := waitsOf d.row i
def isIn (d : DevS) (i : Int) : Bool := decide (0 ≤ i) && decide (i < (d.sec.length : Int))
def stepOk (d : DevS) : Bool := !d.off && !(d.fuse == 1)
def stepped (d : DevS) : DevS :=
 if d.off then d else { d with off := d.fuse == 1, fuse := max 0 (d.fuse - 1), steps := d.steps + 1 }
def write (d : DevS) (i : Int) (s : ByteArray) : DevS × Int :=
 if d.isIn i && s.size == 128 then
   if d.stepOk then ({ d.stepped with row := d.row ++ [(i.toNat, s)], writes := d.writes + 1 }, 0) else (d.stepped, 6)
 else (d, 1)
def latest (d : DevS) (i : Nat) : ByteArray := (d.waits i).getLastD (d.sec.getD i ByteArray.empty)
def read (d : DevS) (i : Int) : ByteArray × Int :=
 if d.isIn i then if d.off then (ByteArray.empty, 6) else (d.latest i.toNat, 0) else (ByteArray.empty, 1)
def synced (d : DevS) : DevS := { d with sec := (List.range d.sec.length).map d.latest, row := [] }
def sync (d : DevS) : DevS × Int := if d.stepOk then (d.stepped.synced, 0) else (d.stepped, 6)
def cut (d : DevS) : DevS × Int := if d.off then (d, 6) else ({ d with off := true, fuse := 0 }, 0)
def busy (d : DevS) (i : Nat) : Bool := !(d.waits i).isEmpty
def turn (d : DevS) (i : Nat) : Nat := ((List.range i).filter d.busy).length
def pick (picks : List Int) (k : Nat) : Nat := if picks = [] then 0 else (picks.getD (k % picks.length) 0).toNat
def kept (d : DevS) (picks : List Int) (i : Nat) : ByteArray :=
 if pick picks (d.turn i) % ((d.waits i).length + 1) = 0 then d.sec.getD i ByteArray.empty
 else (d.waits i).getD (pick picks (d.turn i) % ((d.waits i).length + 1) - 1) ByteArray.empty
def lasts (d : DevS) (i : Int) : ByteArray := if d.isIn i then d.sec.getD i.toNat ByteArray.empty else ByteArray.empty
def noughts : ByteArray := ⟨(List.replicate 128 (0 : UInt8)).toArray⟩
def new (n : Nat) : DevS := ⟨List.replicate n noughts, [], false, 0, 0, 0⟩
structure Ok (d : DevS) : Prop where
 some : 0 < d.sec.length
 most : d.sec.length ≤ 2048
 secs : ∀ s ∈ d.sec, s.size = 128
 rows : ∀ x ∈ d.row, x.1 < d.sec.length ∧ x.2.size = 128
 fuse0 : 0 ≤ d.fuse
 fuse1 : d.fuse ≤ 9223372036854775807
 rowW : (d.row.length : Int) ≤ d.writes
 writesS : d.writes ≤ d.steps
end DevS
theorem waitsOf_snoc (row : List (Nat × ByteArray)) (i j : Nat) (s : ByteArray) : waitsOf (row ++ [(i, s)]) j = if i = j then waitsOf row j ++ [s] else waitsOf row j := by
 unfold waitsOf
 rw [List.filter_append]
 by_cases h : i = j
 · rw [if_pos h]; simp [h]
 · rw [if_neg h]; simp [h]
theorem waitsOf_length_le (row : List (Nat × ByteArray)) (i : Nat) : (waitsOf row i).length ≤ row.length := by
 unfold waitsOf
 rw [List.length_map]
 exact List.length_filter_le _ _
theorem waitsOf_mem {row : List (Nat × ByteArray)} {i : Nat} {s : ByteArray} (h : s ∈ waitsOf row i) : (i, s) ∈ row := by
 unfold waitsOf at h
 obtain ⟨x, hx, rfl⟩ := List.mem_map.1 h
 obtain ⟨h1, h2⟩ := List.mem_filter.1 hx
 have : x.1 = i := by simpa using h2
 obtain ⟨a, b⟩ := x
 simp only at this
 subst this
 exact h1
namespace DevS
theorem isIn_iff {d : DevS} {i : Int} : d.isIn i = true ↔ 0 ≤ i ∧ i < (d.sec.length : Int) := by unfold isIn; simp
theorem waits_nil_of_ge {d : DevS} (h : d.Ok) {i : Nat} (hi : d.sec.length ≤ i) : d.waits i = [] := by
 cases hw : d.waits i with
 | nil => rfl
 | cons s l =>
   have := waitsOf_mem (row := d.row) (i := i) (s := s) (by unfold waits at hw; rw [hw]; exact List.mem_cons_self)
   have := (h.rows _ this).1
   simp only at this
   omega
theorem stepped_sec (d : DevS) : d.stepped.sec = d.sec := by unfold stepped; split <;> rfl
theorem stepped_row (d : DevS) : d.stepped.row = d.row := by unfold stepped; split <;> rfl
theorem stepped_writes (d : DevS) : d.stepped.writes = d.writes := by unfold stepped; split <;> rfl
theorem Ok.stepped {d : DevS} (h : d.Ok) : d.stepped.Ok := by
 unfold DevS.stepped
 split
 · exact h
 · exact ⟨h.some, h.most, h.secs, h.rows, Int.le_max_left _ _, by have := h.fuse1; show max 0 (d.fuse - 1) ≤ _; omega, h.rowW, by have := h.writesS; show d.writes ≤ d.steps + 1; omega⟩
theorem latest_mem {d : DevS} {i : Nat} (h : i < d.sec.length) : d.latest i ∈ d.waits i ∨ (d.waits i = [] ∧ d.latest i = d.sec[i]) := by
 unfold latest
 cases hw : d.waits i with
 | nil => exact .inr ⟨rfl, by simp [h]⟩
 | cons s l => exact .inl (by rw [List.getLastD_eq_getLast?, List.getLast?_eq_some_getLast (by simp), Option.getD_some]; exact List.getLast_mem _)
theorem latest_size {d : DevS} (h : d.Ok) {i : Nat} (hi : i < d.sec.length) : (d.latest i).size = 128 := by
 rcases latest_mem hi with hm | ⟨_, he⟩
 · exact (h.rows _ (waitsOf_mem hm)).2
 · rw [he]; exact h.secs _ (List.getElem_mem hi)
theorem Ok.synced {d : DevS} (h : d.Ok) : d.synced.Ok := by
 refine ⟨by simpa [DevS.synced] using h.some, by simpa [DevS.synced] using h.most, ?_, by simp [DevS.synced], h.fuse0, h.fuse1, ?_, h.writesS⟩
 · intro s hs
   simp only [DevS.synced, List.mem_map, List.mem_range] at hs
   obtain ⟨i, hi, rfl⟩ := hs
   exact latest_size h hi
 · have := h.rowW; simp only [DevS.synced, List.length_nil]; omega
theorem Ok.write {d : DevS} (h : d.Ok) (i : Int) (s : ByteArray) : (d.write i s).1.Ok := by
 unfold DevS.write
 split
 · rename_i hc
   obtain ⟨h1, h2⟩ : d.isIn i = true ∧ s.size = 128 := by simpa using hc
   rw [isIn_iff] at h1
   split
   · rename_i hk
     have hs := h.stepped
     refine ⟨hs.some, hs.most, hs.secs, ?_, hs.fuse0, hs.fuse1, ?_, ?_⟩
     · intro x hx
       simp only [stepped_sec]
       rcases List.mem_append.1 hx with hx | hx
       · exact h.rows x hx
       · obtain rfl : x = (i.toNat, s) := by simpa using hx
         exact ⟨by simp only; omega, h2⟩
     · have := h.rowW; simp only [List.length_append, List.length_singleton]; omega
     · have := h.writesS
       have hoff : d.off = false := by unfold stepOk at hk; simp at hk; exact hk.1
       simp only [DevS.stepped, hoff]
       show d.writes + 1 ≤ d.steps + 1
       omega
   · exact h.stepped
 · exact h
theorem Ok.sync {d : DevS} (h : d.Ok) : d.sync.1.Ok := by
 unfold DevS.sync
 split
 · exact h.stepped.synced
 · exact h.stepped
theorem Ok.cut {d : DevS} (h : d.Ok) : d.cut.1.Ok := by
 unfold DevS.cut
 split
 · exact h
 · exact ⟨h.some, h.most, h.secs, h.rows, Int.le_refl _, by show (0 : Int) ≤ _; omega, h.rowW, h.writesS⟩
theorem Ok.steps0 {d : DevS} (h : d.Ok) : 0 ≤ d.steps := by have := h.rowW; have := h.writesS; omega
theorem Ok.writes0 {d : DevS} (h : d.Ok) : 0 ≤ d.writes := by have := h.rowW; omega
theorem noughts_size : noughts.size = 128 := by simp [noughts, ByteArray.size]
theorem Ok.new {n : Nat} (h0 : 0 < n) (h1 : n ≤ 2048) : (new n).Ok := by
 refine ⟨by simpa [DevS.new] using h0, by simpa [DevS.new] using h1, ?_, by simp [DevS.new], Int.le_refl _, by show (0 : Int) ≤ _; omega, Int.le_refl _, Int.le_refl _⟩
 intro s hs
 obtain ⟨_, rfl⟩ := List.mem_replicate.1 (show s ∈ List.replicate n noughts from hs)
 exact noughts_size
end DevS
end Go.Proofs.YtjbcbnemdhbhbaaGreatDoor
namespace Go.Proofs.YtjbcbnemdhbhbaaGreatDoor
open Go.RowKit
open Go.PlainAid
set_option maxRecDepth 100000
def rightB (k n t : Int) (b : ByteArray) : Bool := decide (1 ≤ k) && decide (k ≤ 4) && decide (1 ≤ n) && decide (n < 512) && decide (0 ≤ t) && decide (t ≤ 1099511627776) && decide (b.size ≤ 488)
theorem rightB_yes {k n t : Int} {b : ByteArray} (h : rightB k n t b = true) : 1 ≤ k ∧ k ≤ 4 ∧ 1 ≤ n ∧ n < 512 ∧ 0 ≤ t ∧ t ≤ 1099511627776 ∧ b.size ≤ 488 := by
 unfold rightB at h
 simp only [Bool.and_eq_true, decide_eq_true_eq] at h
 obtain ⟨⟨⟨⟨⟨⟨a, b⟩, c⟩, d⟩, e⟩, f⟩, g⟩ := h
 exact ⟨a, b, c, d, e, f, g⟩
theorem rightB_no {k n t : Int} {b : ByteArray} (h : rightB k n t b = false) : k < 1 ∨ (1 ≤ k ∧ 4 < k) ∨ (1 ≤ k ∧ k ≤ 4 ∧ n < 1) ∨ (1 ≤ k ∧ k ≤ 4 ∧ 1 ≤ n ∧ 512 ≤ n) ∨ (1 ≤ k ∧ k ≤ 4 ∧ 1 ≤ n ∧ n < 512 ∧ t < 0) ∨
   (1 ≤ k ∧ k ≤ 4 ∧ 1 ≤ n ∧ n < 512 ∧ 0 ≤ t ∧ 1099511627776 < t) ∨ (1 ≤ k ∧ k ≤ 4 ∧ 1 ≤ n ∧ n < 512 ∧ 0 ≤ t ∧ t ≤ 1099511627776 ∧ 488 < b.size) := by
 unfold rightB at h
 simp only [Bool.and_eq_false_iff, decide_eq_false_iff_not] at h
 omega
set_option maxHeartbeats 2000000 in
theorem pright_yes (k n t : Int) (b : ByteArray) (w : World) (h : rightB k n t b = true) :
   Calls Tryz.prog 229 #[.agg #[.int .i64 k, .int .i64 n, .int .i64 t, .string b]] w (TellsQ true w) := by
 obtain ⟨h1, h2, h3, h4, h5, h6, h7⟩ := rightB_yes h
 have q1 : decide (1 ≤ k) = true := by simp; omega
 have q2 : decide (k ≤ 4) = true := by simp; omega
 have q3 : decide (1 ≤ n) = true := by simp; omega
 have q4 : decide (n < 512) = true := by simp; omega
 have q5 : decide (0 ≤ t) = true := by simp; omega
 have q6 : decide (t ≤ 1099511627776) = true := by simp; omega
 have q7 : decide ((b.size : Int) ≤ 488) = true := by simp; omega
 clear h h1 h2 h3 h4 h5 h6 h7
 go_enter Tryz.func229, Tryz.ntmps229
 go_wp2_with fail
 go_ret
 exact tellsQ_of rfl ((Below.refl _ _).alloc (Nat.le_refl _) _)
set_option maxHeartbeats 4000000 in
theorem pright_no (k n t : Int) (b : ByteArray) (w : World) (h : rightB k n t b = false) :
   Calls Tryz.prog 229 #[.agg #[.int .i64 k, .int .i64 n, .int .i64 t, .string b]] w (TellsQ false w) := by
 have hd := rightB_no h
 clear h
 rcases hd with h | ⟨h1, h⟩ | ⟨h1, h2, h⟩ | ⟨h1, h2, h3, h⟩ | ⟨h1, h2, h3, h4, h⟩ | ⟨h1, h2, h3, h4, h5, h⟩ | ⟨h1, h2, h3, h4, h5, h6, h⟩
 all_goals
   go_enter Tryz.func229, Tryz.ntmps229
   go_wp2_with fail
   go_ret
   exact tellsQ_of (by first | rfl | (symm; simp; omega)) ((Below.refl _ _).alloc (Nat.le_refl _) _)
theorem pright_any (k n t : Int) (b : ByteArray) (w : World) :
   Calls Tryz.prog 229 #[.agg #[.int .i64 k, .int .i64 n, .int .i64 t, .string b]] w (TellsQ (rightB k n t b) w) := by
 cases h : rightB k n t b with
 | true => exact pright_yes _ _ _ _ _ h
 | false => exact pright_no _ _ _ _ _ h
def pageHead (k n t len : Nat) : List UInt8 := [82, 66] ++ lays [(k, 1), (0, 1), (len, 2), (n, 4), (t, 8)]
def pageTail (b : List UInt8) : List UInt8 := [0, 0] ++ b ++ List.replicate (488 - b.length) 0
def pageSum (k n t : Nat) (b : List UInt8) : Nat := Crc.sum (pageHead k n t b.length ++ [0, 0, 0, 0] ++ pageTail b)
def pageS (k n t : Nat) (b : List UInt8) : List UInt8 := pageHead k n t b.length ++ Be.low (pageSum k n t b) 4 ++ pageTail b
def packS (k n t : Int) (b : ByteArray) : ByteArray := if rightB k n t b then ⟨(pageS k.toNat n.toNat t.toNat b.data.toList).toArray⟩ else ⟨#[]⟩
def packE (k n t : Int) (b : ByteArray) : Int := if rightB k n t b then 0 else 4
def PackPost (k n t : Int) (b : ByteArray) (w : World) (e : Ending) (w' : World) : Prop := e = .returned (.tuple #[.string (packS k n t b), .int .i64 (packE k n t b)]) ∧ Below w.heap.size w w'
theorem RowAt.lt {w : World} (h : RowAt w) : 0 < w.heap.size := by
 have h0 := h 0 (by decide)
 rcases Nat.lt_or_ge 0 w.heap.size with hl | hl
 · exact hl
 · simp [World.cell?, Array.getElem?_eq_none hl] at h0
theorem RowAt.below {w w' : World} (h : RowAt w) (hb : Below w.heap.size w w') : RowAt w' := fun k hk => (hb.cell (p := ⟨0, k, none⟩) h.lt).trans (h k hk)
theorem sum_lt (l : List UInt8) : Crc.sum l < 4294967296 := by unfold Crc.sum Crc.on; omega
theorem numsAt5 (w : World) (a0 a1 a2 a3 a4 k0 k1 k2 k3 k4 : Nat) (e : TypeId) :
   NumsAt (w.alloc (.cells #[.int .i64 a0, .int .i64 k0, .int .i64 a1, .int .i64 k1, .int .i64 a2, .int .i64 k2, .int .i64 a3, .int .i64 k3, .int .i64 a4, .int .i64 k4] e)) w.heap.size [(a0, k0), (a1, k1), (a2, k2), (a3, k3), (a4, k4)] := by
 have hb := Bk.new w e #[.int .i64 a0, .int .i64 k0, .int .i64 a1, .int .i64 k1, .int .i64 a2, .int .i64 k2, .int .i64 a3, .int .i64 k3, .int .i64 a4, .int .i64 k4]
 refine ⟨hb.lt, ?_⟩
 intro i hi
 have hc : i = 0 ∨ i = 1 ∨ i = 2 ∨ i = 3 ∨ i = 4 := by simp at hi; omega
 rcases hc with rfl | rfl | rfl | rfl | rfl <;> exact ⟨hb.cell _, hb.cell _⟩
theorem numsAt1 (w : World) (a0 k0 : Nat) (e : TypeId) : NumsAt (w.alloc (.cells #[.int .i64 a0, .int .i64 k0] e)) w.heap.size [(a0, k0)] := by
 have hb := Bk.new w e #[.int .i64 a0, .int .i64 k0]
 refine ⟨hb.lt, ?_⟩
 intro i hi
 obtain rfl : i = 0 := by simp at hi; omega
 exact ⟨hb.cell _, hb.cell _⟩
theorem fits5 (k n t len : Nat) (hk : k ≤ 4) (hn : n < 512) (ht : t ≤ 1099511627776) (hl : len ≤ 488) : Fits [(k, 1), (0, 1), (len, 2), (n, 4), (t, 8)] := by
 intro p hp
 simp only [List.mem_cons, List.not_mem_nil, or_false] at hp
 rcases hp with rfl | rfl | rfl | rfl | rfl <;> refine ⟨by simp, by simp, ?_, ?_⟩ <;> simp <;> omega
theorem fits_one4 (s : Nat) (h : s < 4294967296) : Fits [(s, 4)] := by
 intro p hp
 simp only [List.mem_singleton] at hp
 subst hp
 exact ⟨by simp, by simp, by simp; omega, by simp; omega⟩
set_option maxHeartbeats 4000000 in
theorem pack_any (k n t : Int) (b : ByteArray) (w : World) (hr : RowAt w) :
   Calls Tryz.prog 172 #[.agg #[.int .i64 k, .int .i64 n, .int .i64 t, .string b]] w (PackPost k n t b w) := by
 have HR := fun W : World => pright_any k n t b W
 have hb0 : Below w.heap.size w (w.alloc (.cells #[.int .i64 k, .int .i64 n, .int .i64 t, .string b] 126)) := (Below.refl _ _).alloc (Nat.le_refl _) _
 have hbk := Bk.new w 126 #[.int .i64 k, .int .i64 n, .int .i64 t, .string b]
 have hrow0 := hr.below hb0
 cases hq : rightB k n t b with
 | false =>
   rw [hq] at HR
   have H1 := Lib.hid HR
   have HS := Lib.hid (show packS k n t b = ⟨#[]⟩ ∧ packE k n t b = 4 by unfold packS packE; rw [hq]; exact ⟨rfl, rfl⟩)
   clear hq HR
   go_enter Tryz.func172, Tryz.ntmps172
   go_wp2_with (first
     | (go_at_call 229; refine (H1.out _).mono ?_; rintro e w2 ⟨rfl, hb2⟩)
     | fail)
   go_ret2
   exact ⟨by rw [HS.out.1, HS.out.2]; rfl, hb0.trans (hb2.mono hb0.size)⟩
 | true =>
   rw [hq] at HR
   have H1 := Lib.hid HR
   have hS : packS k n t b = ⟨(pageS k.toNat n.toNat t.toNat b.data.toList).toArray⟩ ∧ packE k n t b = 0 := by unfold packS packE; rw [hq]; exact ⟨rfl, rfl⟩
   have HS := Lib.hid hS
   obtain ⟨h1, h2, h3, h4, h5, h6, h7⟩ := rightB_yes hq
   clear hq HR hS
   obtain ⟨kn, rfl⟩ := Int.eq_ofNat_of_zero_le (show 0 ≤ k by omega)
   obtain ⟨nn, rfl⟩ := Int.eq_ofNat_of_zero_le (show 0 ≤ n by omega)
   obtain ⟨tn, rfl⟩ := Int.eq_ofNat_of_zero_le (show 0 ≤ t by omega)
   have hfit := fits5 kn nn tn b.size (by omega) (by omega) (by omega) h7
   have HL1 := Lib.hid fun W : World => lay_any ⟨#[82, 66]⟩ W.heap.size 5 [(kn, 1), (0, 1), (b.size, 2), (nn, 4), (tn, 8)] _ rfl (by simp) (by decide) (numsAt5 W kn 0 b.size nn tn 1 1 2 4 8 268) hfit
   have hhd : (⟨#[82, 66]⟩ ++ ⟨(lays [(kn, 1), (0, 1), (b.size, 2), (nn, 4), (tn, 8)]).toArray⟩ : ByteArray) = ⟨(pageHead kn nn tn b.size).toArray⟩ := by
     apply str_eq
     rw [append_list]
     rfl
   rw [hhd] at HL1
   have HL1a := Lib.hid (show ∀ W : World, Calls Tryz.prog 175 #[.string ⟨#[82, 66]⟩, .slice (some ⟨W.heap.size, 0, none⟩) 5 5] (W.alloc (.cells #[.int .i64 (kn : Int), .int .i64 1, .int .i64 0, .int .i64 1, .int .i64 (b.size : Int), .int .i64 2, .int .i64 (nn : Int), .int .i64 4, .int .i64 (tn : Int), .int .i64 8] 268))
     (TellsS ⟨(pageHead kn nn tn b.size).toArray⟩ (W.alloc (.cells #[.int .i64 (kn : Int), .int .i64 1, .int .i64 0, .int .i64 1, .int .i64 (b.size : Int), .int .i64 2, .int .i64 (nn : Int), .int .i64 4, .int .i64 (tn : Int), .int .i64 8] 268))) from HL1.out)
   clear HL1
   have hhs : (⟨(pageHead kn nn tn b.size).toArray⟩ : ByteArray).size ≤ 18 := by rw [size_list]; unfold pageHead lays; simp [Be.low_len]
   have hts0 : (⟨#[0, 0]⟩ ++ b : ByteArray).size = 2 + b.size := by rw [ByteArray.size_append]; rfl
   have HF := fun W : World => filled_any (⟨#[0, 0]⟩ ++ b) 490 W (by omega) (by decide)
   have htl : (⟨#[0, 0]⟩ ++ b ++ noughts (490 - (⟨#[0, 0]⟩ ++ b : ByteArray).size) : ByteArray) = ⟨(pageTail b.data.toList).toArray⟩ := by
     apply str_eq
     rw [append_list, append_list, hts0, noughts_list, show 490 - (2 + b.size) = 488 - b.size by omega]
     rfl
   rw [htl] at HF
   have HF2 := Lib.hid HF
   have hts : (⟨(pageTail b.data.toList).toArray⟩ : ByteArray).size ≤ 490 := by rw [size_list]; unfold pageTail; simp; omega
   have hsum : (⟨(pageHead kn nn tn b.size).toArray⟩ ++ ⟨#[0, 0, 0, 0]⟩ ++ ⟨(pageTail b.data.toList).toArray⟩ : ByteArray).data.toList = pageHead kn nn tn b.size ++ [0, 0, 0, 0] ++ pageTail b.data.toList := by
     rw [append_list, append_list]
   have hz3 : (⟨(pageHead kn nn tn b.size).toArray⟩ ++ ⟨#[0, 0, 0, 0]⟩ ++ ⟨(pageTail b.data.toList).toArray⟩ : ByteArray).size ≤ maxLen := by
     rw [ByteArray.size_append, ByteArray.size_append]
     have : (⟨#[0, 0, 0, 0]⟩ : ByteArray).size = 4 := rfl
     unfold maxLen
     omega
   have HSm := fun (W : World) (hW : RowAt W) => sum_any (⟨(pageHead kn nn tn b.size).toArray⟩ ++ ⟨#[0, 0, 0, 0]⟩ ++ ⟨(pageTail b.data.toList).toArray⟩) W hz3 hW
   rw [hsum] at HSm
   have hsl := sum_lt (pageHead kn nn tn b.size ++ [0, 0, 0, 0] ++ pageTail b.data.toList)
   have HS2 := Lib.hid (show packS (kn : Int) nn tn b = ⟨(pageHead kn nn tn b.size).toArray⟩ ++ ⟨(Be.low (Crc.sum (pageHead kn nn tn b.size ++ [0, 0, 0, 0] ++ pageTail b.data.toList)) 4).toArray⟩ ++ ⟨(pageTail b.data.toList).toArray⟩ ∧ packE (kn : Int) nn tn b = 0 by
     refine ⟨?_, HS.out.2⟩
     rw [HS.out.1]
     apply str_eq
     rw [append_list, append_list]
     rfl)
   generalize Crc.sum (pageHead kn nn tn b.size ++ [0, 0, 0, 0] ++ pageTail b.data.toList) = sm at *
   have HL2 := fun W : World => lay_any ⟨(pageHead kn nn tn b.size).toArray⟩ W.heap.size 1 [(sm, 4)] _ rfl (by simp) (by omega) (numsAt1 W sm 4 268) (fits_one4 sm hsl)
   have hl1 : lays [(sm, 4)] = Be.low sm 4 := by unfold lays; simp
   rw [hl1] at HL2
   have HL2a := (show ∀ W : World, Calls Tryz.prog 175 #[.string ⟨(pageHead kn nn tn b.size).toArray⟩, .slice (some ⟨W.heap.size, 0, none⟩) 1 1] (W.alloc (.cells #[.int .i64 (sm : Int), .int .i64 4] 268))
     (TellsS (⟨(pageHead kn nn tn b.size).toArray⟩ ++ ⟨(Be.low sm 4).toArray⟩) (W.alloc (.cells #[.int .i64 (sm : Int), .int .i64 4] 268))) from HL2)
   clear HL2
   have hls : (⟨(Be.low sm 4).toArray⟩ : ByteArray).size ≤ 4 := by rw [size_list, Be.low_len]; exact Nat.le_refl _
   have hlc : (⟨(pageHead kn nn tn b.size).toArray⟩ ++ ⟨(Be.low sm 4).toArray⟩ : ByteArray).size ≤ 22 := by rw [ByteArray.size_append]; omega
   generalize (⟨(pageHead kn nn tn b.size).toArray⟩ : ByteArray) = hd at *
   generalize (⟨(Be.low sm 4).toArray⟩ : ByteArray) = ls at *
   generalize (⟨(pageTail b.data.toList).toArray⟩ : ByteArray) = tl at *
   have HSM := Lib.hid HSm
   have HL22 := Lib.hid HL2a
   have HBK := Lib.hid hbk
   have HRW := Lib.hid hrow0
   have HB0 := Lib.hid hb0
   clear HS HSm HL2a HF hsum hz3 htl hts0 hhd hfit hl1 hbk hrow0 hb0 hr h1 h2 h3 h4 h5 h6
   go_enter Tryz.func172, Tryz.ntmps172
   go_wp2_with (first
     | (go_at_call 229; refine (H1.out _).mono ?_; rintro e w2 ⟨rfl, hb2⟩; obtain ⟨z0, z1, z2, z3⟩ := (bk_below HBK.out hb2).four; have HB2 := Lib.hid hb2; clear hb2)
     | (go_at_call 175; (with_reducible refine (HL1a.out _).mono ?_); rintro e w3 ⟨rfl, hb3⟩; have HB3 := Lib.hid (((Below.refl w2.heap.size w2).alloc (Nat.le_refl _) _).trans (hb3.mono (by simp))); obtain ⟨y0, y1, y2, y3⟩ := (bk_below (bk_below HBK.out HB2.out) HB3.out).four; clear hb3)
     | (go_at_call 176; refine (HF2.out _).mono ?_; rintro e w4 ⟨rfl, hb4⟩; have HB4 := Lib.hid hb4; have HRW4 := Lib.hid (((HRW.out.below HB2.out).below HB3.out).below hb4); clear hb4)
     | (go_at_call 177; refine (HSM.out _ HRW4.out).mono ?_; rintro e w' ⟨rfl, rfl⟩)
     | (go_at_call 175; (with_reducible refine (HL22.out _).mono ?_); rintro e w5 ⟨rfl, hb5⟩)
     | fail)
   go_ret2
   have a1 := HB0.out.trans (HB2.out.mono HB0.out.size)
   have a2 := a1.trans (HB3.out.mono a1.size)
   have a3 := a2.trans (HB4.out.mono a2.size)
   have a4 := a3.alloc a3.size (.cells #[.int .i64 (sm : Nat), .int .i64 4] 268)
   exact ⟨by rw [HS2.out.1, HS2.out.2]; rfl, a4.trans (hb5.mono a4.size)⟩
theorem cut_mid (a x r : List UInt8) (p m : Nat) (ha : a.length = p) (hx : x.length = m) : ((a ++ (x ++ r)).drop p).take m = x := by
 subst ha; subst hx
 rw [List.drop_left, List.take_left]
theorem pageHead_len (k n t len : Nat) : (pageHead k n t len).length = 18 := by
 unfold pageHead lays
 simp [Be.low_len]
theorem pageTail_len (b : List UInt8) (h : b.length ≤ 488) : (pageTail b).length = 490 := by
 unfold pageTail
 simp
 omega
theorem pageS_len (k n t : Nat) (b : List UInt8) (h : b.length ≤ 488) : (pageS k n t b).length = 512 := by
 unfold pageS
 rw [List.length_append, List.length_append, pageHead_len, pageTail_len b h, Be.low_len]
theorem pageS_parts (k n t : Nat) (b : List UInt8) : pageS k n t b = [82, 66] ++ (Be.low k 1 ++ (Be.low 0 1 ++ (Be.low b.length 2 ++ (Be.low n 4 ++ (Be.low t 8 ++ (Be.low (pageSum k n t b) 4 ++ ([0, 0] ++ (b ++ List.replicate (488 - b.length) 0)))))))) := by
 unfold pageS pageHead pageTail lays
 simp [List.append_assoc]
theorem pageS_k (k n t : Nat) (b : List UInt8) (hk : k ≤ 4) : Be.num (((pageS k n t b).drop 2).take 1) = k := by
 rw [pageS_parts, cut_mid _ _ _ 2 1 rfl (Be.low_len _ _), Be.num_low_fit _ _ (by omega)]
theorem pageS_l (k n t : Nat) (b : List UInt8) (hb : b.length ≤ 488) : Be.num (((pageS k n t b).drop 4).take 2) = b.length := by
 rw [pageS_parts, ← List.append_assoc, ← List.append_assoc, cut_mid _ _ _ 4 2 (by simp [Be.low_len]) (Be.low_len _ _), Be.num_low_fit _ _ (by omega)]
theorem pageS_n (k n t : Nat) (b : List UInt8) (hn : n < 512) : Be.num (((pageS k n t b).drop 6).take 4) = n := by
 rw [pageS_parts, ← List.append_assoc, ← List.append_assoc, ← List.append_assoc, cut_mid _ _ _ 6 4 (by simp [Be.low_len]) (Be.low_len _ _), Be.num_low_fit _ _ (by omega)]
theorem pageS_t (k n t : Nat) (b : List UInt8) (ht : t ≤ 1099511627776) : Be.num (((pageS k n t b).drop 10).take 8) = t := by
 rw [pageS_parts, ← List.append_assoc, ← List.append_assoc, ← List.append_assoc, ← List.append_assoc, cut_mid _ _ _ 10 8 (by simp [Be.low_len]) (Be.low_len _ _), Be.num_low_fit _ _ (by omega)]
theorem pageS_b (k n t : Nat) (b : List UInt8) : ((pageS k n t b).drop 24).take b.length = b := by
 rw [pageS_parts, ← List.append_assoc, ← List.append_assoc, ← List.append_assoc, ← List.append_assoc, ← List.append_assoc, ← List.append_assoc, ← List.append_assoc, cut_mid _ _ _ 24 _ (by simp [Be.low_len]) rfl]
def IsPage (s : ByteArray) (k n t : Int) (b : ByteArray) : Prop := rightB k n t b = true ∧ packS k n t b = s
theorem packS_right {k n t : Int} {b : ByteArray} (h : rightB k n t b = true) : packS k n t b = ⟨(pageS k.toNat n.toNat t.toNat b.data.toList).toArray⟩ := by unfold packS; rw [h]; rfl
theorem packE_right {k n t : Int} {b : ByteArray} (h : rightB k n t b = true) : packE k n t b = 0 := by unfold packE; rw [h]; rfl
theorem packE_wrong {k n t : Int} {b : ByteArray} (h : rightB k n t b = false) : packE k n t b = 4 := by unfold packE; rw [h]; rfl
theorem IsPage.says {s : ByteArray} {k n t : Int} {b : ByteArray} (h : IsPage s k n t b) :
   s.size = 512 ∧ (∃ r, s.data.toList = 82 :: 66 :: r) ∧ k = numAt s 2 1 ∧ numAt s 4 2 = b.size ∧ n = numAt s 6 4 ∧ t = numAt s 10 8 ∧ b = s.extract 24 (24 + numAt s 4 2) := by
 obtain ⟨hr, hs⟩ := h
 obtain ⟨h1, h2, h3, h4, h5, h6, h7⟩ := rightB_yes hr
 rw [packS_right hr] at hs
 obtain ⟨kn, rfl⟩ := Int.eq_ofNat_of_zero_le (show 0 ≤ k by omega)
 obtain ⟨nn, rfl⟩ := Int.eq_ofNat_of_zero_le (show 0 ≤ n by omega)
 obtain ⟨tn, rfl⟩ := Int.eq_ofNat_of_zero_le (show 0 ≤ t by omega)
 simp only [Int.toNat_natCast] at hs
 have hl : s.data.toList = pageS kn nn tn b.data.toList := by rw [← hs]
 have e1 : numAt s 2 1 = kn := by unfold numAt; rw [hl]; exact pageS_k _ _ _ _ (by omega)
 have e2 : numAt s 4 2 = b.size := by unfold numAt; rw [hl]; exact pageS_l _ _ _ _ h7
 have e3 : numAt s 6 4 = nn := by unfold numAt; rw [hl]; exact pageS_n _ _ _ _ (by omega)
 have e4 : numAt s 10 8 = tn := by unfold numAt; rw [hl]; exact pageS_t _ _ _ _ (by omega)
 refine ⟨?_, ⟨_, by rw [hl, pageS_parts]; rfl⟩, by rw [e1], e2, by rw [e3], by rw [e4], ?_⟩
 · rw [← len_size, hl, pageS_len _ _ _ _ h7]
 · apply str_eq
   rw [extract_list, e2, hl, show 24 + b.size - 24 = b.size by omega]
   exact (pageS_b _ _ _ _).symm
def unpB (s : ByteArray) : Bool := rightB (numAt s 2 1) (numAt s 6 4) (numAt s 10 8) (s.extract 24 (24 + numAt s 4 2)) && decide (packS (numAt s 2 1) (numAt s 6 4) (numAt s 10 8) (s.extract 24 (24 + numAt s 4 2)) = s)
def unpK (s : ByteArray) : Int := if unpB s then (numAt s 2 1 : Int) else 0
def unpN (s : ByteArray) : Int := if unpB s then (numAt s 6 4 : Int) else 0
def unpT (s : ByteArray) : Int := if unpB s then (numAt s 10 8 : Int) else 0
def unpY (s : ByteArray) : ByteArray := if unpB s then s.extract 24 (24 + numAt s 4 2) else ⟨#[]⟩
def unpE (s : ByteArray) : Int := if unpB s then 0 else 4
theorem unpB_yes {s : ByteArray} (h : unpB s = true) : IsPage s (numAt s 2 1) (numAt s 6 4) (numAt s 10 8) (s.extract 24 (24 + numAt s 4 2)) := by
 unfold unpB at h
 simp only [Bool.and_eq_true, decide_eq_true_eq] at h
 exact h
theorem unpB_of {s : ByteArray} {k n t : Int} {b : ByteArray} (h : IsPage s k n t b) : unpB s = true := by
 obtain ⟨h1, h2, h3, h4, h5, h6, h7⟩ := h.says
 have h8 := h
 rw [h3, h5, h6, h7] at h8
 unfold unpB
 rw [h8.1, h8.2]
 simp
theorem unp_of {s : ByteArray} {k n t : Int} {b : ByteArray} (h : IsPage s k n t b) : unpK s = k ∧ unpN s = n ∧ unpT s = t ∧ unpY s = b ∧ unpE s = 0 := by
 have hu := unpB_of h
 obtain ⟨h1, h2, h3, h4, h5, h6, h7⟩ := h.says
 unfold unpK unpN unpT unpY unpE
 rw [hu]
 exact ⟨h3.symm, h5.symm, h6.symm, h7.symm, rfl⟩
theorem unp_no {s : ByteArray} (h : unpB s = false) : unpK s = 0 ∧ unpN s = 0 ∧ unpT s = 0 ∧ unpY s = ⟨#[]⟩ ∧ unpE s = 4 := by
 unfold unpK unpN unpT unpY unpE
 rw [h]
 exact ⟨rfl, rfl, rfl, rfl, rfl⟩
end Go.Proofs.YtjbcbnemdhbhbaaGreatDoor
namespace Go.Proofs.YtjbcbnemdhbhbaaGreatDoor
open Go.PlainAid
set_option linter.unusedVariables false
namespace DevS
def four (D : DevS) (no : Nat) : ByteArray := ⟨((D.latest (4 * no)).data.toList ++ (D.latest (4 * no + 1)).data.toList ++ (D.latest (4 * no + 2)).data.toList ++ (D.latest (4 * no + 3)).data.toList).toArray⟩
structure Page (D : DevS) (no : Nat) (k t : Int) (b : ByteArray) : Prop where
 fits : 4 * no + 4 ≤ D.sec.length
 bytes : IsPage (D.four no) k no t b
theorem read_on {D : DevS} (ho : D.off = false) {i : Nat} (hi : i < D.sec.length) : D.read (i : Int) = (D.latest i, 0) := by
 unfold DevS.read
 have h1 : D.isIn (i : Int) = true := DevS.isIn_iff.2 ⟨by omega, by omega⟩
 rw [h1, ho]
 simp
theorem four_congr {D E : DevS} {no : Nat} (h : ∀ i, 4 * no ≤ i → i < 4 * no + 4 → E.latest i = D.latest i) : E.four no = D.four no := by
 unfold four
 rw [h _ (by omega) (by omega), h _ (by omega) (by omega), h _ (by omega) (by omega), h _ (by omega) (by omega)]
theorem write_ok {D : DevS} {i : Nat} {s : ByteArray} (hi : i < D.sec.length) (hs : s.size = 128) : D.write (i : Int) s = if D.stepOk then ({ D.stepped with row := D.row ++ [(i, s)], writes := D.writes + 1 }, 0) else (D.stepped, 6) := by
 unfold DevS.write
 have h1 : D.isIn (i : Int) = true := DevS.isIn_iff.2 ⟨by omega, by omega⟩
 rw [h1, hs]
 simp
structure Wrote (D D' : DevS) (A : Nat → Prop) : Prop where
 sec : D'.sec = D.sec
 waits : ∀ j, ¬ A j → D'.waits j = D.waits j
 steps : D.steps ≤ D'.steps
theorem Wrote.refl (D : DevS) (A : Nat → Prop) : Wrote D D A := ⟨rfl, fun _ _ => rfl, Int.le_refl _⟩
theorem Wrote.trans {D D' D'' : DevS} {A : Nat → Prop} (h : Wrote D D' A) (k : Wrote D' D'' A) : Wrote D D'' A :=
 ⟨k.sec.trans h.sec, fun j hj => (k.waits j hj).trans (h.waits j hj), Int.le_trans h.steps k.steps⟩
theorem Wrote.mono {D D' : DevS} {A B : Nat → Prop} (h : Wrote D D' A) (hAB : ∀ j, A j → B j) : Wrote D D' B := ⟨h.sec, fun j hj => h.waits j fun ha => hj (hAB j ha), h.steps⟩
theorem Wrote.latest {D D' : DevS} {A : Nat → Prop} (h : Wrote D D' A) {j : Nat} (hj : ¬ A j) : D'.latest j = D.latest j := by
 unfold DevS.latest
 rw [h.sec, h.waits j hj]
theorem stepped_le (D : DevS) : D.steps ≤ D.stepped.steps ∧ D.stepped.steps ≤ D.steps + 1 := by
 unfold stepped
 split
 · omega
 · show D.steps ≤ D.steps + 1 ∧ D.steps + 1 ≤ D.steps + 1
   omega
theorem stepped_wrote (D : DevS) (A : Nat → Prop) : Wrote D D.stepped A := ⟨stepped_sec D, fun j _ => by unfold waits; rw [stepped_row], (stepped_le D).1⟩
theorem write_wrote {D : DevS} {i : Nat} {s : ByteArray} (hi : i < D.sec.length) (hs : s.size = 128) : Wrote D (D.write (i : Int) s).1 (· = i) ∧ (D.write (i : Int) s).1.steps ≤ D.steps + 1 ∧
   (((D.write (i : Int) s).2 = 0 ∧ (D.write (i : Int) s).1.latest i = s ∧ (D.write (i : Int) s).1.off = false) ∨ ((D.write (i : Int) s).2 = 6 ∧ (D.write (i : Int) s).1.off = true)) := by
 rw [write_ok hi hs]
 by_cases h : D.stepOk = true
 · rw [if_pos h]
   have h2 := (stepped_le D)
   refine ⟨⟨stepped_sec D, fun j hj => ?_, h2.1⟩, h2.2, .inl ⟨rfl, ?_, ?_⟩⟩
   · show waitsOf (D.row ++ [(i, s)]) j = waitsOf D.row j
     rw [waitsOf_snoc, if_neg (fun e => hj e.symm)]
   · show (waitsOf (D.row ++ [(i, s)]) i).getLastD _ = s
     rw [waitsOf_snoc, if_pos rfl]
     simp
   · unfold stepOk at h
     simp at h
     show D.stepped.off = false
     unfold stepped
     simp [h.1, h.2]
 · rw [if_neg h]
   refine ⟨stepped_wrote D _, (stepped_le D).2, .inr ⟨rfl, ?_⟩⟩
   unfold stepOk at h
   unfold stepped
   cases ho : D.off with
   | true => simp [ho]
   | false => simp [ho] at h ⊢; exact h
def writeL (D : DevS) : Nat → List ByteArray → DevS × Int
 | _, [] => (D, 0)
 | i, s :: l => if (D.write (i : Int) s).2 = 0 then writeL (D.write (i : Int) s).1 (i + 1) l else ((D.write (i : Int) s).1, (D.write (i : Int) s).2)
theorem writeL_wrote : ∀ (l : List ByteArray) (D : DevS) (i : Nat), i + l.length ≤ D.sec.length → (∀ s ∈ l, s.size = 128) →
   Wrote D (D.writeL i l).1 (fun j => i ≤ j ∧ j < i + l.length) ∧ (D.writeL i l).1.steps ≤ D.steps + l.length ∧
   (((D.writeL i l).2 = 0 ∧ (∀ (j : Nat) (x : ByteArray), l[j]? = some x → (D.writeL i l).1.latest (i + j) = x) ∧ (D.off = false → (D.writeL i l).1.off = false)) ∨ ((D.writeL i l).2 = 6 ∧ (D.writeL i l).1.off = true))
 | [], D, i, _, _ => ⟨Wrote.refl _ _, by simp [writeL], .inl ⟨rfl, fun j x h => by simp at h, fun h => h⟩⟩
 | s :: l, D, i, hi, hs => by
   rw [List.length_cons] at hi ⊢
   obtain ⟨h1, h2, h3⟩ := write_wrote (D := D) (i := i) (s := s) (by omega) (hs s (by simp))
   rcases h3 with ⟨h3, h4, h5⟩ | ⟨h3, h4⟩
   · have he : D.writeL i (s :: l) = writeL (D.write (i : Int) s).1 (i + 1) l := by
       show (if (D.write (i : Int) s).2 = 0 then _ else _) = _
       rw [if_pos h3]
     obtain ⟨k1, k2, k3⟩ := writeL_wrote l (D.write (i : Int) s).1 (i + 1) (by rw [h1.sec]; omega) (fun x hx => hs x (by simp [hx]))
     rw [he]
     refine ⟨(h1.mono (fun j hj => by omega)).trans (k1.mono (fun j hj => by omega)), by push_cast; omega, ?_⟩
     rcases k3 with ⟨k3, k4, k5⟩ | k3
     · refine .inl ⟨k3, fun j x hj => ?_, fun _ => k5 h5⟩
       cases j with
       | zero =>
         rw [k1.latest (by omega), Nat.add_zero, h4]
         exact Option.some.inj hj
       | succ j =>
         have := k4 j x (by simpa using hj)
         rw [show i + (j + 1) = i + 1 + j by omega]
         exact this
     · exact .inr k3
   · have he : D.writeL i (s :: l) = ((D.write (i : Int) s).1, (D.write (i : Int) s).2) := by
       show (if (D.write (i : Int) s).2 = 0 then _ else _) = _
       rw [if_neg (by rw [h3]; decide)]
     rw [he]
     exact ⟨h1.mono (fun j hj => by omega), by push_cast; omega, .inr ⟨h3, h4⟩⟩
theorem synced_latest {D : DevS} {i : Nat} (hi : i < D.sec.length) : D.synced.latest i = D.latest i := by
 show (waitsOf [] i).getLastD _ = _
 show D.synced.sec.getD i ByteArray.empty = _
 simp [synced, hi]
theorem synced_len (D : DevS) : D.synced.sec.length = D.sec.length := by simp [synced]
theorem stepped_len (D : DevS) : D.stepped.sec.length = D.sec.length := by rw [stepped_sec]
theorem stepped_latest (D : DevS) (i : Nat) : D.stepped.latest i = D.latest i := (stepped_wrote D (fun _ => False)).latest (by simp)
theorem Page.congr {D E : DevS} {no : Nat} {k t : Int} {b : ByteArray} (h : D.Page no k t b) (hl : E.sec.length = D.sec.length) (he : ∀ i, 4 * no ≤ i → i < 4 * no + 4 → E.latest i = D.latest i) : E.Page no k t b :=
 ⟨by rw [hl]; exact h.fits, by rw [four_congr he]; exact h.bytes⟩
end DevS
end Go.Proofs.YtjbcbnemdhbhbaaGreatDoor
