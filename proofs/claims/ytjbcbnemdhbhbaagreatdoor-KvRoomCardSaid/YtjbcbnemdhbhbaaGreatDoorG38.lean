import Derived.Test.YtjbcbnemdhbhbaaGreatDoorG35
import Derived.Test.YtjbcbnemdhbhbaaGreatDoorG26
import Derived.Test.YtjbcbnemdhbhbaaGreatDoorG31
import Derived.Test.YtjbcbnemdhbhbaaGreatDoorG27
namespace Go.Proofs.YtjbcbnemdhbhbaaGreatDoor
open Go.RowKit
set_option linter.unusedVariables false
set_option linter.unusedSimpArgs false
namespace Tr
def need (n : Nat) : Nat := 2 * Nat.log2 n + 4
theorem need_mono {a b : Nat} (h : a ≤ b) : need a ≤ need b := by
 unfold need
 by_cases ha : a = 0
 · subst ha
   have : Nat.log2 0 = 0 := by decide
   omega
 · have h1 := Nat.log2_self_le ha
   have h2 := (Nat.le_log2 (n := b) (k := Nat.log2 a) (by omega)).2 (Nat.le_trans h1 h)
   omega
theorem kids_len {Q : List Ce → List Nat → List En → Prop} {m : Nat} {σ : Book} {leaf : Bool} : ∀ (ks : List Kd), (∀ k ∈ ks, m ≤ k.L.length) → m * ks.length ≤ (ks.flatMap (·.L)).length
 | [], _ => by simp
 | k :: ks, h => by
   have h1 := h k (by simp)
   have h2 := kids_len (Q := Q) (σ := σ) (leaf := leaf) ks (fun x hx => h x (by simp [hx]))
   rw [List.flatMap_cons, List.length_append, List.length_cons, Nat.mul_succ]
   omega
theorem Stored.many {σ : Book} : ∀ {d no : Nat} {P : List Nat} {L : List En}, Stored σ d no P L → 2 ^ d ≤ L.length
 | 0, no, P, L, h => by
   obtain ⟨cs, P', -, -, -, -, -, -, h, -⟩ := h
   cases L with
   | nil => exact absurd rfl h
   | cons a t => simp
 | d + 1, no, P, L, h => by
   obtain ⟨cs, P', -, -, -, -, ⟨ks, h1, h2, h3, h4, h5, h6⟩, -, -, h7⟩ := h
   have hk : ∀ k ∈ ks, 2 ^ d ≤ k.L.length := fun k hk => Stored.many (h6 k hk).2
   have h8 := h7 rfl
   rw [h1, List.length_map] at h8
   have h9 := kids_len (Q := fun _ _ _ => True) (σ := σ) (leaf := true) ks hk
   rw [h3, Nat.pow_succ]
   exact Nat.le_trans (Nat.mul_le_mul_left _ h8) h9
theorem Root.needs {σ : Book} {root : Nat} {P : List Nat} {L : List En} (h : Root σ root P L) {n : Nat} (hn : L.length ≤ n) : RootC σ (need n) root P L := by
 rcases h with ⟨h1, h2, h3⟩ | ⟨d, h⟩
 · exact .inl ⟨h1, h2, h3, by unfold need; omega⟩
 · refine .inr ⟨d, h, ?_⟩
   have h1 := Stored.many h
   have h2 : n ≠ 0 := fun e => by
     have : 0 < 2 ^ d := Nat.two_pow_pos d
     omega
   have h3 := (Nat.le_log2 (n := n) (k := d) h2).2 (Nat.le_trans h1 hn)
   unfold need
   omega
end Tr
theorem len_sub {α : Type} [DecidableEq α] : ∀ (l m : List α), l.Nodup → (∀ x ∈ l, x ∈ m) → l.length ≤ m.length
 | [], m, _, _ => Nat.zero_le _
 | a :: l, m, hn, h => by
   obtain ⟨h1, h2⟩ := List.nodup_cons.1 hn
   have ha := h a (by simp)
   have h3 := len_sub l (m.erase a) h2 (fun x hx => (List.mem_erase_of_ne (fun e => h1 (by rw [← e]; exact hx))).2 (h x (by simp [hx])))
   rw [List.length_erase_of_mem ha] at h3
   have := List.length_pos_of_mem ha
   rw [List.length_cons]
   omega
set_option maxRecDepth 100000
theorem numAt_low (r : Nat) (h : r < 512) : numAt ⟨(Be.low r 4).toArray⟩ 0 4 = r := by
 unfold numAt
 have : ((Be.low r 4).toArray.toList.drop 0).take 4 = Be.low r 4 := by
   rw [List.drop_zero, List.take_of_length_le (by rw [Be.low_len]; exact Nat.le_refl 4)]
 show Be.num (((Be.low r 4).toArray.toList.drop 0).take 4) = r
 rw [this]
 exact Be.num_low_fit r 4 (by omega)
theorem Kv.Ok.rooted {E : Kv} (h : E.Ok) (r : Int) : Kv.Ok { E with root := r } := ⟨h.txn, h.txn2, h.on, h.steps, h.lim, h.page, h.upto⟩
structure Told (E : Kv) (F : Prop) (w : World) (S : List Nat) (k : Nat) (Fo : Forest) (ns : List ByteArray) (c : Nat) (j : Nat) (w' : World) (G : Forest) (σ' : Book) (S' : List Nat) (k' : Nat) : Prop where
 tr : G.tr = Fo.tr
 NS : G.NS = Fo.NS
 R : ∀ n, G.R n = if Forest.known (ns.take j) n = true then none else Fo.R n
 len : G.main.L.length ≤ Fo.main.L.length + j
 ok : G.Ok σ'
 at_ : (kvStore { E with root := G.main.root } F).At w' S' σ' k'
 cost : k ≤ k' + j * c
 off : Off S w w'
 fresh : Fresh w S S'
def NamesWay (E : Kv) (F : Prop) (S : List Nat) (k : Nat) (Fo : Forest) (w : World) (e : Ending) (w' : World) : Prop :=
 (e = .returned (.int .i64 0) ∧ ∃ (G : Forest) (σ' : Book) (S' : List Nat) (k' : Nat), G.tr = Fo.tr ∧ G.NS = Fo.NS ∧ (∀ n, G.R n = none) ∧ G.Ok σ' ∧ (kvStore { E with root := G.main.root } F).At w' S' σ' k' ∧ k ≤ k' + Fo.NS.length * Tr.need (Fo.main.L.length + Fo.NS.length) ∧ Off S w w' ∧ Fresh w S S')
 ∨ (F ∧ e = .returned (.int .i64 9) ∧ ∃ (r : Int) (σ' : Book) (S' : List Nat), (kvStore { E with root := r } F).At w' S' σ' 0 ∧ Off S w w' ∧ Fresh w S S')
theorem tells_name {G : Forest} {σ σ' : Book} (h : G.Ok σ) {name : ByteArray} {r root : Nat} {P' : List Nat} {y : En} (hr : G.R name = some r) (hnz : r ≠ 0) (hyk : y.cell.key = name) (hyv : y.val = Be.low r 4) (ht : Tr.Root σ' root P' (Tr.putE name y G.main.L)) (hm : Tr.Moved σ G.main.P σ' P') :
   (G.tell ⟨root, P', Tr.putE name y G.main.L⟩ name).Ok σ' := by
 obtain ⟨e1, e2⟩ := h.law name r hr
 have hs : r < 512 := by rw [e1]; exact (h.each name).small
 have hval : numAt ⟨y.val.toArray⟩ 0 4 = r := by rw [hyv]; exact numAt_low r hs
 have hris := h.main.rising
 refine h.tell (t := ⟨root, P', Tr.putE name y G.main.L⟩) ht hm (fun e he => ?_) name ?_ (fun m r' hmn hri => ?_)
 · rcases (Tr.putE_in hris hyk e).1 he with rfl | ⟨he, -⟩
   · exact ⟨by rw [hyv, Be.low_len], by rw [hval]; omega, by rw [hval]; exact hs⟩
   · exact h.names e he
 · rw [RootIs.put hris hyk, if_pos rfl, hval, e1]
 · rw [RootIs.put hris hyk, if_neg hmn]
   exact hri
set_option maxHeartbeats 16000000 in
theorem names_any {E : Kv} (hE : E.Ok) {F : Prop} {w : World} {S : List Nat} {σ : Book} {k nr : Nat} {Fo : Forest} (h : Wr E F w S σ k Fo nr) (hnr : nr ≤ 1000000) (hnz : ∀ n r, Fo.R n = some r → r ≠ 0) (hk : F ∨ Fo.NS.length * Tr.need (Fo.main.L.length + Fo.NS.length) ≤ k) :
   Calls Tryz.prog 109 #[.pointer (some ⟨E.t, 0, none⟩)] w (NamesWay E F S k Fo w) := by
 obtain ⟨x, f, dm, lv, fv, hc⟩ := h.cells
 obtain ⟨n0, hn0, hm⟩ := h.roots
 have c11 : w.cell? ⟨E.t, 11, none⟩ = some (.map (some E.rm)) := hc.cell 11
 have lt := hc.lt
 have HK1 := Lib.hid fun (W : World) => nkeys E.rm W
 have HK2 := Lib.hid (nsorted hm (by omega))
 have hS := (kv_serves hE F).old h.at_
 have HW := Lib.hid h
 have HS := Lib.hid hS
 have HE := Lib.hid hE
 have HNZ := Lib.hid hnz
 have HKK := Lib.hid hk
 have HM := Lib.hid hm
 clear h hc hm hS hE hnz hk
 go_enter Tryz.func109, Tryz.ntmps109
 go_wp2_with fail
 refine (HK1.out _).mono ?_
 rintro e w0 ⟨rfl, rfl⟩
 go_wp2_with fail
 refine HK2.out.mono ?_
 rintro e w1 ⟨v, ns, rfl, hnd, hmem, hlen, hown, hb1⟩
 have hb1' : Below w.heap.size w w1 := ((Below.refl _ w).alloc (Nat.le_refl _) (.cells #[.map (some E.rm)] 101)).trans (hb1.mono (by simp))
 obtain ⟨A, c, rfl, hnc, hcm, hnl, hsl, hblk⟩ := own_slice hown
 clear hnl
 have HB1 := Lib.hid hb1'
 have HSL := Lib.hid hsl
 have HBL := Lib.hid (show ∀ a, A = some a → a.block ∉ S from fun a ha hs => by have := (hblk a ha).1; have := HS.out _ hs; omega)
 have HMEM := Lib.hid hmem
 have HND := Lib.hid hnd
 have hsub : ∀ n ∈ ns, ∃ r, Fo.R n = some r := fun n hn => by
   have := (HMEM.out n).1 hn
   unfold rootsV at this
   cases hr : Fo.R n with
   | none => rw [hr] at this; cases this
   | some r => exact ⟨r, rfl⟩
 have hns : ns.length ≤ Fo.NS.length := len_sub ns Fo.NS hnd (fun n hn => by obtain ⟨r, hr⟩ := hsub n hn; exact (HW.out.ok.law n r hr).2)
 have HSUB := Lib.hid hsub
 have HNS := Lib.hid hns
 have hnl : ns.length ≤ 1000000 := by omega
 have hcm2 : c ≤ 9223372036854775807 := by unfold maxLen at hcm; omega
 obtain ⟨q, hq⟩ : ∃ q, q = Tr.need (Fo.main.L.length + Fo.NS.length) := ⟨_, rfl⟩
 have HQ := Lib.hid hq
 have HKQ := Lib.hid (show F ∨ Fo.NS.length * q ≤ k by rw [hq]; exact HKK.out)
 have h0 : Hid (∃ G σ' S' k', Told E F w1 S k Fo ns q 0 w1 G σ' S' k') := ⟨Fo, σ, S, k, rfl, rfl, fun n => by simp [Forest.known], Nat.le_add_right _ _, HW.out.ok, by
   have := (HW.out.below HE.out HB1.out).at_
   have hr : ({ E with root := (Fo.main.root : Int) } : Kv) = E := by rw [← HW.out.root]
   rw [hr]
   exact this, by omega, Off.refl S w1, Fresh.refl _ _⟩
 clear hown hb1 hb1' hsl hblk hmem hnd hlen hsub hns hq c11 HKK HK2
 go_wp2_with fail
 go_loopw [16] (fun i wr => ∃ j : Nat, i = .int .i64 j ∧ j ≤ ns.length ∧ Hid (∃ G σ' S' k', Told E F w1 S k Fo ns q j wr G σ' S' k')) (fun i _ => ns.length - (intOf i).toNat)
 case atStart => exact ⟨0, rfl, Nat.zero_le _, h0⟩
 case round =>
   obtain ⟨j, rfl, hj, hI⟩ := hrel
   obtain ⟨G, σj, Sj, kj, hT⟩ := hI.out
   by_cases hlt : j < ns.length
   · have z1 : decide ((j : Int) < (ns.length : Int)) = true := decide_eq_true (by omega)
     have hoff : Off S w wr := (Off.of_below HB1.out S).trans hT.off
     obtain ⟨nm, hnm⟩ : ∃ nm, nm = ns[j] := ⟨_, rfl⟩
     have hnmem : nm ∈ ns := by rw [hnm]; exact List.getElem_mem hlt
     obtain ⟨r, hr⟩ := HSUB.out nm hnmem
     have htake : ns.take (j + 1) = ns.take j ++ [nm] := by rw [hnm]; exact List.take_succ_eq_append_getElem hlt
     have hnot : nm ∉ ns.take j := fun hm => by
       have h1 : (ns.take (j + 1)).Nodup := List.Nodup.sublist (List.take_sublist _ _) HND.out
       rw [htake] at h1
       exact (List.nodup_append.1 h1).2.2 nm hm nm (by simp) rfl
     have hGr : G.R nm = some r := by rw [hT.R nm, if_neg (fun h => hnot (Forest.known_iff.1 h))]; exact hr
     have hr0 := HNZ.out nm r hr
     obtain ⟨hre, hin⟩ := hT.ok.law nm r hGr
     have hrs : r < 512 := by rw [hre]; exact (hT.ok.each nm).small
     have hnv := hT.ok.valid nm hin
     obtain ⟨b, o, rfl, hb, hcell⟩ := (HSL.out.off hT.off HBL.out) j (.string nm) (by rw [hnm]; simp [hlt])
     obtain ⟨x3, f3, dm3, nn3, Sf3, lv3, fv3, hm3, hσ3, hk3⟩ := hT.at_
     have q11 : wr.cell? ⟨E.t, 11, none⟩ = some (.map (some E.rm)) := hm3.cells.cell 11
     have q3 : wr.cell? ⟨E.t, 3, none⟩ = some (.int .i64 (G.main.root : Nat)) := hm3.cells.cell 3
     have lt3 : E.t < wr.heap.size := hm3.cells.lt
     have hl1 : (Instr.lookup 101 (.map (some E.rm)) (.string nm) false).run Tryz.prog wr = .ok (.int .i64 r) wr := by
       have h1 := (HM.out.off hoff HW.out.rm).look Tryz.underlying9 Tryz.underlying101 (z := .int .i64 0) (by kernel_rfl) (s := nm) (by have := hnv.2; unfold maxLen; omega)
       unfold rootsV at h1
       rw [hr] at h1
       exact h1
     have z2 : ((r : Int) == 0) = false := by rw [beq_eq_false_iff_ne]; omega
     have z3 : (r == 0) = false := by rw [beq_eq_false_iff_ne]; omega
     have y3 : IntKind.u64.wrap (r : Int) = r := by rw [IntKind.wrap_u64]; omega
     obtain ⟨s, hs⟩ : ∃ s : ByteArray, s = (⟨#[]⟩ : ByteArray) ++ ⟨(Be.low r 4).toArray⟩ := ⟨_, rfl⟩
     have hsl9 : s.data.toList = Be.low r 4 := by rw [hs]; simp
     have hss : s.size = 4 := by
       have : s.data.toList.length = 4 := by rw [hsl9, Be.low_len]
       rw [Array.length_toList] at this
       exact this
     have HPF := Lib.hid fun (W : World) => (show Calls Tryz.prog 160 #[.string ⟨#[]⟩, .int .u64 r, .int .i64 4] W (TellsSE s 0 W) from by rw [hs]; exact put_ok ⟨#[]⟩ r 4 W (by show 0 ≤ 1000000; omega) (by omega) (by omega) (by omega))
     have hjn : j + 1 ≤ Fo.NS.length := by have := HNS.out; omega
     have hkj : F ∨ q ≤ kj := HKQ.out.imp id (fun h9 => by
       have h1 := hT.cost
       have h2 := Nat.mul_le_mul_right q hjn
       rw [Nat.succ_mul] at h2
       omega)
     have hsrv := kv_serves (HE.out.rooted (G.main.root : Nat)) F
     have hndm := (List.nodup_append.1 hT.ok.nodup).1
     have hneed : Tr.RootC σj (Tr.need (Fo.main.L.length + Fo.NS.length)) G.main.root G.main.P G.main.L := hT.ok.main.needs (by have := hT.len; omega)
     have hpz : Tr.pieces s.size = 0 := by rw [hss]; rfl
     have hkj2 : F ∨ Tr.need (Fo.main.L.length + Fo.NS.length) + Tr.pieces s.size ≤ kj := by
       rw [hpz]
       exact hkj.imp id (fun h9 => by have := HQ.out; omega)
     have HPZ := Lib.hid hpz
     have HTP := Lib.hid fun (W : World) (hb : Below wr.heap.size wr W) => (show Calls Tryz.prog 48 #[.iface 111 (.agg #[.pointer (some ⟨E.t, 0, none⟩)]), .int .i64 (G.main.root : Nat), .string nm, .string s] W (fun e w' => ∃ a b : Int, e = .returned (.tuple #[.int .i64 a, .int .i64 b]) ∧ Hid (PutTells (kvStore { E with root := (G.main.root : Nat) } F) Sj σj kj (Tr.need (Fo.main.L.length + Fo.NS.length)) G.main.P G.main.L nm s W (.returned (.tuple #[.int .i64 a, .int .i64 b])) w')) from
       (put_any hsrv (hsrv.below hT.at_ hb) G.main.root hneed hndm nm s hnv.1 (by have := hnv.2; omega) (by omega) hkj2).mono fun e w' ⟨y, e1, e2, e3, e4⟩ => by
         obtain ⟨a, b, rfl, h5⟩ := e4.letters
         exact ⟨a, b, rfl, Lib.hid ⟨y, e1, e2, e3, h5.out⟩⟩)
     have HT := Lib.hid hT
     have HSJ := Lib.hid (hsrv.old hT.at_)
     have HPL := Lib.hid (show nm ∉ ns.take j ∧ ns.take (j + 1) = ns.take j ++ [nm] ∧ G.R nm = some r ∧ r ≠ 0 ∧ s.data.toList = Be.low r 4 ∧ Fo.R nm = some r from ⟨hnot, htake, hGr, hr0, hsl9, hr⟩)
     clear hT hI h0 hm3 hσ3 hk3 hnot htake hGr hr0 hre hin hnv hsl9 hs hr hnm hnmem hkj hsrv hndm hoff hneed hkj2 hpz
     go_wp2_with fail
     refine (HPF.out _).mono ?_
     rintro e w2 ⟨rfl, hb2⟩
     have HB2 := Lib.hid hb2
     have q3' : w2.cell? ⟨E.t, 3, none⟩ = some (.int .i64 (G.main.root : Nat)) := (hb2.cell (p := ⟨E.t, 3, none⟩) lt3).trans q3
     have lt2 : E.t < w2.heap.size := Nat.lt_of_lt_of_le lt3 hb2.size
     clear hb2 q3 q11 hl1 hcell
     go_wp2_with fail
     refine (HTP.out _ HB2.out).mono ?_
     rintro e w4 ⟨a, b9, rfl, hw4⟩
     obtain ⟨y, e1, e2, e3, e4⟩ := hw4.out
     rcases e4 with ⟨root, P', σ', S', k', e5, hrt, hmv, hat, hk', hof, hfr⟩ | ⟨hF, e5, σ', S', hat, hof, hfr⟩
     · injection e5 with e5
       injection e5 with e5
       simp only [Array.mk.injEq, List.cons.injEq, Value.int.injEq, true_and, and_true] at e5
       obtain ⟨rfl, rfl⟩ := e5
       rw [HPZ.out] at hk'
       obtain ⟨x4, f4, dm4, nn4, Sf4, lv4, fv4, hm4, hσ4, hk4⟩ := hat
       have q34 : w4.cell? ⟨E.t, 3, none⟩ = some (.int .i64 (G.main.root : Nat)) := hm4.cells.cell 3
       have f34 := hm4.cells.frozen 3
       have lt4 : E.t < w4.heap.size := hm4.cells.lt
       have hbk4 : Bk (w4.setCell ⟨E.t, 3, none⟩ (.int .i64 (root : Nat))) E.t 103 (txCells { E with root := (root : Nat) } x4 f4 dm4 lv4 fv4) := by
         have := hm4.cells.put 3 (.int .i64 (root : Nat))
         exact this
       have hm5 := KvMem.other (E' := { E with root := (root : Nat) }) hm4 hbk4 ((Off.refl [E.t] w4).setCell (p := ⟨E.t, 3, none⟩) (.inl (by simp)) _) ⟨rfl, rfl, rfl, rfl, rfl, rfl, rfl, rfl, rfl, rfl, rfl, rfl, rfl, rfl, rfl, rfl, rfl, rfl, rfl⟩
       have ht4 : E.t ∈ S' := by rw [hm4.blocks]; simp [txMut]
       have hof4 : Off Sj wr w4 := (Off.of_below HB2.out Sj).trans hof
       have hfr4 : Fresh wr Sj S' := hfr.mono HB2.out.size
       have hof5 : Off Sj wr (w4.setCell ⟨E.t, 3, none⟩ (.int .i64 (root : Nat))) := hof4.setCell (p := ⟨E.t, 3, none⟩) (hfr4 _ ht4) _
       have HN := Lib.hid (show ∃ G σ' S' k', Told E F w1 S k Fo ns q (j + 1) (w4.setCell ⟨E.t, 3, none⟩ (.int .i64 (root : Nat))) G σ' S' k' from by
         obtain ⟨p1, p2, p3, p4, p5, p6⟩ := HPL.out
         have hG := tells_name HT.out.ok p3 p4 e1 (by rw [e2]; exact p5) hrt hmv
         refine ⟨G.tell ⟨root, P', Tr.putE nm y G.main.L⟩ nm, σ', S', k', HT.out.tr, HT.out.NS, fun m => ?_, ?_, hG, ⟨x4, f4, dm4, nn4, Sf4, lv4, fv4, hm5, hσ4, hk4.other ⟨rfl, rfl, rfl, rfl, rfl⟩⟩, ?_, HT.out.off.then hof5 HT.out.fresh, HT.out.fresh.trans hfr4 HT.out.off.size⟩
         · show (if m = nm then none else G.R m) = _
           by_cases hmn : m = nm
           · rw [if_pos hmn, if_pos (Forest.known_iff.2 (by rw [p2, hmn]; simp))]
           · rw [if_neg hmn, HT.out.R m]
             by_cases hkn : m ∈ ns.take j
             · rw [if_pos (Forest.known_iff.2 hkn), if_pos (Forest.known_iff.2 (by rw [p2]; simp [hkn]))]
             · rw [if_neg (fun h => hkn (Forest.known_iff.1 h)), if_neg (fun h => by
                 have := Forest.known_iff.1 h
                 rw [p2, List.mem_append, List.mem_singleton] at this
                 exact this.elim hkn hmn)]
         · have h1 := Tr.putE_len nm y G.main.L
           have h2 := HT.out.len
           show (Tr.putE nm y G.main.L).length ≤ _
           omega
         · have h1 := HT.out.cost
           have h2 := HQ.out
           rw [Nat.succ_mul]
           omega)
       clear hm4 hσ4 hk4 hbk4 hm5 ht4 hof4 hfr4 hof5 hrt hmv hk' hof hfr hw4 e1 e2 e3
       go_wp2_with fail
       go_roundw
       case rel => first | exact ⟨j + 1, by go_num, by omega, HN⟩ | ((repeat apply Exists.intro); exact ⟨⟨j + 1, by go_num, by omega, HN⟩, rfl⟩)
       case measure => simp [intOf]; omega
     · injection e5 with e5
       injection e5 with e5
       simp only [Array.mk.injEq, List.cons.injEq, Value.int.injEq, true_and, and_true] at e5
       obtain ⟨rfl, rfl⟩ := e5
       obtain ⟨x4, f4, dm4, nn4, Sf4, lv4, fv4, hm4, hσ4, hk4⟩ := hat
       have q34 : w4.cell? ⟨E.t, 3, none⟩ = some (.int .i64 (G.main.root : Nat)) := hm4.cells.cell 3
       have f34 := hm4.cells.frozen 3
       have lt4 : E.t < w4.heap.size := hm4.cells.lt
       have hbk4 : Bk (w4.setCell ⟨E.t, 3, none⟩ (.int .i64 0)) E.t 103 (txCells { E with root := 0 } x4 f4 dm4 lv4 fv4) := by
         have := hm4.cells.put 3 (.int .i64 0)
         exact this
       have hm5 := KvMem.other (E' := { E with root := 0 }) hm4 hbk4 ((Off.refl [E.t] w4).setCell (p := ⟨E.t, 3, none⟩) (.inl (by simp)) _) ⟨rfl, rfl, rfl, rfl, rfl, rfl, rfl, rfl, rfl, rfl, rfl, rfl, rfl, rfl, rfl, rfl, rfl, rfl, rfl⟩
       have ht4 : E.t ∈ S' := by rw [hm4.blocks]; simp [txMut]
       have hof4 : Off Sj wr w4 := (Off.of_below HB2.out Sj).trans hof
       have hfr4 : Fresh wr Sj S' := hfr.mono HB2.out.size
       have hof5 : Off Sj wr (w4.setCell ⟨E.t, 3, none⟩ (.int .i64 0)) := hof4.setCell (p := ⟨E.t, 3, none⟩) (hfr4 _ ht4) _
       have HEND := Lib.hid (show NamesWay E F S k Fo w (.returned (.int .i64 9)) (w4.setCell ⟨E.t, 3, none⟩ (.int .i64 0)) from
         .inr ⟨hF, rfl, 0, σ', S', ⟨x4, f4, dm4, nn4, Sf4, lv4, fv4, hm5, hσ4, hk4.other ⟨rfl, rfl, rfl, rfl, rfl⟩⟩, (Off.of_below HB1.out S).trans (HT.out.off.then hof5 HT.out.fresh), (HT.out.fresh.trans hfr4 HT.out.off.size).mono HB1.out.size⟩)
       clear hm4 hσ4 hk4 hbk4 hm5 ht4 hof4 hfr4 hof5 hof hfr hw4 e1 e2 e3
       go_wp2_with fail
       go_ret
       exact HEND.out
   · have z1 : decide ((j : Int) < (ns.length : Int)) = false := decide_eq_false (by omega)
     have hje : j = ns.length := by omega
     have HE9 := Lib.hid (show NamesWay E F S k Fo w (.returned (.int .i64 0)) wr from .inl ⟨rfl, G, σj, Sj, kj, hT.tr, hT.NS, fun n => by
       rw [hT.R n, hje, List.take_length]
       split
       · rfl
       · next hn0 =>
         have hn : n ∉ ns := fun h => hn0 (Forest.known_iff.2 h)
         cases hr : Fo.R n with
         | none => rfl
         | some r => exact absurd ((HMEM.out n).2 (by unfold rootsV; rw [hr]; rfl)) hn, hT.ok, hT.at_, by
       have h1 := hT.cost
       have h2 := Nat.mul_le_mul_right q HNS.out
       rw [hje] at h1
       rw [← HQ.out]
       omega, (Off.of_below HB1.out S).trans hT.off, hT.fresh.mono HB1.out.size⟩)
     clear hT hI h0
     go_wp2_with fail
     go_ret
     exact HE9.out
namespace Tr
theorem kids_few {q c : Nat} : ∀ (ks : List Kd), (∀ k ∈ ks, ∃ m, c ≤ m ∧ q * m ≤ k.L.length ∧ k.P.length + 1 ≤ 2 * m + (k.L.flatMap (·.pages)).length) →
   ∃ M, ks.length * c ≤ M ∧ q * M ≤ (ks.flatMap (·.L)).length ∧ (ks.flatMap (·.P)).length + ks.length ≤ 2 * M + ((ks.flatMap (·.L)).flatMap (·.pages)).length
 | [], _ => ⟨0, by simp, by simp, by simp⟩
 | k :: ks, h => by
   obtain ⟨m, m1, m2, m3⟩ := h k (by simp)
   obtain ⟨M, n1, n2, n3⟩ := kids_few ks fun x hx => h x (by simp [hx])
   refine ⟨m + M, ?_, ?_, ?_⟩
   · rw [List.length_cons, Nat.succ_mul]; omega
   · rw [List.flatMap_cons, List.length_append, Nat.mul_add]; omega
   · simp only [List.flatMap_cons, List.flatMap_append, List.length_append, List.length_cons]
     omega
theorem Stored.few {σ : Book} {q : Nat} : ∀ {d no : Nat} {P : List Nat} {L : List En}, Stored σ d no P L → (d = 0 → q ≤ L.length) → (∀ X : List En, (∀ e ∈ X, e ∈ L) → 122 ≤ Nd.sum true (X.map (·.cell)) → q ≤ X.length) →
   ∃ m, 2 ^ d ≤ m ∧ q * m ≤ L.length ∧ P.length + 1 ≤ 2 * m + (L.flatMap (·.pages)).length
 | 0, no, P, L, h, h0, hq => by
   obtain ⟨cs, P', rfl, g1, g2, g3, ⟨-, rfl, -, -⟩, g5, g6, g7⟩ := h
   refine ⟨1, Nat.le_refl _, by rw [Nat.mul_one]; exact h0 rfl, ?_⟩
   rw [List.length_cons]
   omega
 | d + 1, no, P, L, h, h0, hq => by
   obtain ⟨cs, P', rfl, g1, g2, g3, ⟨ks, hcs, rfl, rfl, -, -, hks⟩, g5, g6, g7⟩ := h
   have h2 := g7 rfl
   rw [hcs, List.length_map] at h2
   have hin : ∀ k ∈ ks, ∀ X : List En, (∀ e ∈ X, e ∈ k.L) → 122 ≤ Nd.sum true (X.map (·.cell)) → q ≤ X.length := fun k hk X hX hs => hq X (fun e he => List.mem_flatMap.2 ⟨k, hk, hX e he⟩) hs
   obtain ⟨M, n1, n2, n3⟩ := kids_few (q := q) (c := 2 ^ d) ks fun k hk => Stored.few (hks k hk).2 (fun hd => hin k hk k.L (fun e he => he) ((hks k hk).1.2 hd)) (hin k hk)
   have h3 := Nat.mul_le_mul_right (2 ^ d) h2
   refine ⟨M, ?_, n2, ?_⟩
   · rw [Nat.pow_succ, Nat.mul_comm]; omega
   · rw [List.length_cons]; omega
theorem sum_cells (s : Nat) : ∀ (X : List En), (∀ e ∈ X, Nd.size true e.cell ≤ s) → Nd.sum true (X.map (·.cell)) ≤ 2 + s * X.length
 | [], _ => by simp [Nd.sum]
 | e :: X, h => by
   have h1 := sum_cells s X fun x hx => h x (by simp [hx])
   have h2 := h e (by simp)
   rw [List.map_cons, Nd.sum_cons, List.length_cons, Nat.mul_succ]
   omega
theorem pages_most (p : Nat) : ∀ (L : List En), (∀ e ∈ L, e.pages.length ≤ p) → (L.flatMap (·.pages)).length ≤ p * L.length
 | [], _ => by simp
 | e :: L, h => by
   have h1 := pages_most p L fun x hx => h x (by simp [hx])
   have h2 := h e (by simp)
   rw [List.flatMap_cons, List.length_append, List.length_cons, Nat.mul_succ]
   omega
theorem Root.few {σ : Book} {root : Nat} {P : List Nat} {L : List En} (h : Root σ root P L) {s n p q M c : Nat} (hs : ∀ e ∈ L, Nd.size true e.cell ≤ s) (hn : L.length ≤ n) (hp : ∀ e ∈ L, e.pages.length ≤ p)
   (hq : ∀ l, 122 ≤ 2 + s * l → q ≤ l) (hM : ∀ m, q * m ≤ n → m ≤ M) (hM1 : 1 ≤ M) (hc : ∀ d, 2 ^ d ≤ M → 2 * d + 4 ≤ c) : RootC σ c root P L ∧ P.length + 1 ≤ 2 * M + p * n := by
 have hpl : (L.flatMap (·.pages)).length ≤ p * n := Nat.le_trans (pages_most p L hp) (Nat.mul_le_mul_left _ hn)
 have hc0 := hc 0 (by simpa using hM1)
 rcases h with ⟨rfl, rfl, rfl⟩ | ⟨d, h⟩
 · exact ⟨.inl ⟨rfl, rfl, rfl, by omega⟩, by simp; omega⟩
 · cases d with
   | zero =>
     refine ⟨.inr ⟨0, h, hc0⟩, ?_⟩
     obtain ⟨cs, P', rfl, g1, g2, g3, ⟨-, rfl, -, -⟩, g5, g6, g7⟩ := h
     rw [List.length_cons]
     omega
   | succ d =>
     obtain ⟨m, m1, m2, m3⟩ := h.few (q := q) (fun hd => by cases hd) (fun X hX h122 => hq _ (Nat.le_trans h122 (sum_cells s X fun e he => hs e (hX e he))))
     have hmM := hM m (Nat.le_trans m2 hn)
     exact ⟨.inr ⟨d + 1, h, hc _ (Nat.le_trans m1 hmM)⟩, by omega⟩
theorem Chain.some {σ : Book} {no : Nat} {ns : List Nat} {v : List UInt8} (h : Chain σ no ns v) (hn : no ≠ 0) : ns ≠ [] := by
 rintro rfl
 exact hn h.1
theorem EnOk.size {σ : Book} {e : En} (h : EnOk σ e) (hk : e.cell.key.size ≤ 2) (hp : e.pages.length = pieces e.val.length) : Nd.size true e.cell ≤ (if e.val.length ≤ 96 then 9 + e.val.length else 15) := by
 have hz : e.val.length ≤ 96 → pieces e.val.length = 0 := fun h9 => by unfold pieces; rw [if_pos h9]
 have hz2 : ¬ e.val.length ≤ 96 → 1 ≤ pieces e.val.length := fun h9 => by unfold pieces; rw [if_neg h9]; omega
 rcases h.2 with ⟨h1, h2, h3⟩ | ⟨h1, h2, h3⟩
 · have hv : e.val.length = e.cell.val.size := by rw [h3]; rfl
   have hl : e.val.length ≤ 96 := by
     by_cases h9 : e.val.length ≤ 96
     · exact h9
     · have := hz2 h9
       rw [h2, List.length_nil] at hp
       omega
   rw [if_pos hl]
   unfold Nd.size
   rw [if_pos rfl, if_neg (by omega)]
   omega
 · have hl : ¬ e.val.length ≤ 96 := fun h9 => by
     have h8 := hz h9
     have h7 := List.length_pos_iff.2 (Chain.some h2 h1)
     omega
   rw [if_neg hl]
   unfold Nd.size
   rw [if_pos rfl, if_pos (by omega)]
   omega
theorem EnOk.short {σ : Book} {e : En} (h : EnOk σ e) (hn : e.val.length = 4) : e.pages = [] := by
 rcases h.2 with ⟨-, h2, -⟩ | ⟨h1, -, h3⟩
 · exact h2
 · have h4 := h.1
   unfold Nd.rightLeaf at h4
   rw [if_neg h1] at h4
   simp at h4
   omega
end Tr
theorem Tr.rising_keys {L : List En} (h : Tr.Rising L) : (L.map (·.cell.key)).Nodup := by
 unfold List.Nodup
 rw [List.pairwise_map]
 refine h.imp fun hab e => ?_
 rw [e, Nd.lt_irrefl] at hab
 cases hab
theorem Forest.Ok.main_keys {F : Forest} {σ : Book} (h : F.Ok σ) : ∀ k ∈ F.main.L.map (·.cell.key), k ∈ F.NS := by
 intro k hk
 obtain ⟨e, he, rfl⟩ := List.mem_map.1 hk
 cases hR : F.R e.cell.key with
 | some r => exact (h.law _ r hR).2
 | none =>
   by_cases hm : e.cell.key ∈ F.NS
   · exact hm
   · have h1 := h.law0 _ hR
     rw [h.out _ hm] at h1
     have h2 : RootIs F.main.L e.cell.key (numAt ⟨e.val.toArray⟩ 0 4) := .inl ⟨e, he, rfl, rfl⟩
     have h3 := RootIs.fun_ h.main.rising h2 h1
     have h4 := (h.names e he).2.1
     have h5 : Tn.zero.root = 0 := rfl
     omega
theorem Forest.Ok.main_few {F : Forest} {σ : Book} (h : F.Ok σ) : F.main.L.length ≤ F.NS.length := by
 have h1 := len_sub _ F.NS (Tr.rising_keys h.main.rising) h.main_keys
 rwa [List.length_map] at h1
theorem Forest.Ok.main_one {F : Forest} {σ : Book} (h : F.Ok σ) (hn : F.NS.length ≤ 1) : F.main.P.length ≤ 1 := by
 have h1 := h.main_few
 rcases h.main with ⟨-, h2, -⟩ | ⟨d, h2⟩
 · rw [h2]; simp
 · have h3 := h2.many
   have hd : d = 0 := by
     cases d with
     | zero => rfl
     | succ d =>
       have := Nat.two_pow_pos d
       rw [Nat.pow_succ] at h3
       omega
   subst hd
   obtain ⟨cs, P', hP, g1, g2, g3, ⟨-, hP', -, -⟩, g5, g6, g7⟩ := h2
   have h0 : F.main.L.flatMap (·.pages) = [] := List.flatMap_eq_nil_iff.2 fun e he => (h.main.ents e he).short (h.names e he).1
   rw [hP, hP', h0]
   simp
namespace Fr
theorem take_old {u : Nat} : ∀ (l : List (Nat × Nat)), Sorted l → (l.takeWhile fun y => decide (y.1 ≤ u)).length = (l.filter fun y => decide (y.1 < u + 1)).length
 | [], _ => rfl
 | a :: l, h => by
   obtain ⟨h1, h2⟩ := List.pairwise_cons.1 h
   by_cases ha : a.1 ≤ u
   · rw [List.takeWhile_cons, if_pos (by simpa using ha), List.filter_cons_of_pos (by simp; omega), List.length_cons, List.length_cons, take_old l h2]
   · rw [List.takeWhile_cons, if_neg (by simpa using ha), List.filter_cons_of_neg (by simp; omega)]
     have : l.filter (fun y => decide (y.1 < u + 1)) = [] := List.filter_eq_nil_iff.2 fun y hy => by
       have := lt_iff.1 (h1 y hy)
       simp
       omega
     rw [this]
end Fr
end Go.Proofs.YtjbcbnemdhbhbaaGreatDoor
