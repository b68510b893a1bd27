import Derived.Test.YtbiglfpikfjbpaaGreatDoorM2
import Derived.Test.YtbiglfpikfjbpaaGreatDoorM3
import Derived.WalkSpells
import Derived.Outline
import Derived.Deep.DeepCutAuto
namespace Go.Proofs.YtbiglfpikfjbpaaGreatDoor
open Go.RowKit
set_option maxRecDepth 100000
set_option linter.unusedVariables false
set_option linter.unusedSimpArgs false
set_option maxHeartbeats 40000000
def aj (s : ByteArray) : Bool:=!s.toList.isEmpty
abbrev FC.arr (f : FC) : Array Value:=#[.int .i64 f.kind,.string f.attr,.string f.value,.string f.first,.slice f.any.A f.any.n f.any.c,.string f.last,.slice f.kids.A f.kids.n f.kids.c]
namespace MC
def nums (m : MC) : Bool:=m.version != 0 || (m.code != 0 || (m.scope != 0 || (m.deref != 0 || (m.size != 0 || (m.time != 0 || m.other != 0)))))
def txts (m : MC) : Bool:=aj m.name || (aj m.secret || (aj m.kind || (aj m.value || (aj m.text || aj m.rdn))))
def trus (m : MC) : Bool:=m.sasl || (m.has || (m.types || m.old))
def rows (m : MC) : Bool:=decide (0 < m.attrs.n) || (decide (0 < m.list.n) || (decide (0 < m.mods.n) || decide (0 < m.dest.n)))
def fils (m : MC) : Bool:=m.filter.kind != 0 || (aj m.filter.attr || (aj m.filter.value || (aj m.filter.first || (decide (0 < m.filter.any.n) || (aj m.filter.last || decide (0 < m.filter.kids.n))))))
def empty (m : MC) : Bool:=!m.nums && (!m.txts && (!m.trus && (!m.rows && !m.fils)))
end MC
theorem or7 (a b c d e f g : Bool) : (a = true) \/ (a = false /\ b = true) \/ (a = false /\ b = false /\ c = true) \/ (a = false /\ b = false /\ c = false /\ d = true) \/ (a = false /\ b = false /\ c = false /\ d = false /\ e = true) \/ (a = false /\ b = false /\ c = false /\ d = false /\ e = false /\ f = true) \/ (a = false /\ b = false /\ c = false /\ d = false /\ e = false /\ f = false /\ g = true) \/ (a = false /\ b = false /\ c = false /\ d = false /\ e = false /\ f = false /\ g = false):=by
 cases a <;> cases b <;> cases c <;> cases d <;> cases e <;> cases f <;> cases g <;> simp
theorem or6 (a b c d e f : Bool) : (a = true) \/ (a = false /\ b = true) \/ (a = false /\ b = false /\ c = true) \/ (a = false /\ b = false /\ c = false /\ d = true) \/ (a = false /\ b = false /\ c = false /\ d = false /\ e = true) \/ (a = false /\ b = false /\ c = false /\ d = false /\ e = false /\ f = true) \/ (a = false /\ b = false /\ c = false /\ d = false /\ e = false /\ f = false):=by
 cases a <;> cases b <;> cases c <;> cases d <;> cases e <;> cases f <;> simp
theorem or5 (a b c d e : Bool) : (a = true) \/ (a = false /\ b = true) \/ (a = false /\ b = false /\ c = true) \/ (a = false /\ b = false /\ c = false /\ d = true) \/ (a = false /\ b = false /\ c = false /\ d = false /\ e = true) \/ (a = false /\ b = false /\ c = false /\ d = false /\ e = false):=by
 cases a <;> cases b <;> cases c <;> cases d <;> cases e <;> simp
theorem or4 (a b c d : Bool) : (a = true) \/ (a = false /\ b = true) \/ (a = false /\ b = false /\ c = true) \/ (a = false /\ b = false /\ c = false /\ d = true) \/ (a = false /\ b = false /\ c = false /\ d = false):=by
 cases a <;> cases b <;> cases c <;> cases d <;> simp
theorem empty_any (m : MC) (w : World) : Calls Tryz.prog 32 #[.agg m.cells] w (aq m.empty w):=by
 obtain ⟨p1,hp1⟩ : ∃ p,p = m.nums:=⟨_,rfl⟩
 have HP1:=aa hp1
 clear hp1
 have HC1 : Hid (m.cells[2]? = some (.int .i64 m.version) /\ m.cells[9]? = some (.int .i64 m.code) /\ m.cells[11]? = some (.int .i64 m.scope) /\ m.cells[12]? = some (.int .i64 m.deref) /\ m.cells[13]? = some (.int .i64 m.size) /\ m.cells[14]? = some (.int .i64 m.time) /\ m.cells[29]? = some (.int .i64 m.other)):=show _ from ⟨rfl,rfl,rfl,rfl,rfl,rfl,rfl⟩
 obtain ⟨p2,hp2⟩ : ∃ p,p = m.txts:=⟨_,rfl⟩
 have HP2:=aa hp2
 clear hp2
 have HC2 : Hid (m.cells[3]? = some (.string m.name) /\ m.cells[5]? = some (.string m.secret) /\ m.cells[6]? = some (.string m.kind) /\ m.cells[8]? = some (.string m.value) /\ m.cells[10]? = some (.string m.text) /\ m.cells[26]? = some (.string m.rdn)):=show _ from ⟨rfl,rfl,rfl,rfl,rfl,rfl⟩
 obtain ⟨p3,hp3⟩ : ∃ p,p = m.trus:=⟨_,rfl⟩
 have HP3:=aa hp3
 clear hp3
 have HC3 : Hid (m.cells[4]? = some (.bool m.sasl) /\ m.cells[7]? = some (.bool m.has) /\ m.cells[15]? = some (.bool m.types) /\ m.cells[27]? = some (.bool m.old)):=show _ from ⟨rfl,rfl,rfl,rfl⟩
 obtain ⟨p4,hp4⟩ : ∃ p,p = m.rows:=⟨_,rfl⟩
 have HP4:=aa hp4
 clear hp4
 have HC4 : Hid (m.cells[23]? = some (.slice m.attrs.A m.attrs.n m.attrs.c) /\ m.cells[24]? = some (.slice m.list.A m.list.n m.list.c) /\ m.cells[25]? = some (.slice m.mods.A m.mods.n m.mods.c) /\ m.cells[28]? = some (.slice m.dest.A m.dest.n m.dest.c)):=show _ from ⟨rfl,rfl,rfl,rfl⟩
 obtain ⟨p5,hp5⟩ : ∃ p,p = m.fils:=⟨_,rfl⟩
 have HP5:=aa hp5
 clear hp5
 have HC5 : Hid (m.cells[16]? = some (.int .i64 m.filter.kind) /\ m.cells[17]? = some (.string m.filter.attr) /\ m.cells[18]? = some (.string m.filter.value) /\ m.cells[19]? = some (.string m.filter.first) /\ m.cells[20]? = some (.slice m.filter.any.A m.filter.any.n m.filter.any.c) /\ m.cells[21]? = some (.string m.filter.last) /\ m.cells[22]? = some (.slice m.filter.kids.A m.filter.kids.n m.filter.kids.c)):=show _ from ⟨rfl,rfl,rfl,rfl,rfl,rfl,rfl⟩
 have HE : Hid (m.empty = (!p1 && (!p2 && (!p3 && (!p4 && !p5))))):=show _ = _ by rw [HP1.out,HP2.out,HP3.out,HP4.out,HP5.out]; rfl
 obtain ⟨cs,hcs⟩ : ∃ cs,cs = m.cells:=⟨_,rfl⟩
 rw [<- hcs] at HC1 HC2 HC3 HC4 HC5 |-
 have HSZ : Hid (cs.size = 31):=show _ = _ by rw [hcs]; rfl
 clear hcs
 obtain ⟨fs,hfs⟩ : ∃ fs,fs = m.filter.arr:=⟨_,rfl⟩
 have HF5 : Hid (fs[0]? = some (.int .i64 m.filter.kind) /\ fs[1]? = some (.string m.filter.attr) /\ fs[2]? = some (.string m.filter.value) /\ fs[3]? = some (.string m.filter.first) /\ fs[4]? = some (.slice m.filter.any.A m.filter.any.n m.filter.any.c) /\ fs[5]? = some (.string m.filter.last) /\ fs[6]? = some (.slice m.filter.kids.A m.filter.kids.n m.filter.kids.c)):=show _ by rw [hfs]; exact ⟨rfl,rfl,rfl,rfl,rfl,rfl,rfl⟩
 have HFE:=aa hfs
 have HFSZ : Hid ((Tryz.prog.info? 25).map (·.size) = some fs.toList.length):=show _ = _ by rw [hfs]; kernel_rfl
 have HFS7 : Hid ((7 = fs.size) /\ (Tryz.prog.info? 25).map (·.size) = some fs.size /\ fs.all (·.oneCell') = true):=by rw [hfs]; exact ⟨rfl,by kernel_rfl,by unfold FC.arr; simp [Value.oneCell']⟩
 clear hfs
 go_enter Tryz.func32,Tryz.ntmps32
 go_upto_region 1 with (fail)
 go_cut [3] (fun v wx => v = .bool p1 /\ wx = w.alloc (.cells cs 30))
 case first =>
  as_aux_lemma =>
   have hq:=HP1.out
   unfold MC.nums at hq
   obtain ⟨t2,t9,t11,t12,t13,t14,t29⟩:=HC1.out
   rcases or7 (m.version != 0) (m.code != 0) (m.scope != 0) (m.deref != 0) (m.size != 0) (m.time != 0) (m.other != 0) with a | ⟨a,b⟩ | ⟨a,b,c⟩ | ⟨a,b,c,d⟩ | ⟨a,b,c,d,e⟩ | ⟨a,b,c,d,e,f⟩ | ⟨a,b,c,d,e,f,g⟩ | ⟨a,b,c,d,e,f,g⟩
   all_goals
    simp only [*,Bool.true_or,Bool.false_or] at hq
    have HQ:=aa hq
    clear hq
    (try unfold aj at *)
    go_wp2_with fail
    go_meet
    exact ⟨by rw [HQ.out],rfl⟩
 case rest =>
  obtain ⟨rfl,rfl⟩:=hcut
  go_upto_region 2 with (fail)
  go_cut [4] (fun v wx => v = .bool p2 /\ wx = w.alloc (.cells cs 30))
  case first =>
   as_aux_lemma =>
    have hq:=HP2.out
    unfold MC.txts at hq
    obtain ⟨t3,t5,t6,t8,t10,t26⟩:=HC2.out
    rcases or6 (aj m.name) (aj m.secret) (aj m.kind) (aj m.value) (aj m.text) (aj m.rdn) with a | ⟨a,b⟩ | ⟨a,b,c⟩ | ⟨a,b,c,d⟩ | ⟨a,b,c,d,e⟩ | ⟨a,b,c,d,e,f⟩ | ⟨a,b,c,d,e,f⟩
    all_goals
     simp only [*,Bool.true_or,Bool.false_or] at hq
     have HQ:=aa hq
     clear hq
     (try unfold aj at *)
     go_wp2_with fail
     go_meet
     exact ⟨by rw [HQ.out],rfl⟩
  case rest =>
   obtain ⟨rfl,rfl⟩:=hcut
   go_upto_region 3 with (fail)
   go_cut [5] (fun v wx => v = .bool p3 /\ wx = w.alloc (.cells cs 30))
   case first =>
    as_aux_lemma =>
     have hq:=HP3.out
     unfold MC.trus at hq
     obtain ⟨t4,t7,t15,t27⟩:=HC3.out
     rcases or4 (m.sasl) (m.has) (m.types) (m.old) with a | ⟨a,b⟩ | ⟨a,b,c⟩ | ⟨a,b,c,d⟩ | ⟨a,b,c,d⟩
     all_goals
      simp only [*,Bool.true_or,Bool.false_or] at hq
      have HQ:=aa hq
      clear hq
      (try unfold aj at *)
      go_wp2_with fail
      go_meet
      exact ⟨by rw [HQ.out],rfl⟩
   case rest =>
    obtain ⟨rfl,rfl⟩:=hcut
    go_upto_region 4 with (fail)
    go_cut [6] (fun v wx => v = .bool p4 /\ wx = w.alloc (.cells cs 30))
    case first =>
     as_aux_lemma =>
      have hq:=HP4.out
      unfold MC.rows at hq
      obtain ⟨t23,t24,t25,t28⟩:=HC4.out
      rcases or4 (decide (0 < m.attrs.n)) (decide (0 < m.list.n)) (decide (0 < m.mods.n)) (decide (0 < m.dest.n)) with a | ⟨a,b⟩ | ⟨a,b,c⟩ | ⟨a,b,c,d⟩ | ⟨a,b,c,d⟩
      all_goals
       simp only [*,Bool.true_or,Bool.false_or] at hq
       have HQ:=aa hq
       clear hq
       (try unfold aj at *)
       go_wp2_with fail
       go_meet
       exact ⟨by rw [HQ.out],rfl⟩
    case rest =>
     obtain ⟨rfl,rfl⟩:=hcut
     obtain ⟨t16,t17,t18,t19,t20,t21,t22⟩:=HC5.out
     have hrg : (w.alloc (.cells cs 30)).rangeAt w.heap.size 16 fs.toList:=by
      intro j v hv
      rw [(Bk.new w 30 cs).cell (16 + j)]
      rw [HFE.out] at hv
      match j with
      | 0 => simpa using (show some _ = some v from hv) ▸ t16
      | 1 => simpa using (show some _ = some v from hv) ▸ t17
      | 2 => simpa using (show some _ = some v from hv) ▸ t18
      | 3 => simpa using (show some _ = some v from hv) ▸ t19
      | 4 => simpa using (show some _ = some v from hv) ▸ t20
      | 5 => simpa using (show some _ = some v from hv) ▸ t21
      | 6 => simpa using (show some _ = some v from hv) ▸ t22
      | j + 7 => simp at hv
     clear t16 t17 t18 t19 t20 t21 t22
     go_upto_region 6 with (first | (refine wpList_load_mid rfl 25 (.tmp 106) rfl w.heap.size 16 rfl fs.toList _ hrg Tryz.underlying25 rfl HFSZ.out ?_) | (refine ap rfl 25 (.tmp 7) (.tmp 107) rfl (w.heap.size + 1) rfl fs (by simp [Act.eval]) 25 _ (heap_alloc2_new w _ _) HFS7.out.1 HFS7.out.2.1 HFS7.out.2.2 ?_; intro w3 hb3 ho3; have HB3:=aa hb3; have HO3:=aa ho3; clear hb3 ho3) | fail)
     try simp only [Act.put,List.setIfInBounds_toArray,List.set_cons_zero,List.set_cons_succ]
     go_cut [8] (fun v wx => v = .bool p5 /\ wx = w3)
     case first =>
      as_aux_lemma =>
       have hq:=HP5.out
       unfold MC.fils at hq
       obtain ⟨t0,t1,t2,t3,t4,t5,t6⟩:=HF5.out
       have e0:=(HB3.out.cell 0).trans t0
       have e1:=(HB3.out.cell 1).trans t1
       have e2:=(HB3.out.cell 2).trans t2
       have e3:=(HB3.out.cell 3).trans t3
       have e4:=(HB3.out.cell 4).trans t4
       have e5:=(HB3.out.cell 5).trans t5
       have e6:=(HB3.out.cell 6).trans t6
       clear t0 t1 t2 t3 t4 t5 t6
       rcases or7 (m.filter.kind != 0) (aj m.filter.attr) (aj m.filter.value) (aj m.filter.first) (decide (0 < m.filter.any.n)) (aj m.filter.last) (decide (0 < m.filter.kids.n)) with a | ⟨a,b⟩ | ⟨a,b,c⟩ | ⟨a,b,c,d⟩ | ⟨a,b,c,d,e⟩ | ⟨a,b,c,d,e,f⟩ | ⟨a,b,c,d,e,f,g⟩ | ⟨a,b,c,d,e,f,g⟩
       all_goals
        simp only [*,Bool.true_or,Bool.false_or] at hq
        have HQ:=aa hq
        clear hq
        (try unfold aj at *)
        go_wp2_with fail
        go_meet
        exact ⟨by rw [HQ.out],rfl⟩
     case rest =>
      obtain ⟨rfl,rfl⟩:=hcut
      rcases or5 p1 p2 p3 p4 p5 with a | ⟨a,b⟩ | ⟨a,b,c⟩ | ⟨a,b,c,d⟩ | ⟨a,b,c,d,e⟩ | ⟨a,b,c,d,e⟩
      all_goals
       (try subst a)
       (try subst b)
       (try subst c)
       (try subst d)
       (try subst e)
       go_wp2_with fail
       go_ret
       exact ah (by rw [HE.out]; simp) ((((Below.refl _ w).alloc (Nat.le_refl _) _).alloc (by simp) _).trans (HO3.out.below (by simp; omega) (by simp)))
end Go.Proofs.YtbiglfpikfjbpaaGreatDoor
