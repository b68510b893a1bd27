import Derived.Test.YtbiglfpikfjbpaaGreatDoorM12
import Derived.Test.YtbiglfpikfjbpaaGreatDoorM3
import Derived.Test.YtbiglfpikfjbpaaGreatDoorM5
namespace Go.Proofs.YtbiglfpikfjbpaaGreatDoor
open Go.RowKit
set_option maxRecDepth 100000
set_option linter.unusedVariables false
set_option linter.unusedSimpArgs false
set_option maxHeartbeats 40000000
def ansP (id op : Int) (ks : List Tl) : Option (Ms × List Tl) :=
 if aD op then (numP 10 0 127 ks).bind fun a => (bc a.2).bind fun b => (bc b.2).bind fun c => match headP 2 10 false c.2 with
  | some (h,rest) => if op == 24 && aj h.body then some ({ Ms.base id op with code:=a.1,name:=b.1,text:=c.1,kind:=h.body },rest) else none
  | none => some ({ Ms.base id op with code:=a.1,name:=b.1,text:=c.1 },c.2)
 else none
theorem readAnswer_any (id op : Int) (b g : Nat) (v : Value) (ks : List Tl) (S : Nat -> Prop) (w : World) (F : Fix S b g w.heap.size) (hb : Bk w b 76 #[v]) (hr : TRow w S v ks) (hg : Bk w g 30 (MC.base id op).cells) (ha : AnsAt w) :
  Calls Tryz.prog 97 #[.pointer (some ⟨b,0,none⟩),.pointer (some ⟨g,0,none⟩)] w (RdM b g S (ansP id op ks) w):=by
 have HF:=aa F
 have HA:=aa ha
 have c1 : w.cell? ⟨g,1,none⟩ = some (.int .i64 op):=hg.cell 1
 have HS:=aa (show St w S b g 30 w v ks (MC.base id op).cells from ⟨Off.refl _ _,hb,hr,hg⟩)
 clear hb hr hg F ha
 go_enter Tryz.func97,Tryz.ntmps97
 (go_wp2_with fail)
 (go_at_call 63)
 refine (fw op _ HA.out).mono ?_
 cases hq : aD op with
 | false =>
  rintro e w1 ⟨rfl,hb1⟩
  have hs1:=HS.out.quiet HF.out (Off.of_below hb1 []) (by simp)
  have HQ:=aa hq
  clear hq
  go_wp2_with fail
  exact ⟨rfl,hs1.off,.inl ⟨by simp [ansP,HQ.out],rfl,⟨_,hs1.ms,rfl⟩⟩⟩
 | true =>
  rintro e w1 ⟨rfl,hb1⟩
  have hs1:=HS.out.quiet HF.out (Off.of_below hb1 []) (by simp)
  have HS1:=aa hs1
  have HQ:=aa hq
  have c1 : w1.cell? ⟨g,1,none⟩ = some (.int .i64 op):=hs1.cell 1
  clear hq hs1 hb1 HS
  go_wp2_with fail
  (go_at_call 41)
  refine (dz 10 0 127 b v ks S _ HS1.out.row HS1.out.tr HF.out.nb).mono ?_
  rintro e w2 ⟨ho,hcs⟩
  rcases hcs with ⟨hn,rfl⟩ | ⟨n2,rest2,v2,hn,rfl,hb2,hr2⟩
  ·exact ⟨rfl,HS1.out.off.trans (ho.mono (by simp)),.inl ⟨by simp [ansP,HQ.out,hn],rfl,⟨_,ho.bk HS1.out.ms (by simpa using HF.out.ne.symm),rfl⟩⟩⟩
  have HN2:=aa hn
  have hs2:=HS1.out.rd HF.out ho hb2 hr2
  have HS2:=aa hs2
  clear ho hb2 hr2 hn hs2 HS1
  have q2_9 : w2.cell? ⟨g,9,none⟩ = some (.int .i64 0):=HS2.out.cell 9
  have f2_9:=HS2.out.frozen 9
  have hp2:=(HS2.out.put HF.out 9 (.int .i64 n2))
  rw [MC.put_code] at hp2
  have HP2:=aa (hp2)
  clear hp2 HS2
  go_wp2_with fail
  (go_at_call 72)
  refine (aW b v2 rest2 S _ HP2.out.row HP2.out.tr HF.out.nb).mono ?_
  rintro e w3 ⟨ho,hcs⟩
  rcases hcs with ⟨hn,rfl⟩ | ⟨n3,rest3,v3,hn,⟨hz3,rfl⟩,hb3,hr3⟩
  ·exact ⟨rfl,HP2.out.off.trans (ho.mono (by simp)),.inl ⟨by simp [ansP,HQ.out,HN2.out,hn],rfl,⟨_,ho.bk HP2.out.ms (by simpa using HF.out.ne.symm),rfl⟩⟩⟩
  have HN3:=aa hn
  have HZ3:=aa hz3
  have hs3:=HP2.out.rd HF.out ho hb3 hr3
  have HS3:=aa hs3
  clear ho hb3 hr3 hn hs3 HP2 q2_9 f2_9 hz3
  go_wp2_with fail
  (go_at_call 72)
  refine (aW b v3 rest3 S _ HS3.out.row HS3.out.tr HF.out.nb).mono ?_
  rintro e w4 ⟨ho,hcs⟩
  rcases hcs with ⟨hn,rfl⟩ | ⟨n4,rest4,v4,hn,⟨hz4,rfl⟩,hb4,hr4⟩
  ·exact ⟨rfl,HS3.out.off.trans (ho.mono (by simp)),.inl ⟨by simp [ansP,HQ.out,HN2.out,HN3.out,hn],rfl,⟨_,ho.bk HS3.out.ms (by simpa using HF.out.ne.symm),rfl⟩⟩⟩
  have HN4:=aa hn
  have HZ4:=aa hz4
  have hs4:=HS3.out.rd HF.out ho hb4 hr4
  have HS4:=aa hs4
  clear ho hb4 hr4 hn hs4 HS3 hz4
  have c4 : w4.cell? ⟨g,1,none⟩ = some (.int .i64 op):=HS4.out.cell 1
  have gl4:=HS4.out.ms.lt
  have q4_3 : w4.cell? ⟨g,3,none⟩ = some (.string ⟨#[]⟩):=HS4.out.cell 3
  have f4_3:=HS4.out.frozen 3
  have q4_10 : w4.cell? ⟨g,10,none⟩ = some (.string ⟨#[]⟩):=HS4.out.cell 10
  have f4_10:=HS4.out.frozen 10
  have hp4:=((HS4.out.put HF.out 3 (.string n3)).put HF.out 10 (.string n4))
  rw [MC.put_name,MC.put_text] at hp4
  have HP4:=aa (hp4)
  clear hp4 HS4
  go_wp2_with fail
  (go_at_call 43)
  refine (ed b v4 rest4 S 2 10 false _ HP4.out.row HP4.out.tr HF.out.nb).mono ?_
  rintro e w5 ⟨ho,hcs⟩
  rcases hcs with ⟨hn,rfl,hb5,hr5⟩ | ⟨s5,l5,rest5,A5,cap5,v5,hn,hz5,rfl,hb5,hr5,hk5⟩
  ·have HN5:=aa hn
   have hs5:=HP4.out.rd HF.out ho hb5 hr5
   have gl5:=hs5.ms.lt
   have HS5:=aa (hs5.new (.cells #[.int .i64 0,.bool false,.int .i64 0,.string ⟨#[]⟩,.slice none 0 0] 42))
   clear ho hb5 hr5 hn hs5 HP4 q4_3 f4_3 q4_10 f4_10
   go_wp2_with fail
   go_end0
   refine ⟨HS5.out.off,.inr ⟨_,rest4,v4,_,by simp only [ansP,HQ.out,if_true,HN2.out,HN3.out,HN4.out,HN5.out,Option.bind_some]; rfl,rfl,HS5.out.row,HS5.out.tr,HS5.out.ms,?_⟩⟩
   exact MsAt.flat rfl rfl rfl rfl rfl rfl ⟨HZ3.out,Nat.zero_le _,Nat.zero_le _,Nat.zero_le _,HZ4.out,Nat.zero_le _⟩
  ·have HN5:=aa hn
   have hs5:=HP4.out.rd HF.out ho hb5 hr5
   have gl5:=hs5.ms.lt
   have HZ5:=aa hz5
   have HS5:=aa hs5
   have HK5:=aa hk5
   clear ho hb5 hr5 hn hs5 hz5 hk5 HP4 q4_3 f4_3 q4_10 f4_10
   have c5 : w5.cell? ⟨g,1,none⟩ = some (.int .i64 op):=HS5.out.cell 1
   obtain ⟨z1,hz1⟩ : ∃ z,z = (op == 24):=⟨_,rfl⟩
   have HO:=aa hz1
   cases z1 with
   | false =>
    have h24 : (op == 24) = false:=hz1.symm
    clear hz1
    go_wp2_with fail
    exact ⟨rfl,(HS5.out.new _).off,.inl ⟨by simp only [ansP,HQ.out,if_true,HN2.out,Option.bind_some,HN3.out,HN4.out,HN5.out,<- HO.out,Tl.body,Bool.false_and,Bool.true_and,Bool.false_eq_true,if_false],rfl,⟨_,(HS5.out.new _).ms,rfl⟩⟩⟩
   | true =>
    have h24 : (op == 24) = true:=hz1.symm
    clear hz1
    cases hf : s5.toList.isEmpty with
    | true =>
     have hf1 : (!s5.toList.isEmpty) = false:=by rw [hf]; rfl
     have hf2 : s5.toList = []:=by simpa using hf
     have HFB:=aa (show aj s5 = false from hf1)
     clear hf
     go_wp2_with fail
     exact ⟨rfl,(HS5.out.new _).off,.inl ⟨by simp only [ansP,HQ.out,if_true,HN2.out,Option.bind_some,HN3.out,HN4.out,HN5.out,<- HO.out,Tl.body,Bool.false_and,Bool.true_and,Bool.false_eq_true,if_false,HFB.out],rfl,⟨_,(HS5.out.new _).ms,rfl⟩⟩⟩
    | false =>
     have hf1 : (!s5.toList.isEmpty) = true:=by rw [hf]; rfl
     have HFB:=aa (show aj s5 = true from hf1)
     clear hf
     have q5_6 : w5.cell? ⟨g,6,none⟩ = some (.string ⟨#[]⟩):=HS5.out.cell 6
     have f5_6:=HS5.out.frozen 6
     have hp5:=(HS5.out.put HF.out 6 (.string s5))
     rw [MC.put_kind] at hp5
     have HP5:=aa (hp5.new (.cells #[.int .i64 2,.bool false,.int .i64 10,.string s5,.slice A5 l5.length cap5] 42))
     clear hp5 HS5
     go_wp2_with fail
     go_end0
     refine ⟨HP5.out.off,.inr ⟨_,rest5,v5,_,by simp only [ansP,HQ.out,if_true,HN2.out,Option.bind_some,HN3.out,HN4.out,HN5.out,<- HO.out,Tl.body,Bool.false_and,Bool.true_and,Bool.false_eq_true,if_false,HFB.out]; rfl,rfl,HP5.out.row,HP5.out.tr,HP5.out.ms,?_⟩⟩
     exact MsAt.flat rfl rfl rfl rfl rfl rfl ⟨HZ3.out,Nat.zero_le _,HZ5.out,Nat.zero_le _,HZ4.out,Nat.zero_le _⟩
def cmpP (id : Int) (ks : List Tl) : Option (Ms × List Tl) :=
 (bc ks).bind fun p => (aZ 16 p.2).bind fun l => (bc l.1).bind fun x => (bc x.2).bind fun y => if y.2 = [] then some ({ Ms.base id 14 with name:=p.1,kind:=x.1,value:=y.1 },l.2) else none
def renP (id : Int) (ks : List Tl) : Option (Ms × List Tl) :=
 (bc ks).bind fun p => (bc p.2).bind fun q => (dl q.2).bind fun t => match headP 2 0 false t.2 with
  | some (h,rest) => some ({ Ms.base id 12 with name:=p.1,rdn:=q.1,old:=t.1,dest:=[h.body] },rest)
  | none => some ({ Ms.base id 12 with name:=p.1,rdn:=q.1,old:=t.1 },t.2)
def extP (id : Int) (ks : List Tl) : Option (Ms × List Tl) :=
 (headP 2 0 false ks).bind fun p => match headP 2 1 false p.2 with
  | some (h,rest) => some ({ Ms.base id 23 with kind:=p.1.body,has:=true,value:=h.body },rest)
  | none => some ({ Ms.base id 23 with kind:=p.1.body },p.2)
theorem parts_compare (id : Int) (b g : Nat) (v : Value) (ks : List Tl) (S : Nat -> Prop) (w : World) (F : Fix S b g w.heap.size) (hb : Bk w b 76 #[v]) (hr : TRow w S v ks) (hg : Bk w g 30 (MC.base id 14).cells) :
  Calls Tryz.prog 70 #[.pointer (some ⟨b,0,none⟩),.pointer (some ⟨g,0,none⟩)] w (RdM b g S (cmpP id ks) w):=by
 have HF:=aa F
 have c1 : w.cell? ⟨g,1,none⟩ = some (.int .i64 14):=hg.cell 1
 have HS:=aa (show St w S b g 30 w v ks (MC.base id 14).cells from ⟨Off.refl _ _,hb,hr,hg⟩)
 clear hb hr hg F
 go_enter Tryz.func70,Tryz.ntmps70
 go_wp2_with fail
 (go_at_call 72)
 refine (aW b v ks S _ HS.out.row HS.out.tr HF.out.nb).mono ?_
 rintro e w1 ⟨ho,hcs⟩
 rcases hcs with ⟨hn,rfl⟩ | ⟨n1,rest1,v1,hn,⟨hz1,rfl⟩,hb1,hr1⟩
 ·exact ⟨rfl,HS.out.off.trans (ho.mono (by simp)),.inl ⟨by simp [cmpP,hn],rfl,⟨_,ho.bk HS.out.ms (by simpa using HF.out.ne.symm),rfl⟩⟩⟩
 have HN1:=aa hn
 have HZ1:=aa hz1
 have hs1:=HS.out.rd HF.out ho hb1 hr1
 have HS1:=aa hs1
 clear ho hb1 hr1 hn hs1 HS hz1
 have q1_3 : w1.cell? ⟨g,3,none⟩ = some (.string ⟨#[]⟩):=HS1.out.cell 3
 have f1_3:=HS1.out.frozen 3
 have hp1:=(HS1.out.put HF.out 3 (.string n1))
 rw [MC.put_name] at hp1
 have HP1:=aa (hp1)
 clear hp1 HS1
 go_wp2_with fail
 (go_at_call 71)
 refine (bA 16 b v1 rest1 S _ HP1.out.row HP1.out.tr HF.out.nb).mono ?_
 rintro e w2 ⟨ho,hcs⟩
 rcases hcs with ⟨hn,rfl⟩ | ⟨n2,rest2,v2,hn,⟨c2,vl2,rfl,hc2,hbc2,hrc2⟩,hb2,hr2⟩
 ·exact ⟨rfl,HP1.out.off.trans (ho.mono (by simp)),.inl ⟨by simp [cmpP,HN1.out,hn],rfl,⟨_,ho.bk HP1.out.ms (by simpa using HF.out.ne.symm),rfl⟩⟩⟩
 have HN2:=aa hn
 have HA2:=aa (show Ax S w.heap.size c2 w2 vl2 n2 from ⟨hbc2,hrc2,Nat.le_trans HP1.out.off.size hc2⟩)
 have hs2:=HP1.out.rd HF.out ho hb2 hr2
 have HS2:=aa hs2
 clear ho hb2 hr2 hn hs2 HP1 q1_3 f1_3 hbc2 hrc2 hc2
 go_wp2_with fail
 (go_at_call 72)
 refine (aW c2 vl2 n2 S _ HA2.out.row HA2.out.tr (HA2.out.nb HF.out)).mono ?_
 rintro e w3 ⟨ho,hcs⟩
 have hs3:=HS2.out.quiet HF.out ho (by simpa using HA2.out.le)
 rcases hcs with ⟨hn,rfl⟩ | ⟨n3,rest3,v3,hn,⟨hz3,rfl⟩,hb3,hr3⟩
 ·exact ⟨rfl,hs3.off,.inl ⟨by simp [cmpP,HN1.out,HN2.out,hn],rfl,⟨_,hs3.ms,rfl⟩⟩⟩
 have HN3:=aa hn
 have HZ3:=aa hz3
 have HA3:=aa (show Ax S w.heap.size c2 w3 v3 rest3 from ⟨hb3,hr3,HA2.out.le⟩)
 have HS3:=aa hs3
 clear ho hb3 hr3 hn hs3 HS2 HA2 hz3
 go_wp2_with fail
 (go_at_call 72)
 refine (aW c2 v3 rest3 S _ HA3.out.row HA3.out.tr (HA3.out.nb HF.out)).mono ?_
 rintro e w4 ⟨ho,hcs⟩
 have hs4:=HS3.out.quiet HF.out ho (by simpa using HA3.out.le)
 rcases hcs with ⟨hn,rfl⟩ | ⟨n4,rest4,v4,hn,⟨hz4,rfl⟩,hb4,hr4⟩
 ·exact ⟨rfl,hs4.off,.inl ⟨by simp [cmpP,HN1.out,HN2.out,HN3.out,hn],rfl,⟨_,hs4.ms,rfl⟩⟩⟩
 have HN4:=aa hn
 have HZ4:=aa hz4
 have HA4:=aa (show Ax S w.heap.size c2 w4 v4 rest4 from ⟨hb4,hr4,HA3.out.le⟩)
 have HS4:=aa hs4
 clear ho hb4 hr4 hn hs4 HS3 HA3 hz4
 have q4_6 : w4.cell? ⟨g,6,none⟩ = some (.string ⟨#[]⟩):=HS4.out.cell 6
 have f4_6:=HS4.out.frozen 6
 have q4_8 : w4.cell? ⟨g,8,none⟩ = some (.string ⟨#[]⟩):=HS4.out.cell 8
 have f4_8:=HS4.out.frozen 8
 have hp4:=((HS4.out.put HF.out 6 (.string n3)).put HF.out 8 (.string n4))
 rw [MC.put_kind,MC.put_value] at hp4
 have HP4:=aa (hp4)
 clear hp4 HS4
 have HB4:=aa ((HA4.out.put HF.out 6 (.string n3)).put HF.out 8 (.string n4))
 clear HA4
 obtain ⟨A5,cap5,hv5,-⟩:=_root_.id HB4.out.tr
 subst hv5
 have HE5:=aa (bw c2 rest4.length A5 cap5 _ HB4.out.row)
 go_wp2_with fail
 (go_at_call 45)
 refine HE5.out.mono ?_
 rintro e w5 ⟨ho,hcs⟩
 have hs5:=HP4.out.quiet HF.out ho (by simp)
 rcases hcs.symm with ⟨hn,rfl⟩ | ⟨hn,rfl⟩
 ·have hl : rest4 ≠ []:=by intro h; rw [h] at hn; simp at hn
  exact ⟨rfl,hs5.off,.inl ⟨by simp [cmpP,HN1.out,HN2.out,HN3.out,HN4.out,hl],rfl,⟨_,hs5.ms,rfl⟩⟩⟩
 have hl : rest4 = []:=by simpa using hn
 have HL5:=aa hl
 have HS5:=aa hs5
 clear ho hs5 hn hl HP4 HB4 q4_6 f4_6 q4_8 f4_8
 go_wp2_with fail
 go_end0
 refine ⟨HS5.out.off,.inr ⟨_,rest2,v2,_,by simp only [cmpP,HN1.out,HN2.out,HN3.out,HN4.out,HL5.out,Option.bind_some]; rfl,rfl,HS5.out.row,HS5.out.tr,HS5.out.ms,?_⟩⟩
 exact MsAt.flat rfl rfl rfl rfl rfl rfl ⟨HZ1.out,Nat.zero_le _,HZ3.out,HZ4.out,Nat.zero_le _,Nat.zero_le _⟩
theorem parts_rename (id : Int) (b g : Nat) (v : Value) (ks : List Tl) (S : Nat -> Prop) (w : World) (F : Fix S b g w.heap.size) (hb : Bk w b 76 #[v]) (hr : TRow w S v ks) (hg : Bk w g 30 (MC.base id 12).cells) :
  Calls Tryz.prog 70 #[.pointer (some ⟨b,0,none⟩),.pointer (some ⟨g,0,none⟩)] w (RdM b g S (renP id ks) w):=by
 have HF:=aa F
 have c1 : w.cell? ⟨g,1,none⟩ = some (.int .i64 12):=hg.cell 1
 have HS:=aa (show St w S b g 30 w v ks (MC.base id 12).cells from ⟨Off.refl _ _,hb,hr,hg⟩)
 clear hb hr hg F
 go_enter Tryz.func70,Tryz.ntmps70
 go_wp2_with fail
 (go_at_call 72)
 refine (aW b v ks S _ HS.out.row HS.out.tr HF.out.nb).mono ?_
 rintro e w1 ⟨ho,hcs⟩
 rcases hcs with ⟨hn,rfl⟩ | ⟨n1,rest1,v1,hn,⟨hz1,rfl⟩,hb1,hr1⟩
 ·exact ⟨rfl,HS.out.off.trans (ho.mono (by simp)),.inl ⟨by simp [renP,hn],rfl,⟨_,ho.bk HS.out.ms (by simpa using HF.out.ne.symm),rfl⟩⟩⟩
 have HN1:=aa hn
 have HZ1:=aa hz1
 have hs1:=HS.out.rd HF.out ho hb1 hr1
 have HS1:=aa hs1
 clear ho hb1 hr1 hn hs1 HS hz1
 go_wp2_with fail
 (go_at_call 72)
 refine (aW b v1 rest1 S _ HS1.out.row HS1.out.tr HF.out.nb).mono ?_
 rintro e w2 ⟨ho,hcs⟩
 rcases hcs with ⟨hn,rfl⟩ | ⟨n2,rest2,v2,hn,⟨hz2,rfl⟩,hb2,hr2⟩
 ·exact ⟨rfl,HS1.out.off.trans (ho.mono (by simp)),.inl ⟨by simp [renP,HN1.out,hn],rfl,⟨_,ho.bk HS1.out.ms (by simpa using HF.out.ne.symm),rfl⟩⟩⟩
 have HN2:=aa hn
 have HZ2:=aa hz2
 have hs2:=HS1.out.rd HF.out ho hb2 hr2
 have HS2:=aa hs2
 clear ho hb2 hr2 hn hs2 HS1 hz2
 go_wp2_with fail
 (go_at_call 73)
 refine (fJ b v2 rest2 S _ HS2.out.row HS2.out.tr HF.out.nb).mono ?_
 rintro e w3 ⟨ho,hcs⟩
 rcases hcs with ⟨hn,rfl⟩ | ⟨n3,rest3,v3,hn,rfl,hb3,hr3⟩
 ·exact ⟨rfl,HS2.out.off.trans (ho.mono (by simp)),.inl ⟨by simp [renP,HN1.out,HN2.out,hn],rfl,⟨_,ho.bk HS2.out.ms (by simpa using HF.out.ne.symm),rfl⟩⟩⟩
 have HN3:=aa hn
 have hs3:=HS2.out.rd HF.out ho hb3 hr3
 have HS3:=aa hs3
 clear ho hb3 hr3 hn hs3 HS2
 have q3_3 : w3.cell? ⟨g,3,none⟩ = some (.string ⟨#[]⟩):=HS3.out.cell 3
 have f3_3:=HS3.out.frozen 3
 have q3_26 : w3.cell? ⟨g,26,none⟩ = some (.string ⟨#[]⟩):=HS3.out.cell 26
 have f3_26:=HS3.out.frozen 26
 have q3_27 : w3.cell? ⟨g,27,none⟩ = some (.bool false):=HS3.out.cell 27
 have f3_27:=HS3.out.frozen 27
 have hp3:=(((HS3.out.put HF.out 3 (.string n1)).put HF.out 26 (.string n2)).put HF.out 27 (.bool n3))
 rw [MC.put_name,MC.put_rdn,MC.put_old] at hp3
 have HP3:=aa (hp3)
 clear hp3 HS3
 go_wp2_with fail
 (go_at_call 43)
 refine (ed b v3 rest3 S 2 0 false _ HP3.out.row HP3.out.tr HF.out.nb).mono ?_
 rintro e w4 ⟨ho,hcs⟩
 rcases hcs with ⟨hn,rfl,hb4,hr4⟩ | ⟨s4,l4,rest4,A4,cap4,v4,hn,hz4,rfl,hb4,hr4,hk4⟩
 ·have HN4:=aa hn
  have hs4:=HP3.out.rd HF.out ho hb4 hr4
  have gl4:=hs4.ms.lt
  have HS4:=aa (hs4.new (.cells #[.int .i64 0,.bool false,.int .i64 0,.string ⟨#[]⟩,.slice none 0 0] 42))
  clear ho hb4 hr4 hn hs4 HP3 q3_3 f3_3 q3_26 f3_26 q3_27 f3_27
  go_wp2_with fail
  go_end0
  refine ⟨HS4.out.off,.inr ⟨_,rest3,v3,_,by simp only [renP,HN1.out,HN2.out,HN3.out,HN4.out,Option.bind_some]; rfl,rfl,HS4.out.row,HS4.out.tr,HS4.out.ms,?_⟩⟩
  exact MsAt.flat rfl rfl rfl rfl rfl rfl ⟨HZ1.out,Nat.zero_le _,Nat.zero_le _,Nat.zero_le _,Nat.zero_le _,HZ2.out⟩
 ·have HN4:=aa hn
  have hs4:=HP3.out.rd HF.out ho hb4 hr4
  have gl4:=hs4.ms.lt
  have HZ4:=aa hz4
  have HS4:=aa hs4
  have HK4:=aa hk4
  clear ho hb4 hr4 hn hs4 hz4 hk4 HP3 q3_3 f3_3 q3_26 f3_26 q3_27 f3_27
  have HW4:=aa HS4.out.off.size
  have q4_28 : w4.cell? ⟨g,28,none⟩ = some (.slice none 0 0):=HS4.out.cell 28
  have f4_28:=HS4.out.frozen 28
  have hp4:=(HS4.out.put HF.out 28 (.slice (⟨some ⟨w4.heap.size + 1,0,none⟩,1,1⟩ : Rw).A (⟨some ⟨w4.heap.size + 1,0,none⟩,1,1⟩ : Rw).n (⟨some ⟨w4.heap.size + 1,0,none⟩,1,1⟩ : Rw).c))
  rw [MC.put_dest] at hp4
  have HP4:=aa (hp4.new (.cells #[.int .i64 2,.bool false,.int .i64 0,.string s4,.slice A4 l4.length cap4] 42) |>.new (.cells #[.string s4] 9))
  clear hp4 HS4
  go_wp2_with fail
  go_end0
  refine ⟨HP4.out.off,.inr ⟨_,rest4,v4,_,by simp only [renP,HN1.out,HN2.out,HN3.out,HN4.out,Option.bind_some]; rfl,rfl,HP4.out.row,HP4.out.tr,HP4.out.ms,?_⟩⟩
  exact ⟨FC.zero,Rw.none,Rw.none,Rw.none,_,Rw.none,rfl,⟨HZ1.out,Nat.zero_le _,Nat.zero_le _,Nat.zero_le _,Nat.zero_le _,HZ2.out⟩,di _ _,RowOf.nil _ _,RowOf.nil _ _,RowOf.nil _ _,sRow_one (bk_new2 _ _ _ _ _ _) (Nat.le_succ_of_le HW4.out) HZ4.out,RowOf.nil _ _⟩
theorem parts_ext (id : Int) (b g : Nat) (v : Value) (ks : List Tl) (S : Nat -> Prop) (w : World) (F : Fix S b g w.heap.size) (hb : Bk w b 76 #[v]) (hr : TRow w S v ks) (hg : Bk w g 30 (MC.base id 23).cells) :
  Calls Tryz.prog 70 #[.pointer (some ⟨b,0,none⟩),.pointer (some ⟨g,0,none⟩)] w (RdM b g S (extP id ks) w):=by
 have HF:=aa F
 have c1 : w.cell? ⟨g,1,none⟩ = some (.int .i64 23):=hg.cell 1
 have HS:=aa (show St w S b g 30 w v ks (MC.base id 23).cells from ⟨Off.refl _ _,hb,hr,hg⟩)
 clear hb hr hg F
 go_enter Tryz.func70,Tryz.ntmps70
 go_wp2_with fail
 (go_at_call 69)
 refine (must_r b v ks S 2 0 false _ HS.out.row HS.out.tr HF.out.nb).mono ?_
 rintro e w1 ⟨ho,hcs⟩
 rcases hcs with ⟨hn,rfl⟩ | ⟨s1,l1,rest1,A1,cap1,v1,hn,hz1,rfl,hb1,hr1,hk1⟩
 ·exact ⟨rfl,HS.out.off.trans (ho.mono (by simp)),.inl ⟨by simp [extP,hn],rfl,⟨_,ho.bk HS.out.ms (by simpa using HF.out.ne.symm),rfl⟩⟩⟩
 have HN1:=aa hn
 have HZ1:=aa hz1
 have HK1:=aa hk1
 have hs1:=HS.out.rd HF.out ho hb1 hr1
 have HS1:=aa hs1
 have hfb1:=eZ 2 0 false s1 (.slice A1 l1.length cap1)
 have hfk1:=eY 2 0 false (.string s1) (.slice A1 l1.length cap1)
 clear ho hb1 hr1 hn hs1 hz1 hk1 HS
 have q1_6 : w1.cell? ⟨g,6,none⟩ = some (.string ⟨#[]⟩):=HS1.out.cell 6
 have f1_6:=HS1.out.frozen 6
 have hp1:=(HS1.out.put HF.out 6 (.string s1))
 rw [MC.put_kind] at hp1
 have HP1:=aa (hp1)
 clear hp1 HS1
 go_wp2_with fail
 (go_at_call 43)
 refine (ed b v1 rest1 S 2 1 false _ HP1.out.row HP1.out.tr HF.out.nb).mono ?_
 rintro e w2 ⟨ho,hcs⟩
 rcases hcs with ⟨hn,rfl,hb2,hr2⟩ | ⟨s2,l2,rest2,A2,cap2,v2,hn,hz2,rfl,hb2,hr2,hk2⟩
 ·have HN2:=aa hn
  have hs2:=HP1.out.rd HF.out ho hb2 hr2
  have gl2:=hs2.ms.lt
  have HS2:=aa (hs2.new (.cells #[.int .i64 0,.bool false,.int .i64 0,.string ⟨#[]⟩,.slice none 0 0] 42))
  clear ho hb2 hr2 hn hs2 HP1 q1_6 f1_6
  go_wp2_with fail
  go_end0
  refine ⟨HS2.out.off,.inr ⟨_,rest1,v1,_,by simp only [extP,HN1.out,HN2.out,Option.bind_some]; rfl,rfl,HS2.out.row,HS2.out.tr,HS2.out.ms,?_⟩⟩
  exact MsAt.flat rfl rfl rfl rfl rfl rfl ⟨Nat.zero_le _,Nat.zero_le _,HZ1.out,Nat.zero_le _,Nat.zero_le _,Nat.zero_le _⟩
 ·have HN2:=aa hn
  have hs2:=HP1.out.rd HF.out ho hb2 hr2
  have gl2:=hs2.ms.lt
  have HZ2:=aa hz2
  have HS2:=aa hs2
  have HK2:=aa hk2
  clear ho hb2 hr2 hn hs2 hz2 hk2 HP1 q1_6 f1_6
  have q2_7 : w2.cell? ⟨g,7,none⟩ = some (.bool false):=HS2.out.cell 7
  have f2_7:=HS2.out.frozen 7
  have q2_8 : w2.cell? ⟨g,8,none⟩ = some (.string ⟨#[]⟩):=HS2.out.cell 8
  have f2_8:=HS2.out.frozen 8
  have hp2:=((HS2.out.put HF.out 7 (.bool true)).put HF.out 8 (.string s2))
  rw [MC.put_has,MC.put_value] at hp2
  have HP2:=aa (hp2.new (.cells #[.int .i64 2,.bool false,.int .i64 1,.string s2,.slice A2 l2.length cap2] 42) |>.drew)
  clear hp2 HS2
  go_wp2_with fail
  go_region
  all_goals
   go_wp2_with fail
   go_end0
   refine ⟨HP2.out.off,.inr ⟨_,rest2,v2,_,by simp only [extP,HN1.out,HN2.out,Option.bind_some]; rfl,rfl,HP2.out.row,HP2.out.tr,HP2.out.ms,?_⟩⟩
   exact MsAt.flat rfl rfl rfl rfl rfl rfl ⟨Nat.zero_le _,Nat.zero_le _,HZ1.out,HZ2.out,Nat.zero_le _,Nat.zero_le _⟩
theorem MC.put_filter (m : MC) (f : FC) : ((((((m.cells.setIfInBounds 16 (.int .i64 f.kind)).setIfInBounds 17 (.string f.attr)).setIfInBounds 18 (.string f.value)).setIfInBounds 19 (.string f.first)).setIfInBounds 20 (.slice f.any.A f.any.n f.any.c)).setIfInBounds 21 (.string f.last)).setIfInBounds 22 (.slice f.kids.A f.kids.n f.kids.c) = ({ m with filter:=f } : MC).cells:=by
 simp only [MC.cells,List.setIfInBounds_toArray,List.set_cons_succ,List.set_cons_zero]
theorem St.adv {w0 w : World} {S : Nat -> Prop} {b g : Nat} {T : TypeId} {v v' : Value} {ks rest : List Tl} {cs : Array Value} (F : Fix S b g w0.heap.size) (h : St w0 S b g T w v ks cs) (hr : TRow w S v' rest) : St w0 S b g T (w.setCell ⟨b,0,none⟩ v') v' rest cs :=
 ⟨h.off.setCell (.inl (by simp)) _,by have:=h.row.put 0 v'; simpa using this,hr.keep (by simp [World.setCell]) (fun x hx _ => Below.heap_setCell w ⟨b,0,none⟩ v' x (F.apart x hx).1) (fun _ h _ => h),h.ms.far (fun e => F.ne e.symm) _⟩
theorem Few.head {k : Tl} {ks : List Tl} (h : Few (k :: ks)) : k.few:=by
 obtain ⟨h1,h2⟩:=h
 unfold Tl.fews at h2
 exact h2.1
theorem Few.headP {c t : Int} {k : Bool} {ks rest : List Tl} {x : Tl} (h : Few ks) (hp : headP c t k ks = some (x,rest)) : Few rest:=by
 obtain ⟨rfl,-⟩:=bi hp
 exact h.tail
theorem Few.num {t lo hi : Int} {ks rest : List Tl} {n : Int} (h : Few ks) (hp : numP t lo hi ks = some (n,rest)) : Few rest:=by
 unfold numP at hp
 cases hh : Go.Proofs.YtbiglfpikfjbpaaGreatDoor.headP 0 t false ks with
 | none => rw [hh] at hp; simp at hp
 | some p =>
  obtain ⟨x,r⟩:=p
  rw [hh] at hp
  simp at hp
  obtain ⟨a,-,-,rfl⟩:=hp
  exact h.headP hh
theorem Few.truth {ks rest : List Tl} {q : Bool} (h : Few ks) (hp : dl ks = some (q,rest)) : Few rest:=by
 unfold dl at hp
 cases hh : Go.Proofs.YtbiglfpikfjbpaaGreatDoor.headP 0 1 false ks with
 | none => rw [hh] at hp; simp at hp
 | some p =>
  obtain ⟨x,r⟩:=p
  rw [hh] at hp
  simp at hp
  obtain ⟨-,-,rfl⟩:=hp
  exact h.headP hh
def seaP (id : Int) (ks : List Tl) : Option (Ms × List Tl) :=
 (bc ks).bind fun a => (numP 10 0 2 a.2).bind fun b => (numP 10 0 3 b.2).bind fun c => (numP 2 0 2147483647 c.2).bind fun d => (numP 2 0 2147483647 d.2).bind fun e => (dl e.2).bind fun t => match t.2 with
  | [] => none
  | k :: r => (filP k).bind fun f => (aZ 16 r).bind fun l => (cf l.1).bind fun ss => some ({ Ms.base id 3 with name:=a.1,scope:=b.1,deref:=c.1,size:=d.1,time:=e.1,types:=t.1,filter:=f,attrs:=ss },l.2)
theorem FlAt.offk {Z : List Nat} {w1 w2 : World} {B : Nat} {f : Fl} {c : List Value} (h : FlAt w1 (fun x => B <= x) f c) (ho : Off Z w1 w2) (hZ : ∀ z ∈ Z,z < B \/ w1.heap.size <= z) : FlAt w2 (fun x => B <= x) f c :=
 FlAt.keep ho.size (fun x hx hlt => ho.block x hlt (fun hm => by have:=hZ x hm; omega)) (fun _ h _ => h) _ _ h
theorem RowOf.offk {α : Type} {k : Nat} {At : World -> (Nat -> Prop) -> α -> List Value -> Prop} (hA : cq At) {Z : List Nat} {w1 w2 : World} {B : Nat} {r : Rw} {ds : List α} (h : RowOf k At w1 (fun x => B <= x) r ds) (ho : Off Z w1 w2) (hZ : ∀ z ∈ Z,z < B \/ w1.heap.size <= z) : RowOf k At w2 (fun x => B <= x) r ds :=
 h.keep hA ho.size (fun x hx hlt => ho.block x hlt (fun hm => by have:=hZ x hm; omega)) (fun _ h _ => h)
theorem SRow.weak {w : World} {S T : Nat -> Prop} {r : Rw} {ds : List ByteArray} (h : SRow w S r ds) (hT : ∀ x,S x -> T x) : SRow w T r ds:=RowOf.keep al h (Nat.le_refl _) (fun _ _ _ => rfl) (fun x hx _ => hT x hx)
theorem FlAt.offn {Z : List Nat} {w1 w2 : World} {B c0 : Nat} {f : Fl} {c : List Value} (h : FlAt w1 (fun x => B <= x) f c) (ho : Off Z w1 w2) (hZ : ∀ z ∈ Z,z < B \/ w1.heap.size <= z) (hc : w1.heap.size <= c0) : FlAt w2 (fun x => B <= x /\ x ≠ c0) f c :=
 FlAt.keep ho.size (fun x hx hlt => ho.block x hlt (fun hm => by have:=hZ x hm; omega)) (fun x hx hlt => ⟨hx,by omega⟩) _ _ h
theorem FlAt.offc {w1 w2 : World} {B c0 : Nat} {f : Fl} {c : List Value} (h : FlAt w1 (fun x => B <= x /\ x ≠ c0) f c) (ho : Off [c0] w1 w2) : FlAt w2 (fun x => B <= x) f c :=
 FlAt.keep ho.size (fun x hx hlt => ho.block x hlt (by simpa using hx.2)) (fun x hx _ => hx.1) _ _ h
theorem search_any (id : Int) (b g : Nat) (v : Value) (ks : List Tl) (S : Nat -> Prop) (w : World) (F : Fix S b g w.heap.size) (hb : Bk w b 76 #[v]) (hr : TRow w S v ks) (hg : Bk w g 30 (MC.base id 3).cells) (hfew : Few ks) :
  Calls Tryz.prog 95 #[.pointer (some ⟨b,0,none⟩),.pointer (some ⟨g,0,none⟩)] w (RdM b g S (seaP id ks) w):=by
 have HF:=aa F
 have c1 : w.cell? ⟨g,1,none⟩ = some (.int .i64 3):=hg.cell 1
 have HS:=aa (show St w S b g 30 w v ks (MC.base id 3).cells from ⟨Off.refl _ _,hb,hr,hg⟩)
 clear hb hr hg F
 have HFEW:=aa hfew
 clear hfew
 go_enter Tryz.func95,Tryz.ntmps95
 go_wp2_with fail
 (go_at_call 72)
 refine (aW b v ks S _ HS.out.row HS.out.tr HF.out.nb).mono ?_
 rintro e w1 ⟨ho,hcs⟩
 rcases hcs with ⟨hn,rfl⟩ | ⟨n1,rest1,v1,hn,⟨hz1,rfl⟩,hb1,hr1⟩
 ·exact ⟨rfl,HS.out.off.trans (ho.mono (by simp)),.inl ⟨by simp [seaP,hn],rfl,⟨_,ho.bk HS.out.ms (by simpa using HF.out.ne.symm),rfl⟩⟩⟩
 have HN1:=aa hn
 have HZ1:=aa hz1
 have hs1:=HS.out.rd HF.out ho hb1 hr1
 have HS1:=aa hs1
 clear ho hb1 hr1 hn hs1 HS hz1
 have q1_3 : w1.cell? ⟨g,3,none⟩ = some (.string ⟨#[]⟩):=HS1.out.cell 3
 have f1_3:=HS1.out.frozen 3
 have hp1:=(HS1.out.put HF.out 3 (.string n1))
 rw [MC.put_name] at hp1
 have HP1:=aa (hp1)
 clear hp1 HS1
 go_wp2_with fail
 (go_at_call 41)
 refine (dz 10 0 2 b v1 rest1 S _ HP1.out.row HP1.out.tr HF.out.nb).mono ?_
 rintro e w2 ⟨ho,hcs⟩
 rcases hcs with ⟨hn,rfl⟩ | ⟨n2,rest2,v2,hn,rfl,hb2,hr2⟩
 ·exact ⟨rfl,HP1.out.off.trans (ho.mono (by simp)),.inl ⟨by simp [seaP,HN1.out,hn],rfl,⟨_,ho.bk HP1.out.ms (by simpa using HF.out.ne.symm),rfl⟩⟩⟩
 have HN2:=aa hn
 have hs2:=HP1.out.rd HF.out ho hb2 hr2
 have HS2:=aa hs2
 clear ho hb2 hr2 hn hs2 HP1 q1_3 f1_3
 go_wp2_with fail
 (go_at_call 41)
 refine (dz 10 0 3 b v2 rest2 S _ HS2.out.row HS2.out.tr HF.out.nb).mono ?_
 rintro e w3 ⟨ho,hcs⟩
 rcases hcs with ⟨hn,rfl⟩ | ⟨n3,rest3,v3,hn,rfl,hb3,hr3⟩
 ·exact ⟨rfl,HS2.out.off.trans (ho.mono (by simp)),.inl ⟨by simp [seaP,HN1.out,HN2.out,hn],rfl,⟨_,ho.bk HS2.out.ms (by simpa using HF.out.ne.symm),rfl⟩⟩⟩
 have HN3:=aa hn
 have hs3:=HS2.out.rd HF.out ho hb3 hr3
 have HS3:=aa hs3
 clear ho hb3 hr3 hn hs3 HS2
 have q3_11 : w3.cell? ⟨g,11,none⟩ = some (.int .i64 0):=HS3.out.cell 11
 have f3_11:=HS3.out.frozen 11
 have q3_12 : w3.cell? ⟨g,12,none⟩ = some (.int .i64 0):=HS3.out.cell 12
 have f3_12:=HS3.out.frozen 12
 have hp3:=((HS3.out.put HF.out 11 (.int .i64 n2)).put HF.out 12 (.int .i64 n3))
 rw [MC.put_scope,MC.put_deref] at hp3
 have HP3:=aa (hp3)
 clear hp3 HS3
 go_wp2_with fail
 (go_at_call 41)
 refine (dz 2 0 2147483647 b v3 rest3 S _ HP3.out.row HP3.out.tr HF.out.nb).mono ?_
 rintro e w4 ⟨ho,hcs⟩
 rcases hcs with ⟨hn,rfl⟩ | ⟨n4,rest4,v4,hn,rfl,hb4,hr4⟩
 ·exact ⟨rfl,HP3.out.off.trans (ho.mono (by simp)),.inl ⟨by simp [seaP,HN1.out,HN2.out,HN3.out,hn],rfl,⟨_,ho.bk HP3.out.ms (by simpa using HF.out.ne.symm),rfl⟩⟩⟩
 have HN4:=aa hn
 have hs4:=HP3.out.rd HF.out ho hb4 hr4
 have HS4:=aa hs4
 clear ho hb4 hr4 hn hs4 HP3 q3_11 f3_11 q3_12 f3_12
 go_wp2_with fail
 (go_at_call 41)
 refine (dz 2 0 2147483647 b v4 rest4 S _ HS4.out.row HS4.out.tr HF.out.nb).mono ?_
 rintro e w5 ⟨ho,hcs⟩
 rcases hcs with ⟨hn,rfl⟩ | ⟨n5,rest5,v5,hn,rfl,hb5,hr5⟩
 ·exact ⟨rfl,HS4.out.off.trans (ho.mono (by simp)),.inl ⟨by simp [seaP,HN1.out,HN2.out,HN3.out,HN4.out,hn],rfl,⟨_,ho.bk HS4.out.ms (by simpa using HF.out.ne.symm),rfl⟩⟩⟩
 have HN5:=aa hn
 have hs5:=HS4.out.rd HF.out ho hb5 hr5
 have HS5:=aa hs5
 clear ho hb5 hr5 hn hs5 HS4
 have q5_13 : w5.cell? ⟨g,13,none⟩ = some (.int .i64 0):=HS5.out.cell 13
 have f5_13:=HS5.out.frozen 13
 have q5_14 : w5.cell? ⟨g,14,none⟩ = some (.int .i64 0):=HS5.out.cell 14
 have f5_14:=HS5.out.frozen 14
 have hp5:=((HS5.out.put HF.out 13 (.int .i64 n4)).put HF.out 14 (.int .i64 n5))
 rw [MC.put_size,MC.put_time] at hp5
 have HP5:=aa (hp5)
 clear hp5 HS5
 go_wp2_with fail
 (go_at_call 73)
 refine (fJ b v5 rest5 S _ HP5.out.row HP5.out.tr HF.out.nb).mono ?_
 rintro e w6 ⟨ho,hcs⟩
 rcases hcs with ⟨hn,rfl⟩ | ⟨n6,rest6,v6,hn,rfl,hb6,hr6⟩
 ·exact ⟨rfl,HP5.out.off.trans (ho.mono (by simp)),.inl ⟨by simp [seaP,HN1.out,HN2.out,HN3.out,HN4.out,HN5.out,hn],rfl,⟨_,ho.bk HP5.out.ms (by simpa using HF.out.ne.symm),rfl⟩⟩⟩
 have HN6:=aa hn
 have hs6:=HP5.out.rd HF.out ho hb6 hr6
 have HS6:=aa hs6
 clear ho hb6 hr6 hn hs6 HP5 q5_13 f5_13 q5_14 f5_14
 obtain ⟨A7,cap7,hv7,hlc7,hcm7,hel7⟩:=_root_.id HS6.out.tr
 subst hv7
 have c7 : w6.cell? ⟨b,0,none⟩ = some (.slice A7 rest6.length cap7):=HS6.out.row.cell 0
 have fr7 : w6.frozen? ⟨b,0,none⟩ = false:=HS6.out.row.frozen 0
 have hbg : ¬ (b = g):=HF.out.ne
 have hgb : ¬ (g = b):=fun e => HF.out.ne e.symm
 have q6_15 : w6.cell? ⟨g,15,none⟩ = some (.bool false):=HS6.out.cell 15
 have f6_15:=HS6.out.frozen 15
 have hp6:=(HS6.out.put HF.out 15 (.bool n6))
 rw [MC.put_types] at hp6
 have HP6:=aa (hp6)
 clear hp6 HS6
 cases rest6 with
 | nil =>
  clear hel7
  go_wp2_with fail
  exact ⟨rfl,HP6.out.off,.inl ⟨by simp [seaP,HN1.out,HN2.out,HN3.out,HN4.out,HN5.out,HN6.out],rfl,⟨_,HP6.out.ms,rfl⟩⟩⟩
 | cons k rest7 =>
  obtain ⟨b0,o,k0,k1,k2,k3,k4,hA,hS,q0,q1,q2,q3,q4,ht⟩:=hel7 0 (by simp)
  subst hA
  obtain ⟨x0,x1,x2,x3,xA,xn,xc,he⟩:=ak ht
  simp only [Array.mk.injEq,List.cons.injEq,and_true] at he
  obtain ⟨rfl,rfl,rfl,rfl,rfl⟩:=he
  simp only [Nat.zero_mul,Nat.add_zero] at q0 q1 q2 q3 q4
  simp only [List.getElem_cons_zero] at ht
  have hb0g : ¬ (b0 = g):=(HF.out.apart _ hS.1).2.1
  have hgb0 : ¬ (g = b0):=fun e => hb0g e.symm
  have hb0b : ¬ (b0 = b):=(HF.out.apart _ hS.1).1
  have hbb0 : ¬ (b = b0):=fun e => hb0b e.symm
  have HT:=aa (TlAt.keep (T:=S) (w':=w6.setCell ⟨g,15,none⟩ (.bool n6)) (by simp [World.setCell]) (fun x hx _ => Below.heap_setCell w6 ⟨g,15,none⟩ (.bool n6) x (HF.out.apart x hx).2.1) (fun _ h _ => h) _ _ ht)
  have HE7:=aa hS.1
  have hcc : cap7 <= 9223372036854775807:=by unfold maxLen at hcm7; omega
  have hlc : rest7.length + 1 <= cap7:=by simpa using hlc7
  have HFW:=aa ((((((HFEW.out.text HN1.out).num HN2.out).num HN3.out).num HN4.out).num HN5.out).truth HN6.out)
  obtain ⟨m,hm⟩ : ∃ m,m = rest7.length:=⟨_,rfl⟩
  have c7' : w6.cell? ⟨b,0,none⟩ = some (.slice (some ⟨b0,o,none⟩) (m + 1) cap7):=by rw [hm]; exact c7
  rw [<- hm] at hlc
  have HM:=aa hm
  have z1 : (((m : Nat) : Int) + 1 == 0) = false:=by simp; omega
  have z2 : ((((m + 1 : Nat)) : Int) == 0) = false:=by simp; omega
  have z3 : 0 < m + 1:=by omega
  have z4 : (0 : Int) < (m : Int) + 1:=by omega
  clear hel7 ht hS hcm7 hlc7 c7 hm
  go_wp2_with fail
  (go_at_call 103)
  refine (filter_any k HFW.out.head _ S _ HT.out).mono ?_
  rintro e w7 ⟨hb7,hcs⟩
  have hs7:=HP6.out.quiet HF.out (Off.of_below hb7 []) (by simp)
  rcases hcs with ⟨hn,rfl⟩ | ⟨f,cl,hn,rfl,hfl⟩
  ·exact ⟨rfl,hs7.off,.inl ⟨by simp [seaP,HN1.out,HN2.out,HN3.out,HN4.out,HN5.out,HN6.out,hn],rfl,⟨_,hs7.ms,rfl⟩⟩⟩
  have HN7:=aa hn
  have HFL:=aa hfl
  have HB7:=aa hb7
  obtain ⟨y0,y1,y2,y3,y5,yA,yn,yc,zA,zn,zc,hcl⟩:=aY hfl
  subst hcl
  have u16 : w7.cell? ⟨g,16,none⟩ = some (.int .i64 0):=hs7.cell 16
  have u17 : w7.cell? ⟨g,17,none⟩ = some (.string ⟨#[]⟩):=hs7.cell 17
  have u18 : w7.cell? ⟨g,18,none⟩ = some (.string ⟨#[]⟩):=hs7.cell 18
  have u19 : w7.cell? ⟨g,19,none⟩ = some (.string ⟨#[]⟩):=hs7.cell 19
  have u20 : w7.cell? ⟨g,20,none⟩ = some (.slice none 0 0):=hs7.cell 20
  have u21 : w7.cell? ⟨g,21,none⟩ = some (.string ⟨#[]⟩):=hs7.cell 21
  have u22 : w7.cell? ⟨g,22,none⟩ = some (.slice none 0 0):=hs7.cell 22
  have v16:=hs7.frozen 16
  have v17:=hs7.frozen 17
  have v18:=hs7.frozen 18
  have v19:=hs7.frozen 19
  have v20:=hs7.frozen 20
  have v21:=hs7.frozen 21
  have v22:=hs7.frozen 22
  have c8 : w7.cell? ⟨b,0,none⟩ = some (.slice (some ⟨b0,o,none⟩) (m + 1) cap7):=by rw [HM.out]; exact hs7.row.cell 0
  have fr8 : w7.frozen? ⟨b,0,none⟩ = false:=hs7.row.frozen 0
  have hp7:=((((((hs7.put HF.out 16 (.int .i64 y0)).put HF.out 17 (.string y1)).put HF.out 18 (.string y2)).put HF.out 19 (.string y3)).put HF.out 20 (.slice yA yn yc)).put HF.out 21 (.string y5)).put HF.out 22 (.slice zA zn zc)
  rw [MC.put_filter _ ⟨y0,y1,y2,y3,⟨yA,yn,yc⟩,y5,⟨zA,zn,zc⟩⟩] at hp7
  have HP7:=aa hp7
  have htl:=hp7.tr.tail
  rw [<- HM.out] at htl
  clear hn hfl hb7 hs7 hp7 c7'
  by_cases hc1 : cap7 = 1
  ·subst hc1
   obtain rfl : m = 0:=by omega
   rw [if_pos rfl] at htl
   simp only [Nat.zero_add] at c8 z1 z2 z3 z4
   clear z1 z2 z3 z4
   have ha8:=HP7.out.adv HF.out htl
   have HS8:=aa ha8
   clear ha8 htl HP7
   have HFL8:=aa ((FlAt.keep (Nat.le_refl _) (fun _ _ _ => rfl) (fun x hx _ => Nat.le_trans HP6.out.off.size hx : ∀ x,_ -> _ -> w.heap.size <= x) _ _ HFL.out).offk (((((((((Off.refl [b,g] w7).setCell (p:=⟨g,16,none⟩) (.inl (by simp)) (.int .i64 y0)).setCell (p:=⟨g,17,none⟩) (.inl (by simp)) (.string y1)).setCell (p:=⟨g,18,none⟩) (.inl (by simp)) (.string y2)).setCell (p:=⟨g,19,none⟩) (.inl (by simp)) (.string y3)).setCell (p:=⟨g,20,none⟩) (.inl (by simp)) (.slice yA yn yc)).setCell (p:=⟨g,21,none⟩) (.inl (by simp)) (.string y5)).setCell (p:=⟨g,22,none⟩) (.inl (by simp)) (.slice zA zn zc)).setCell (p:=⟨b,0,none⟩) (.inl (by simp)) (.slice (some ⟨b0,o,none⟩) 0 0)) (by have:=HF.out.bB; have:=HF.out.gB; intro z hz; simp at hz; omega))
   clear HFL HP6
   go_wp2_with fail
   (go_at_call 71)
   refine (bA 16 b (.slice (some ⟨b0,o,none⟩) 0 0) rest7 S _ HS8.out.row HS8.out.tr HF.out.nb).mono ?_
   rintro e w9 ⟨ho,hcs⟩
   rcases hcs with ⟨hn,rfl⟩ | ⟨n9,rest9,v9,hn,⟨c9,vl9,rfl,hc9,hbc9,hrc9⟩,hb9,hr9⟩
   ·exact ⟨rfl,HS8.out.off.trans (ho.mono (by simp)),.inl ⟨by simp [seaP,HN1.out,HN2.out,HN3.out,HN4.out,HN5.out,HN6.out,HN7.out,hn],rfl,⟨_,ho.bk HS8.out.ms (by simpa using HF.out.ne.symm),rfl⟩⟩⟩
   have HN9:=aa hn
   have HA9:=aa (show Ax S w.heap.size c9 w9 vl9 n9 from ⟨hbc9,hrc9,Nat.le_trans HS8.out.off.size hc9⟩)
   have hs9:=HS8.out.rd HF.out ho hb9 hr9
   have HS9:=aa hs9
   have HFL9:=aa (HFL8.out.offn ho (by have:=HF.out.bB; intro z hz; simp at hz; omega) hc9)
   clear ho hb9 hr9 hn hs9 HS8 q6_15 f6_15 hbc9 hrc9 hc9
   have hx10:=HS9.out.off.size
   have HX10:=aa hx10
   clear hx10
   go_wp2_with fail
   (go_at_call 104)
   refine (fL c9 vl9 n9 S _ HA9.out.row HA9.out.tr (fun x hx => ⟨HA9.out.nb HF.out x hx,Nat.lt_of_lt_of_le (HF.out.apart x hx).2.2 HX10.out⟩) (((HFW.out.tail).list HN9.out).1.1)).mono ?_
   rintro e w10 ⟨ho,hcs⟩
   have hs10:=HS9.out.quiet HF.out ho (by simpa using HA9.out.le)
   rcases hcs with ⟨hn,rfl⟩ | ⟨ss10,r10,hn,rfl,hq10⟩
   ·exact ⟨rfl,hs10.off,.inl ⟨by simp [seaP,HN1.out,HN2.out,HN3.out,HN4.out,HN5.out,HN6.out,HN7.out,HN9.out,hn],rfl,⟨_,hs10.ms,rfl⟩⟩⟩
   have HN10:=aa hn
   have HFL10:=aa (HFL9.out.offc ho)
   have HQ10:=aa (hq10.weak (fun x hx => Nat.le_trans HX10.out hx))
   have HS10:=aa hs10
   clear ho hn hq10 hs10 HS9 HA9
   have q10_23 : w10.cell? ⟨g,23,none⟩ = some (.slice none 0 0):=HS10.out.cell 23
   have f10_23:=HS10.out.frozen 23
   have hp10:=(HS10.out.put HF.out 23 (.slice r10.A r10.n r10.c))
   rw [MC.put_attrs] at hp10
   have HP10:=aa (hp10)
   clear hp10 HS10
   go_wp2_with fail
   go_end0
   refine ⟨HP10.out.off,.inr ⟨_,rest9,v9,_,by simp only [seaP,HN1.out,HN2.out,HN3.out,HN4.out,HN5.out,HN6.out,HN7.out,HN9.out,HN10.out,Option.bind_some]; rfl,rfl,HP10.out.row,HP10.out.tr,HP10.out.ms,?_⟩⟩
   have hof:=(Off.refl [g] w10).setCell (p:=⟨g,23,none⟩) (.inl (by simp)) (.slice r10.A r10.n r10.c)
   exact ⟨⟨y0,y1,y2,y3,⟨yA,yn,yc⟩,y5,⟨zA,zn,zc⟩⟩,r10,Rw.none,Rw.none,Rw.none,Rw.none,rfl,⟨HZ1.out,Nat.zero_le _,Nat.zero_le _,Nat.zero_le _,Nat.zero_le _,Nat.zero_le _⟩,HFL10.out.offk hof (by have:=HF.out.gB; intro z hz; simp at hz; omega),HQ10.out.offk al hof (by have:=HF.out.gB; intro z hz; simp at hz; omega),RowOf.nil _ _,RowOf.nil _ _,RowOf.nil _ _,RowOf.nil _ _⟩
  ·rw [if_neg hc1] at htl
   have z5 : ¬ (cap7 = 1):=hc1
   have z6 : (cap7 : Int) - 1 ≠ 0:=by omega
   have ha8:=HP7.out.adv HF.out htl
   have HS8:=aa ha8
   clear ha8 htl HP7
   have HFL8:=aa ((FlAt.keep (Nat.le_refl _) (fun _ _ _ => rfl) (fun x hx _ => Nat.le_trans HP6.out.off.size hx : ∀ x,_ -> _ -> w.heap.size <= x) _ _ HFL.out).offk (((((((((Off.refl [b,g] w7).setCell (p:=⟨g,16,none⟩) (.inl (by simp)) (.int .i64 y0)).setCell (p:=⟨g,17,none⟩) (.inl (by simp)) (.string y1)).setCell (p:=⟨g,18,none⟩) (.inl (by simp)) (.string y2)).setCell (p:=⟨g,19,none⟩) (.inl (by simp)) (.string y3)).setCell (p:=⟨g,20,none⟩) (.inl (by simp)) (.slice yA yn yc)).setCell (p:=⟨g,21,none⟩) (.inl (by simp)) (.string y5)).setCell (p:=⟨g,22,none⟩) (.inl (by simp)) (.slice zA zn zc)).setCell (p:=⟨b,0,none⟩) (.inl (by simp)) (.slice (some ⟨b0,o + 5,none⟩) m (cap7 - 1))) (by have:=HF.out.bB; have:=HF.out.gB; intro z hz; simp at hz; omega))
   clear HFL HP6
   go_wp2_with fail
   (go_at_call 71)
   refine (bA 16 b (.slice (some ⟨b0,o + 5,none⟩) m (cap7 - 1)) rest7 S _ HS8.out.row HS8.out.tr HF.out.nb).mono ?_
   rintro e w9 ⟨ho,hcs⟩
   rcases hcs with ⟨hn,rfl⟩ | ⟨n9,rest9,v9,hn,⟨c9,vl9,rfl,hc9,hbc9,hrc9⟩,hb9,hr9⟩
   ·exact ⟨rfl,HS8.out.off.trans (ho.mono (by simp)),.inl ⟨by simp [seaP,HN1.out,HN2.out,HN3.out,HN4.out,HN5.out,HN6.out,HN7.out,hn],rfl,⟨_,ho.bk HS8.out.ms (by simpa using HF.out.ne.symm),rfl⟩⟩⟩
   have HN9:=aa hn
   have HA9:=aa (show Ax S w.heap.size c9 w9 vl9 n9 from ⟨hbc9,hrc9,Nat.le_trans HS8.out.off.size hc9⟩)
   have hs9:=HS8.out.rd HF.out ho hb9 hr9
   have HS9:=aa hs9
   have HFL9:=aa (HFL8.out.offn ho (by have:=HF.out.bB; intro z hz; simp at hz; omega) hc9)
   clear ho hb9 hr9 hn hs9 HS8 q6_15 f6_15 hbc9 hrc9 hc9
   have hx10:=HS9.out.off.size
   have HX10:=aa hx10
   clear hx10
   go_wp2_with fail
   (go_at_call 104)
   refine (fL c9 vl9 n9 S _ HA9.out.row HA9.out.tr (fun x hx => ⟨HA9.out.nb HF.out x hx,Nat.lt_of_lt_of_le (HF.out.apart x hx).2.2 HX10.out⟩) (((HFW.out.tail).list HN9.out).1.1)).mono ?_
   rintro e w10 ⟨ho,hcs⟩
   have hs10:=HS9.out.quiet HF.out ho (by simpa using HA9.out.le)
   rcases hcs with ⟨hn,rfl⟩ | ⟨ss10,r10,hn,rfl,hq10⟩
   ·exact ⟨rfl,hs10.off,.inl ⟨by simp [seaP,HN1.out,HN2.out,HN3.out,HN4.out,HN5.out,HN6.out,HN7.out,HN9.out,hn],rfl,⟨_,hs10.ms,rfl⟩⟩⟩
   have HN10:=aa hn
   have HFL10:=aa (HFL9.out.offc ho)
   have HQ10:=aa (hq10.weak (fun x hx => Nat.le_trans HX10.out hx))
   have HS10:=aa hs10
   clear ho hn hq10 hs10 HS9 HA9
   have q10_23 : w10.cell? ⟨g,23,none⟩ = some (.slice none 0 0):=HS10.out.cell 23
   have f10_23:=HS10.out.frozen 23
   have hp10:=(HS10.out.put HF.out 23 (.slice r10.A r10.n r10.c))
   rw [MC.put_attrs] at hp10
   have HP10:=aa (hp10)
   clear hp10 HS10
   go_wp2_with fail
   go_end0
   refine ⟨HP10.out.off,.inr ⟨_,rest9,v9,_,by simp only [seaP,HN1.out,HN2.out,HN3.out,HN4.out,HN5.out,HN6.out,HN7.out,HN9.out,HN10.out,Option.bind_some]; rfl,rfl,HP10.out.row,HP10.out.tr,HP10.out.ms,?_⟩⟩
   have hof:=(Off.refl [g] w10).setCell (p:=⟨g,23,none⟩) (.inl (by simp)) (.slice r10.A r10.n r10.c)
   exact ⟨⟨y0,y1,y2,y3,⟨yA,yn,yc⟩,y5,⟨zA,zn,zc⟩⟩,r10,Rw.none,Rw.none,Rw.none,Rw.none,rfl,⟨HZ1.out,Nat.zero_le _,Nat.zero_le _,Nat.zero_le _,Nat.zero_le _,Nat.zero_le _⟩,HFL10.out.offk hof (by have:=HF.out.gB; intro z hz; simp at hz; omega),HQ10.out.offk al hof (by have:=HF.out.gB; intro z hz; simp at hz; omega),RowOf.nil _ _,RowOf.nil _ _,RowOf.nil _ _,RowOf.nil _ _⟩
end Go.Proofs.YtbiglfpikfjbpaaGreatDoor
