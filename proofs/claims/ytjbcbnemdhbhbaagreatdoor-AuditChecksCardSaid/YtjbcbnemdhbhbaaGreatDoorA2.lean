import Derived.Test.YtjbcbnemdhbhbaaGreatDoorChecked
import Derived.WalkKit
import Derived.WalkSpells
import Derived.WalkLawsBesides
import Derived.RegionTactic
import Derived.Lib.Hide
import Derived.Lib.Builder
import Derived.Lib.AppendStr
import Derived.Lib.UnsafeStr
import Derived.Lib.Slices
import Derived.Lib.Strings
import Derived.Laws.Externs
import Derived.Outline
import Derived.Lib.FrozenHead
set_option maxRecDepth 100000
set_option linter.unusedVariables false
set_option linter.unusedSimpArgs false
set_option maxHeartbeats 40000000
open Array renaming getElem?_eq_none→aeV
open Go renaming Calls→aaf,Value→No,World→AI,lt_of_block→ado,maxLen→abj
open Go.Builtin renaming unsafeSliceData_→aeu
open Go.Lib renaming BuilderAt→aha,byteCells→acK,byteCells_length→ads,cell_of_heap→acv,frozen_of_heap→ahg,run_unsafeSliceData_row→agz,strCells→agO
open Go.Result renaming andThen→afL
open Go.RowKit renaming Below→IT
open Go.RowKit.Below renaming refl→BY
open Go.World renaming shape?→agi
namespace Go.Proofs.YtjbcbnemdhbhbaaGreatDoor
open Go.Proofs.Tryz
open Go.RowKit
theorem Hc:(prog.info? 300).map (·.size)=some 2:=by kernel_rfl
theorem RS:liesAt prog prog.depth 300 (2/prog.cellsOf 300) 0 300 1=true:=by kernel_rfl
theorem Hb:(prog.info? 5).map (fun i=>(i.zero,i.size,i.bytes))=some (some (.int .u8 0),1,1):=by kernel_rfl
theorem CH:prog.cellsOf 5=1:=by kernel_rfl
theorem Of:(300:TypeId)≠5:=by decide
def SB (B b:Nat) (l:List UInt8) (w:AI):Prop:=Lib.IsBuilder 300 5 B b (acK l) w
theorem nK(b:Nat)(w:AI)(h0:w.cell? ⟨b,0,none⟩=some (.pointer (some ⟨b,0,none⟩))):
  aaf prog 244 #[.pointer (some ⟨b,0,none⟩)] w fun e w'=>e= .returned (.tuple #[])/\w'=w:=by
 obtain⟨j,hj,_⟩:=Option.map_eq_some_iff.1 Hc;go_enter func244,ntmps244
 go_wp2
 rw[Lib.run_neq_ptr_same w _ underlying298 hj]
 go_wp2
 go_end0
 exact⟨rfl,rfl⟩
theorem iM(b:Nat)(w:AI)(h0:w.cell? ⟨b,0,none⟩=some (.pointer none))(hsh:w.shape? b=some (300,2))(Z6:w.frozen? ⟨b,0,none⟩=false):
  aaf prog 244 #[.pointer (some ⟨b,0,none⟩)] w fun e w'=>e= .returned (.tuple #[])/\w'=w.setCell ⟨b,0,none⟩ (.pointer (some ⟨b,0,none⟩)):=by
 obtain⟨j,hj,hjs⟩:=Option.map_eq_some_iff.1 Hc;go_enter func244,ntmps244
 go_wp2
 rw[Lib.run_to_unsafe w ⟨b,0,none⟩ underlying298 underlying357 hj (by rw[hjs];decide) hsh (Nat.zero_lt_succ 1)];simp only[afL];rw[Oper.upon_value]
 go_wp2
 rw[run_callFunc_extern func263 (by kernel_rfl) (by kernel_rfl) (by kernel_rfl) (e:=Extern.AbiNoEscape.same) (by kernel_rfl)];rw[Lib.run_noEscape];simp only[afL];rw[Oper.upon_value]
 go_wp2
 rw[Lib.run_from_unsafe w ⟨b,0,none⟩ underlying357 underlying298 hj hsh RS];simp only[afL];rw[Oper.upon_value]
 go_wp2
 go_end0
 exact⟨rfl,rfl⟩
theorem Oe(B b:Nat)(bs:List No)(w:AI)(h:Lib.IsBuilder 300 5 B b bs w):
  aaf prog 244 #[.pointer (some ⟨b,0,none⟩)] w fun e w'=>e= .returned (.tuple #[])/\(aha 300 5 B b (.pointer (some ⟨b,0,none⟩)) bs w'/\IT B w w'):=by
 rcases h with h|h
 ·refine(iM b w h.cell0 h.shape h.frozen0).mono ?_
  rintro e w' ⟨rfl,rfl⟩;exact⟨rfl,h.used _,(BY B w).setCell (p:=⟨b,0,none⟩) h.1 _⟩
 ·refine(nK b w h.cell0).mono ?_
  rintro e w' ⟨rfl,rfl⟩;exact⟨rfl,h,BY B _⟩
theorem pB(B b:Nat)(l:List UInt8)(s:ByteArray)(w:AI)(h:SB B b l w)(hlen:l.length+s.size<=140737488355328)(QC:B<=w.heap.size):
  aaf prog 204 #[.pointer (some ⟨b,0,none⟩),.string s] w fun e w'=>e= .returned (.tuple #[.int .i64 s.size,.nilIface])/\(SB B b (l++s.data.toList) w'/\IT B w w'):=by
 obtain⟨i0,hi,BR,pS,zi⟩:=info_parts Hb;have HC:=Lib.hid (Oe B b _ w h);have hl:=ads l;go_enter func204,ntmps204
 go_wp2_with (go_at_call 244;refine HC.out.mono ?_)
 rintro e w1 ⟨rfl,h1,ar⟩;obtain⟨hB,v,aT,aq,bM⟩:=h1;have c0:w1.cell? ⟨b,0,none⟩=some (.pointer (some ⟨b,0,none⟩)):=by rw[acv aT];rfl
 have c1:w1.cell? ⟨b,1,none⟩=some v:=by rw[acv aT];rfl
 go_wp2_with (at_builtin;refine Lib.wpList_append_own_string _ rfl _ _ 36 9 rfl B 5 i0 underlying36 underlying9 hi BR pS zi _ _ _ rfl aq s rfl ?c3 ?c4 ?c5 ?_)
 case c3=>unfold abj;omega
 case c4=>omega
 case c5=>have:=ar.size;omega
 intro v' w2 lU bE _;have aH:b<w1.heap.size:=by
  rcases Nat.lt_or_ge b w1.heap.size with h'|h'
  ·exact h'
  ·simp[aeV h']at aT
 have aC:w2.heap[b]? =some (.cells #[.pointer (some ⟨b,0,none⟩),v] 300 (0,0)):=by
  rw[bE.block b aH (fun e=>bM e.symm)];exact aT
 have d0:w2.cell? ⟨b,0,none⟩=some (.pointer (some ⟨b,0,none⟩)):=by rw[acv aC];rfl
 have d1:w2.cell? ⟨b,1,none⟩=some v:=by rw[acv aC];rfl
 have f1:w2.frozen? ⟨b,1,none⟩=false:=ahg aC 1;obtain⟨ao,n',cap,rfl⟩:∃ao n' cap,v'= .slice ao n' cap:=by
  rcases lU.2 with⟨hv,_⟩|⟨g,cap,cur,hv,_⟩
  ·exact⟨_,_,_,hv⟩
  ·exact⟨_,_,_,hv⟩
 go_wp2
 go_ret2
 refine⟨rfl,?_,?_⟩
 ·refine Or.inr ?_
  have e:acK (l++s.data.toList)=acK l++agO s:=by simp[acK,agO]
  rw[e];exact Lib.BuilderAt.put (T:=300) (e:=5) hB aC (by simpa[Lib.strCells_length,ads]using lU) Of
 ·exact(ar.grown bE (by have:=ar.size;omega) (fun k hk=>(aq.lt k hk).1)).setCell (p:=⟨b,1,none⟩) hB _
theorem vh(B b:Nat)(l:List UInt8)(w:AI)(h:SB B b l w)(h0:l≠[]):
  aaf prog 207 #[.pointer (some ⟨b,0,none⟩)] w fun e w'=>e= .returned (.string ⟨l.toArray⟩)/\IT B w w':=by
 obtain⟨p,hB,v,aT,aq,bM⟩:∃p,aha 300 5 B b p (acK l) w:=by
  rcases h with h|h
  ·exact⟨_,h⟩
  ·exact⟨_,h⟩
 have Pn:l.length≠0:=by simpa using h0
 rw[ads]at aq;obtain⟨g,cap,cur,rfl,Kt,hg,GF,cI,fy,cW⟩:∃g cap cur,v= .slice (some ⟨g,0,none⟩) l.length cap/\B<=g/\w.heap[g]? =some (.cells cur 5 (0,0))/\l.length<=cap/\cap<=abj/\cur.size=cap*1/\cur.toList.take (l.length*1)=acK l:=by
  rcases aq.2 with⟨_,hz⟩|⟨g,cap,cur,hv,r⟩
  ·exact absurd hz Pn
  ·exact⟨g,cap,cur,hv,r⟩
 have c1:w.drew.cell? ⟨b,1,none⟩=some (.slice (some ⟨g,0,none⟩) l.length cap):=by
  have:w.drew.heap[b]? =some (.cells #[p,.slice (some ⟨g,0,none⟩) l.length cap] 300 (0,0)):=aT;rw[acv this];rfl
 have hSD:(aeu #[36] 342 #[.slice (some ⟨g,0,none⟩) l.length cap]).run prog w.drew= .ok (.pointer (some ⟨g,0,none⟩)) w.drew:=
  agz _ _ _ _ _ _ (by omega)
 have hUS:(Builtin.unsafeString_ #[342,3] 9 #[.pointer (some ⟨g,0,none⟩),.int .i64 l.length]).run prog w.drew= .ok (.string ⟨l.toArray⟩) (w.drew.freeze ⟨g,0,none⟩ l.length):=by
  refine Lib.run_unsafeString_row w.drew 342 3 9 5 underlying342 CH g cur.size (by have sk:w.drew.heap[g]? =some (.cells cur 5 (0,0)):=hg;simp[agi,sk]) l h0 (by omega) (by unfold abj at cI;omega) ?_;intro j x hx;have:=aq.cells (g:=g) rfl j (.int .u8 x.toNat) (by simp[acK,hx]);exact this
 clear h cW fy cI GF Pn aq bM;go_enter func207,ntmps207
 go_wp2
 go_region
 all_goals (go_wp2;go_ret;exact⟨rfl,Lib.below_freeze (Below.drew (BY B w)) (p:=⟨g,0,none⟩) Kt _⟩)
theorem oz(W:AI)(q:Option Addr):(Builtin.unsafeString_ #[342,3] 9 #[.pointer q,.int .i64 0]).run prog W= .ok (.string .empty) W:=
 Lib.run_unsafeString_none W _ _ _ q
theorem wM(B b:Nat)(p:No)(w:AI)(aT:w.heap[b]? =some (.cells #[p,.slice none 0 0] 300 (0,0))):
  aaf prog 207 #[.pointer (some ⟨b,0,none⟩)] w fun e w'=>e= .returned (.string ⟨#[]⟩)/\IT B w w':=by
 have hUS:=oz;have c1:w.drew.cell? ⟨b,1,none⟩=some (.slice none 0 0):=by
  have:w.drew.heap[b]? =some (.cells #[p,.slice none 0 0] 300 (0,0)):=aT;rw[acv this];rfl
 have hSD:(aeu #[36] 342 #[.slice none 0 0]).run prog w.drew= .ok (.pointer none) w.drew:=rfl;clear aT;go_enter func207,ntmps207
 go_wp2
 go_region
 all_goals (go_wp2;go_ret;exact⟨rfl,Below.drew (BY B w)⟩)
theorem qH(B b g:Nat)(p:No)(cur:Array No)(w:AI)(QC:B<=w.heap.size)(aT:w.heap[b]? =some (.cells #[p,.slice (some ⟨g,0,none⟩) 0 0] 300 (0,0)))(hg:w.heap[g]? =some (.cells cur 5 (0,0))):
  aaf prog 207 #[.pointer (some ⟨b,0,none⟩)] w fun e w'=>e= .returned (.string ⟨#[]⟩)/\IT B w w':=by
 have hUS:=oz;have aH:b<w.heap.size:=by
  rcases Nat.lt_or_ge b w.heap.size with h'|h'
  ·exact h'
  ·simp[aeV h']at aT
 have c1:w.drew.cell? ⟨b,1,none⟩=some (.slice (some ⟨g,0,none⟩) 0 0):=by
  have:w.drew.heap[b]? =some (.cells #[p,.slice (some ⟨g,0,none⟩) 0 0] 300 (0,0)):=aT;rw[acv this];rfl
 have hSD:(aeu #[36] 342 #[.slice (some ⟨g,0,none⟩) 0 0]).run prog w.drew= .ok (.pointer (some ⟨w.drew.heap.size,0,none⟩)) (w.drew.alloc (.view ⟨g,0,none⟩ 5)):=
  Lib.run_unsafeSliceData_zero w.drew _ _ 5 underlying342 ⟨g,0,none⟩ 0 (5,cur.size) (by have sk:w.drew.heap[g]? =some (.cells cur 5 (0,0)):=hg;simp[agi,sk])
 have c2:(w.drew.alloc (.view ⟨g,0,none⟩ 5)).cell? ⟨b,1,none⟩=some (.slice (some ⟨g,0,none⟩) 0 0):=by
  have:(w.drew.alloc (.view ⟨g,0,none⟩ 5)).heap[b]? =_:=(Lib.alloc_old w.drew _ b aH).trans aT;rw[acv this];rfl
 have c3:(w.alloc (.view ⟨g,0,none⟩ 5)).drew.cell? ⟨b,1,none⟩=some (.slice (some ⟨g,0,none⟩) 0 0):=c2;have c0:w.cell? ⟨b,1,none⟩=some (.slice (some ⟨g,0,none⟩) 0 0):=c1;clear aT hg aH;go_enter func207,ntmps207
 go_wp2
 go_region
 all_goals (go_wp2;go_ret;exact⟨rfl,(Below.drew (BY B w)).alloc QC _⟩)
theorem vg(B b g cap:Nat)(p:No)(w:AI)(xG:cap≠0)(aT:w.heap[b]? =some (.cells #[p,.slice (some ⟨g,0,none⟩) 0 cap] 300 (0,0))):
  aaf prog 207 #[.pointer (some ⟨b,0,none⟩)] w fun e w'=>e= .returned (.string ⟨#[]⟩)/\IT B w w':=by
 have hUS:=oz;have c1:w.drew.cell? ⟨b,1,none⟩=some (.slice (some ⟨g,0,none⟩) 0 cap):=by
  have:w.drew.heap[b]? =some (.cells #[p,.slice (some ⟨g,0,none⟩) 0 cap] 300 (0,0)):=aT;rw[acv this];rfl
 have hSD:(aeu #[36] 342 #[.slice (some ⟨g,0,none⟩) 0 cap]).run prog w.drew= .ok (.pointer (some ⟨g,0,none⟩)) w.drew:=
  agz _ _ _ _ _ _ xG
 clear xG aT;go_enter func207,ntmps207
 go_wp2
 go_region
 all_goals (go_wp2;go_ret;exact⟨rfl,Below.drew (BY B w)⟩)
theorem JM(B b:Nat)(l:List UInt8)(w:AI)(h:SB B b l w)(QC:B<=w.heap.size):
  aaf prog 207 #[.pointer (some ⟨b,0,none⟩)] w fun e w'=>e= .returned (.string ⟨l.toArray⟩)/\IT B w w':=by
 cases l with
 | cons x r=>exact vh B b (x::r) w h (by simp)
 | nil=>
  obtain⟨p,hB,v,aT,aq,bM⟩:∃p,aha 300 5 B b p [] w:=by
   rcases h with h|h
   ·exact⟨_,h⟩
   ·exact⟨_,h⟩
  rcases aq.2 with⟨rfl,_⟩|⟨g,cap,cur,rfl,Kt,hg,_,_,_,_⟩
  ·exact wM B b p w aT
  ·by_cases xG:cap=0
   ·subst xG
    exact qH B b g p cur w QC aT hg
   ·exact vg B b g cap p w xG aT
theorem WC(w:AI):SB w.heap.size w.heap.size [] (w.alloc (.cells #[.pointer none,.slice none 0 0] 300)):=
 Or.inl ⟨Nat.le_refl _,.slice none 0 0,heap_alloc_new w _,World.ownsRow_nil _ _ _ _,by simp[Value.ownBlock]⟩
theorem SB.below{B b:Nat}{l:List UInt8}{w w':AI}(h:SB B b l w)(hb:IT w.heap.size w w'):SB B b l w':=by
 have key:∀p,aha 300 5 B b p (acK l) w->aha 300 5 B b p (acK l) w':=by
  rintro p ⟨hB,v,aT,aq,bM⟩;refine⟨hB,v,(hb.block b (ado aT)).trans aT,?_,bM⟩;obtain⟨h1,h2⟩:=aq;refine⟨h1,?_⟩;rcases h2 with h2|⟨g,cap,cur,rfl,Kt,hh,r⟩
  ·exact Or.inl h2
  ·exact Or.inr ⟨g,cap,cur,rfl,Kt,(hb.block g (ado hh)).trans hh,r⟩
 rcases h with h|h
 ·exact Or.inl (key _ h)
 ·exact Or.inr (key _ h)
def SF (B b:Nat) (l:List UInt8) (w:AI):Prop:=Lib.IsBuilderF 300 5 B b (acK l) w
theorem Ol(B b:Nat)(bs:List No)(w:AI)(h:Lib.IsBuilderF 300 5 B b bs w):
  aaf prog 244 #[.pointer (some ⟨b,0,none⟩)] w fun e w'=>e= .returned (.tuple #[])/\(Lib.BuilderAtF 300 5 B b (.pointer (some ⟨b,0,none⟩)) bs w'/\IT B w w'):=by
 rcases h with h|h
 ·refine(iM b w h.cell0 h.shape h.frozen0).mono ?_
  rintro e w' ⟨rfl,rfl⟩;exact⟨rfl,h.used _,(BY B w).setCell (p:=⟨b,0,none⟩) h.1 _⟩
 ·refine(nK b w h.cell0).mono ?_
  rintro e w' ⟨rfl,rfl⟩;exact⟨rfl,h,BY B _⟩
theorem WD(B b:Nat)(l:List UInt8)(w:AI)(h:SF B b l w):
  aaf prog 206 #[.pointer (some ⟨b,0,none⟩)] w fun e w'=>e= .returned (.int .i64 l.length)/\w=w':=by
 obtain⟨p,hB,v,aT,aq,bM⟩:∃p,Lib.BuilderAtF 300 5 B b p (acK l) w:=by
  rcases h with h|h
  ·exact⟨_,h⟩
  ·exact⟨_,h⟩
 rw[ads]at aq;obtain⟨ao,cap,rfl⟩:∃ao cap,v= .slice ao l.length cap:=by
  rcases aq.2 with⟨hv,h0⟩|⟨g,cap,cur,fz,hv,_⟩
  ·exact⟨none,0,by rw[hv,h0]⟩
  ·exact⟨_,_,hv⟩
 have c1:w.cell? ⟨b,1,none⟩=some (.slice ao l.length cap):=by rw[acv aT];rfl
 go_enter func206,ntmps206
 go_wp2
 go_ret
 exact⟨rfl,rfl⟩
theorem CJ(B b:Nat)(l:List UInt8)(s:ByteArray)(w:AI)(h:SF B b l w)(hlen:l.length+s.size<=140737488355328)(QC:B<=w.heap.size):
  aaf prog 204 #[.pointer (some ⟨b,0,none⟩),.string s] w fun e w'=>e= .returned (.tuple #[.int .i64 s.size,.nilIface])/\(SF B b (l++s.data.toList) w'/\IT B w w'):=by
 obtain⟨i0,hi,BR,pS,zi⟩:=info_parts Hb;have HC:=Lib.hid (Ol B b _ w h);have hl:=ads l;go_enter func204,ntmps204
 go_wp2_with (go_at_call 244;refine HC.out.mono ?_)
 rintro e w1 ⟨rfl,h1,ar⟩;obtain⟨hB,v,aT,aq,bM⟩:=h1;have c0:w1.cell? ⟨b,0,none⟩=some (.pointer (some ⟨b,0,none⟩)):=by rw[acv aT];rfl
 have c1:w1.cell? ⟨b,1,none⟩=some v:=by rw[acv aT];rfl
 go_wp2_with (at_builtin;refine Lib.wpList_append_own_stringF _ rfl _ _ 36 9 rfl B 5 i0 underlying36 underlying9 hi BR pS zi _ _ _ rfl aq s rfl ?c3 ?c4 ?c5 ?_)
 case c3=>unfold abj;omega
 case c4=>omega
 case c5=>have:=ar.size;omega
 intro v' w2 lU bE _;have aH:b<w1.heap.size:=ado aT;have aC:w2.heap[b]? =some (.cells #[.pointer (some ⟨b,0,none⟩),v] 300 (0,0)):=by
  rw[bE.block b aH (fun e=>bM e.symm)];exact aT
 have d0:w2.cell? ⟨b,0,none⟩=some (.pointer (some ⟨b,0,none⟩)):=by rw[acv aC];rfl
 have d1:w2.cell? ⟨b,1,none⟩=some v:=by rw[acv aC];rfl
 have f1:w2.frozen? ⟨b,1,none⟩=false:=ahg aC 1;obtain⟨ao,n',cap,rfl⟩:∃ao n' cap,v'= .slice ao n' cap:=by
  rcases lU.2 with⟨hv,_⟩|⟨g,cap,cur,fz,hv,_⟩
  ·exact⟨_,_,_,hv⟩
  ·exact⟨_,_,_,hv⟩
 go_wp2
 go_ret2
 refine⟨rfl,?_,?_⟩
 ·refine Or.inr ?_
  have e:acK (l++s.data.toList)=acK l++agO s:=by simp[acK,agO]
  rw[e];exact Lib.BuilderAtF.put (T:=300) (e:=5) hB aC (bs':=acK l++agO s) (by simpa[Lib.strCells_length,ads]using lU) Of
 ·exact(ar.grown bE (by have:=ar.size;omega) (fun k hk=>(aq.lt k hk).1)).setCell (p:=⟨b,1,none⟩) hB _
theorem JP(B b:Nat)(l:List UInt8)(w:AI)(h:SF B b l w)(h0:l≠[]):
  aaf prog 207 #[.pointer (some ⟨b,0,none⟩)] w fun e w'=>e= .returned (.string ⟨l.toArray⟩)/\(SF B b l w'/\IT B w w'):=by
 obtain⟨p,hp,hAt⟩:∃p,(p= .pointer none\/p= .pointer (some ⟨b,0,none⟩))/\Lib.BuilderAtF 300 5 B b p (acK l) w:=by
  rcases h with h|h
  ·exact⟨_,.inl rfl,h⟩
  ·exact⟨_,.inr rfl,h⟩
 obtain⟨hB,v,aT,aq,bM⟩:=hAt;have Pn:l.length≠0:=by simpa using h0
 rw[ads]at aq;obtain⟨g,cap,cur,fz,rfl,Kt,hg,Z6,GF,cI,fy,cW⟩:∃g cap cur fz,v= .slice (some ⟨g,0,none⟩) l.length cap/\B<=g/\w.heap[g]? =some (.cells cur 5 fz)/\fz.2<=l.length*1/\l.length<=cap/\cap<=abj/\cur.size=cap*1/\cur.toList.take (l.length*1)=acK l:=by
  rcases aq.2 with⟨_,hz⟩|⟨g,cap,cur,fz,hv,r⟩
  ·exact absurd hz Pn
  ·exact⟨g,cap,cur,fz,hv,r⟩
 have c1:w.drew.cell? ⟨b,1,none⟩=some (.slice (some ⟨g,0,none⟩) l.length cap):=by
  have:w.drew.heap[b]? =some (.cells #[p,.slice (some ⟨g,0,none⟩) l.length cap] 300 (0,0)):=aT;rw[acv this];rfl
 have hSD:(aeu #[36] 342 #[.slice (some ⟨g,0,none⟩) l.length cap]).run prog w.drew= .ok (.pointer (some ⟨g,0,none⟩)) w.drew:=
  agz _ _ _ _ _ _ (by omega)
 have hUS:(Builtin.unsafeString_ #[342,3] 9 #[.pointer (some ⟨g,0,none⟩),.int .i64 l.length]).run prog w.drew= .ok (.string ⟨l.toArray⟩) (w.drew.freeze ⟨g,0,none⟩ l.length):=by
  refine Lib.run_unsafeString_row w.drew 342 3 9 5 underlying342 CH g cur.size (by have sk:w.drew.heap[g]? =some (.cells cur 5 fz):=hg;simp[agi,sk]) l h0 (by omega) (by unfold abj at cI;omega) ?_;intro j x hx;have:=aq.cells (g:=g) rfl j (.int .u8 x.toNat) (by simp[acK,hx]);exact this
 have ri:SF B b l (w.drew.freeze ⟨g,0,none⟩ l.length):=by
  have hA:Lib.BuilderAtF 300 5 B b p (acK l) w.drew:=⟨hB,_,aT,by rw[ads];exact aq,bM⟩;have hF:=hA.froze (g:=g) (cap:=cap) (by rw[ads];exact c1);rw[ads]at hF;rcases hp with rfl|rfl
  ·exact .inl hF
  ·exact .inr hF
 clear h cW fy cI GF Pn aq bM Z6;go_enter func207,ntmps207
 go_wp2
 go_region
 all_goals (go_wp2;go_ret;exact⟨rfl,ri,Lib.below_freeze (Below.drew (BY B w)) (p:=⟨g,0,none⟩) Kt _⟩)
end Go.Proofs.YtjbcbnemdhbhbaaGreatDoor
