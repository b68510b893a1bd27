import Derived.Test.YtjbcbnemdhbhbaaGreatDoorA1
import Derived.Laws.BitsAllLaws
import Derived.Test.YtjbcbnemdhbhbaaGreatDoorRows
import Derived.Test.YtjbcbnemdhbhbaaGreatDoorTie
import Derived.ProofKit
import Derived.LaidMore
import Derived.OpenShut
import Derived.ShutString
import Derived.ChangeOld
import Derived.Stop.Joined
import Derived.Lib.SmallJoins
import Derived.PlainAid
import Derived.Test.YtjbcbnemdhbhbaaGreatDoorA3
set_option maxRecDepth 100000
set_option linter.unusedVariables false
set_option linter.unusedSimpArgs false
set_option maxHeartbeats 40000000
open Bool renaming and_eq_true→abL
open ByteArray renaming empty→abY,size_append→aco
open Go renaming Calls→aaf,World→AI,maxLen→abj
open Go.Lib renaming hid→sh
open Go.RowKit.Below renaming refl→BY
open Int renaming eq_ofNat_of_zero_le→acg,le_refl→aeZ
open List renaming append_assoc→aaa,getElem?_eq_getElem→aaG,length_append→AT,mem_map→abK,range→afG,replicate→abN
open Nat renaming le_refl→AS,mod_two_eq_zero_or_one→afd,mul_div_cancel_left→afN
open Option.some renaming inj→aek
namespace Go.Proofs.YtjbcbnemdhbhbaaGreatDoor
open Go.Proofs.Tryz
namespace Crc
def bit (r:Nat):Nat:=r/2 ^^^ (if r%2=1 then 3988292384 else 0)
def Y0 (r:Nat):Nat:=bit (bit (bit (bit (bit (bit (bit (bit r)))))))
def Y1 (r:Nat) (c:UInt8):Nat:=Y0 (r ^^^ c.toNat)
def WB (r:Nat) (l:List UInt8):Nat:=l.foldl Y1 r
def on (s:Nat) (l:List UInt8):Nat:=4294967295-WB (4294967295-s) l
def sum (l:List UInt8):Nat:=on 0 l
def row:List Nat:=[0x00000000,0x1db71064,0x3b6e20c8,0x26d930ac,0x76dc4190,0x6b6b51f4,0x4db26158,0x5005713c,0xedb88320,0xf00f9344,0xd6d6a3e8,0xcb61b38c,0x9b64c2b0,0x86d3d2d4,0xa00ae278,0xbdbdf21c]
def TK (r:Nat):Nat:=r/16 ^^^ row.getD (r%16) 0
theorem lN(a b:Nat):(a ^^^ b)/2=a/2 ^^^ b/2:=by
 have h:=Nat.shiftRight_xor_distrib (a:=a) (b:=b) (i:=1);simpa[Nat.shiftRight_eq_div_pow]using h
theorem po(a b:Nat):(a ^^^ b)%2=(a%2+b%2)%2:=by
 have h:=Nat.xor_mod_two_pow (a:=a) (b:=b) (n:=1);simp at h;rw[h];rcases afd a with ha|ha<;>rcases afd b with hb|hb<;>rw[ha,hb]<;>rfl
theorem agu(a b c d:Nat):(a ^^^ b) ^^^ (c ^^^ d)=(a ^^^ c) ^^^ (b ^^^ d):=by
 rw[Nat.xor_assoc,<-Nat.xor_assoc b c d,Nat.xor_comm b c,Nat.xor_assoc c b d,<-Nat.xor_assoc]
theorem Qh(a b:Nat):bit (a ^^^ b)=bit a ^^^ bit b:=by
 unfold bit;rw[lN,po,agu]
 congr 1
 rcases afd a with ha|ha<;>rcases afd b with hb|hb<;>simp[ha,hb]
theorem Ly(q:Nat):bit (2*q)=q:=by
 unfold bit;rw[if_neg (by omega),Nat.xor_zero];omega
theorem Lx:∀a:Fin 16,bit (bit (bit (bit a.val)))=row.getD a.val 0:=by decide
theorem RV(r:Nat):r=2*(2*(2*(2*(r/16)))) ^^^ r%16:=by
 obtain⟨x,hx⟩:∃x,x=2*(2*(2*(2*(r/16)))) ^^^ r%16:=⟨_,rfl⟩;rw[<-hx];have m0:=po (2*(2*(2*(2*(r/16))))) (r%16);have h1:=lN (2*(2*(2*(2*(r/16))))) (r%16);rw[<-hx]at m0 h1;rw[afN _ (by decide:0<2)]at h1;have m1:=po (2*(2*(2*(r/16)))) (r%16/2);have h2:=lN (2*(2*(2*(r/16)))) (r%16/2);rw[<-h1]at m1 h2;rw[afN _ (by decide:0<2)]at h2;have m2:=po (2*(2*(r/16))) (r%16/2/2);have h3:=lN (2*(2*(r/16))) (r%16/2/2);rw[<-h2]at m2 h3;rw[afN _ (by decide:0<2)]at h3;have m3:=po (2*(r/16)) (r%16/2/2/2);have h4:=lN (2*(r/16)) (r%16/2/2/2);rw[<-h3]at m3 h4;rw[afN _ (by decide:0<2)]at h4;have z:r%16/2/2/2/2=0:=by omega
 rw[z,Nat.xor_zero]at h4;clear hx h1 h2 h3;omega
theorem Cc(r:Nat):TK r=bit (bit (bit (bit r))):=by
 conv=>rhs;rw[RV r]
 simp only[Qh,Ly];unfold TK;rw[<-Lx ⟨r%16,by omega⟩]
end Crc
end Go.Proofs.YtjbcbnemdhbhbaaGreatDoor
namespace Go.Proofs.YtjbcbnemdhbhbaaGreatDoor
open Go.Proofs.Tryz
open Go.RowKit
open Go.PlainAid
def aS (w:AI):Prop:=∀k,k<16->w.cell? ⟨0,k,none⟩=some (.int .u32 (Crc.row.getD k 0:Nat))
def Lr (n:Nat) (w:AI) (e:Ending) (w':AI):Prop:=e= .returned (.int .u32 n)/\w=w'
theorem Sq(x:Nat)(h:x<4294967296):bits .and .u32 (x:Int) 15=((x%16:Nat):Int):=by
 have:=u32_and_nat x 15 h (by decide);rw[show x &&& 15=x%16 from Nat.and_two_pow_sub_one_eq_mod x 4]at this;exact this
theorem N9(k:Nat):Crc.row.getD k 0<4294967296:=by
 by_cases h:k<16
 ·exact(show ∀k:Fin 16,Crc.row.getD k.val 0<4294967296 by decide) ⟨k,h⟩
 ·rw[List.getD_eq_getElem?_getD,List.getElem?_eq_none (by simpa[Crc.row]using h)]
  decide
theorem NB(x:Nat)(h:x<4294967296):bits .xor .u32 ((x:Int)/16) ((Crc.row.getD (x%16) 0:Nat):Int)=((Crc.TK x:Nat):Int):=by
 have:=u32_xor_nat (x/16) (Crc.row.getD (x%16) 0) (by omega) (N9 _);exact this
theorem NC(x:Nat)(h:x<4294967296):Crc.TK x<4294967296:=Nat.xor_lt_two_pow (n:=32) (by omega) (N9 _)
theorem TM(n:Nat)(h:n<4294967296):bits .xor .u32 IntKind.u32.max (n:Int)=((4294967295-n:Nat):Int):=by
 have h1:=u32_xor_nat 4294967295 n (by decide) h;have h2:4294967295 ^^^ n=4294967295-n:=by
  have h3:=BitVec.toNat_not (x:=BitVec.ofNat 32 n);have h4:=BitVec.toNat_xor (x:=BitVec.allOnes 32) (y:=BitVec.ofNat 32 n);rw[BitVec.allOnes_xor]at h4;have h5:(BitVec.ofNat 32 n).toNat=n:=by rw[BitVec.toNat_ofNat];exact Nat.mod_eq_of_lt (by omega)
  have h6:(BitVec.allOnes 32).toNat=4294967295:=by decide
  rw[h5,h6]at h4;rw[<-h4,h3,h5]
 rw[h2]at h1;exact h1
theorem Qi(r:Nat)(c:UInt8):Crc.Y1 r c=Crc.TK (Crc.TK (r ^^^ c.toNat)):=by
 unfold Crc.Y1 Crc.Y0;rw[Crc.Cc,Crc.Cc]
theorem N5(r:Nat)(l:List UInt8)(c:UInt8):Crc.WB r (l++[c])=Crc.Y1 (Crc.WB r l) c:=by unfold Crc.WB;rw[List.foldl_append];rfl
theorem JX(s:ByteArray)(k:Nat)(h:k<s.size):s.data.toList.take (k+1)=s.data.toList.take k++[s[k]]:=by
 rw[List.take_succ_eq_append_getElem (by simpa using h)];rfl
theorem Im(s:ByteArray)(w:AI)(hs:s.size<=abj)(hr:aS w):
  aaf prog 94 #[.int .u32 0,.string s] w (Lr (Crc.sum s.data.toList) w):=by
 unfold abj at hs;have HR:=sh hr;clear hr;have e0:bits .xor .u32 IntKind.u32.max 0=((4294967295:Nat):Int):=TM 0 (by decide);go_enter func94,ntmps94
 go_wp2_with fail
 clear e0
 go_loop [5,11] (fun r i=>∃(k n:Nat),i= .int .i64 k/\r= .int .u32 n/\k<=s.size/\Hid (n<4294967296)/\Hid (n=Crc.WB 4294967295 (s.data.toList.take k))) (fun _ i=>s.size-(intOf i).toNat)
 case atStart=>exact⟨0,_,rfl,rfl,Nat.zero_le _,show _<_ by decide,show _=_ by simp[Crc.WB]⟩
 case round=>
  obtain⟨k,n,rfl,rfl,hk,HL,HN⟩:=hrel;by_cases aH:k<s.size
  ·have hc:=s[k].toNat_lt
   have e1:=u32_xor_nat n s[k].toNat HL.out (by omega);have HX:=sh (show n ^^^ s[k].toNat<4294967296 from Nat.xor_lt_two_pow (n:=32) HL.out (by omega));have HE:=sh (show Crc.Y1 n s[k]=_ from Qi n s[k]);have HT:=sh (JX s k aH);generalize n ^^^ s[k].toNat=x at *;have HM:=sh (NC x HX.out);have e2:=Sq x HX.out;have e3:=NB x HX.out;have hm:x%16<16:=by omega
   have c1:=HR.out (x%16) hm;generalize x%16=m at *;generalize Crc.row.getD m 0=a at *;generalize Crc.TK x=y at *;have e4:=Sq y HM.out;have e5:=NB y HM.out;have HZ:=sh (NC y HM.out);have jf:y%16<16:=by omega
   have c2:=HR.out (y%16) jf;generalize y%16=m2 at *;generalize Crc.row.getD m2 0=a2 at *;generalize Crc.TK y=z at *;have e6:((s[k].toNat:Nat):Int)%4294967296=s[k].toNat:=by omega
   clear hc;go_wp2_with fail
   go_round
   case rel=>exact⟨k+1,z,by go_num,rfl,by omega,HZ.out,show _=_ by rw[HT.out,N5,<-HN.out,HE.out]⟩
   case measure=>simp[intOf];omega
  ·have e9:=TM n HL.out
   have HE:Hid (n=Crc.WB 4294967295 s.data.toList):=by
    have:=HN.out;rw[List.take_of_length_le (by rw[cB];omega)]at this;exact this
   go_wp2_with fail
   go_ret
   refine⟨?_,rfl⟩;rw[show Crc.sum s.data.toList=4294967295-n by unfold Crc.sum Crc.on;rw[HE.out]];rfl
theorem Hg(s:ByteArray)(w:AI)(hs:s.size<=abj)(hr:aS w):
  aaf prog 177 #[.string s] w (Lr (Crc.sum s.data.toList) w):=by
 have H:=sh (Im s w hs hr);clear hr;go_enter func177,ntmps177
 go_wp2_with (go_at_call 94;refine H.out.mono ?_;rintro e w' ⟨rfl,rfl⟩)
 go_ret
 exact⟨rfl,rfl⟩
end Go.Proofs.YtjbcbnemdhbhbaaGreatDoor
namespace Go.Proofs.YtjbcbnemdhbhbaaGreatDoor
open Go.Proofs.Tryz
open Go.ChangeShapes Go.WideShapes Go.ChangeAt Go.RowKit Go.Joins
theorem ago:ownKnob prog.godebug=none:=by kernel_rfl
theorem Nh:laidOutB prog=true:=by kernel_rfl
theorem aep:prog.globalNamed "rollbook/crc.row" = some 0:=by kernel_rfl
theorem agr:(prog.globals[0]?).map (·.type)=some 231:=by kernel_rfl
abbrev pG:List (String×DataW Unit):=[("rollbook/crc.row",Rows.laid_rollbook_crc_row)]
theorem LQ(os:Os)(args:Array Value):laidMetH prog pG ((World.doorLaid prog 400 os).forCall (fun _ _=>0) ⟨#[],args,[]⟩).memory:=
 laidMetH_of_parts3 (fuel:=8) (laidMet_of_run' 8 (by kernel_rfl) (by kernel_rfl)) (by kernel_rfl) (by kernel_rfl)
theorem Ry{W:AI}(h:laidMetH prog pG W):aS W:=by
 rw[MakeChecks.laidMetH_plain _ _ _ (by kernel_rfl)]at h;obtain⟨ps,⟨g0,t0,cs0,f0,p0,q0,Ph,Wg,hv0,qZ,_,_⟩,_,_⟩:=h;obtain rfl:=aek (aep.symm.trans Ph);obtain rfl:=aek (agr.symm.trans Wg);obtain⟨xs,m,rfl,hx,hlen,hn,hel⟩:=DataW.trod_array underlying231 qZ;have c1:prog.cellsOf 81=1:=by kernel_rfl
 rw[c1]at hel;have Pz:Rows.laid_rollbook_crc_row=DataW.agg (xs.map (·.1)):=(Prod.mk.injEq _ _ _ _ ▸ hx).1;intro k hk;have h1:=hel k hk;have BQ:k<xs.length:=by omega
 rw[aaG BQ]at h1;obtain⟨n,e1,e2,_⟩:=DataW.trod_int underlying81 h1;rw[World.var?_cell Ph hv0 k];have hc:cs0.toList[k]? =some (.int .u32 n):=by
  have h2:=congrArg (fun l=>l[0]?) e1;simp only[List.getElem?_take,Nat.mul_one]at h2;simpa using h2
 rw[Array.getElem?_toList]at hc;rw[hc];have e3:(xs.map (·.1))[k]? =some (.lit (.int .u32 n)):=by
  rw[List.getElem?_map,aaG BQ,e2];rfl
 have e4:∀k,k<16->(match (Rows.laid_rollbook_crc_row:DataW Unit)with| .agg l=>l[k]? |_=>Option.none)=some (.lit (.int .u32 ((Crc.row.getD k 0:Nat):Int))):=by
  intro k hk;unfold Rows.laid_rollbook_crc_row;have:k=0\/k=1\/k=2\/k=3\/k=4\/k=5\/k=6\/k=7\/k=8\/k=9\/k=10\/k=11\/k=12\/k=13\/k=14\/k=15:=by omega
  rcases this with rfl|rfl|rfl|rfl|rfl|rfl|rfl|rfl|rfl|rfl|rfl|rfl|rfl|rfl|rfl|rfl<;>rfl
 have e5:=e4 k hk;rw[Pz]at e5;simp only at e5;rw[e3]at e5;injection e5 with e5;injection e5 with e5;injection e5 with _ e5;rw[e5]
section
variable {H:Type} {enc:TypeId×Value->H} {W:AI} {base b0:Nat} {spare:Nat->Bool} {held:Bool} {r:Reach} {v:Value} {d:DataW H} {p:List MemPlace}
end
end Go.Proofs.YtjbcbnemdhbhbaaGreatDoor
namespace Go.Proofs.YtjbcbnemdhbhbaaGreatDoor
open Go.Proofs.Tryz
open Go.PlainAid
structure DevS where
 sec:List ByteArray
 row:List (Nat×ByteArray)
 off:Bool
 cy:Int
 steps:Int
 writes:Int
def bc (row:List (Nat×ByteArray)) (i:Nat):List ByteArray:=(row.filter fun x=>x.1==i).map (·.2)
namespace DevS
def waits (d:DevS) (i:Nat):List ByteArray:=bc d.row i
def ny (d:DevS) (i:Int):Bool:=decide (0<=i)&&decide (i<(d.sec.length:Int))
def ee (d:DevS):Bool:= !d.off&& !(d.cy==1)
def al (d:DevS):DevS:=
 if d.off then d else { d with off:=d.cy==1,cy:=max 0 (d.cy-1),steps:=d.steps+1 }
def write (d:DevS) (i:Int) (s:ByteArray):DevS×Int:=
 if d.ny i&&s.size==128 then
  if d.ee then ({ d.al with row:=d.row++[(i.toNat,s)],writes:=d.writes+1 },0)else (d.al,6)
 else (d,1)
def aF (d:DevS) (i:Nat):ByteArray:=(d.waits i).getLastD (d.sec.getD i abY)
def read (d:DevS) (i:Int):ByteArray×Int:=
 if d.ny i then if d.off then (abY,6)else (d.aF i.toNat,0)else (abY,1)
def synced (d:DevS):DevS:={ d with sec:=(afG d.sec.length).map d.aF,row:=[] }
def sync (d:DevS):DevS×Int:=if d.ee then (d.al.synced,0)else (d.al,6)
def cut (d:DevS):DevS×Int:=if d.off then (d,6)else ({ d with off:=true,cy:=0 },0)
def busy (d:DevS) (i:Nat):Bool:= !(d.waits i).isEmpty
def turn (d:DevS) (i:Nat):Nat:=((afG i).filter d.busy).length
def pick (xY:List Int) (k:Nat):Nat:=if xY=[]then 0 else (xY.getD (k%xY.length) 0).toNat
def kept (d:DevS) (xY:List Int) (i:Nat):ByteArray:=
 if pick xY (d.turn i)%((d.waits i).length+1)=0 then d.sec.getD i abY
 else (d.waits i).getD (pick xY (d.turn i)%((d.waits i).length+1)-1) abY
def aiS (d:DevS) (i:Int):ByteArray:=if d.ny i then d.sec.getD i.toNat abY else abY
def bw:ByteArray:=⟨(abN 128 (0:UInt8)).toArray⟩
def new (n:Nat):DevS:=⟨abN n bw,[],false,0,0,0⟩
structure Ok (d:DevS):Prop where
 some:0<d.sec.length
 most:d.sec.length<=2048
 Oj:∀s∈d.sec,s.size=128
 rows:∀x∈d.row,x.1<d.sec.length/\x.2.size=128
 Gl:0<=d.cy
 AZ:d.cy<=9223372036854775807
 wH:(d.row.length:Int)<=d.writes
 il:d.writes<=d.steps
end DevS
theorem ik(row:List (Nat×ByteArray))(i j:Nat)(s:ByteArray):bc (row++[(i,s)]) j=if i=j then bc row j++[s]else bc row j:=by
 unfold bc;rw[List.filter_append];by_cases h:i=j
 ·rw[if_pos h];simp[h]
 ·rw[if_neg h];simp[h]
theorem fR(row:List (Nat×ByteArray))(i:Nat):(bc row i).length<=row.length:=by
 unfold bc;rw[List.length_map];exact List.length_filter_le _ _
theorem rP{row:List (Nat×ByteArray)}{i:Nat}{s:ByteArray}(h:s∈bc row i):(i,s)∈row:=by
 unfold bc at h;obtain⟨x,hx,rfl⟩:=abK.1 h;obtain⟨h1,h2⟩:=List.mem_filter.1 hx;have:x.1=i:=by simpa using h2
 obtain⟨a,b⟩:=x;simp only at this;subst this;exact h1
namespace DevS
theorem gM{d:DevS}{i:Int}:d.ny i=true↔0<=i/\i<(d.sec.length:Int):=by unfold ny;simp
theorem sD{d:DevS}(h:d.Ok){i:Nat}(hi:d.sec.length<=i):d.waits i=[]:=by
 cases hw:d.waits i with
 | nil=>rfl
 | cons s l=>
  have:=rP (row:=d.row) (i:=i) (s:=s) (by unfold waits at hw;rw[hw];exact List.mem_cons_self);have:=(h.rows _ this).1;simp only at this;omega
theorem fk(d:DevS):d.al.sec=d.sec:=by unfold al;split<;>rfl
theorem mi(d:DevS):d.al.row=d.row:=by unfold al;split<;>rfl
theorem dD(d:DevS):d.al.writes=d.writes:=by unfold al;split<;>rfl
theorem Ok.al{d:DevS}(h:d.Ok):d.al.Ok:=by
 unfold DevS.al;split
 ·exact h
 ·exact⟨h.some,h.most,h.Oj,h.rows,Int.le_max_left _ _,by have:=h.AZ;show max 0 (d.cy-1)<=_;omega,h.wH,by have:=h.il;show d.writes<=d.steps+1;omega⟩
theorem uK{d:DevS}{i:Nat}(h:i<d.sec.length):d.aF i∈d.waits i\/(d.waits i=[]/\d.aF i=d.sec[i]):=by
 unfold aF;cases hw:d.waits i with
 | nil=>exact .inr ⟨rfl,by simp[h]⟩
 | cons s l=>exact .inl (by rw[List.getLastD_eq_getLast?,List.getLast?_eq_some_getLast (by simp),Option.getD_some];exact List.getLast_mem _)
theorem gN{d:DevS}(h:d.Ok){i:Nat}(hi:i<d.sec.length):(d.aF i).size=128:=by
 rcases uK hi with hm|⟨_,he⟩
 ·exact(h.rows _ (rP hm)).2
 ·rw[he];exact h.Oj _ (List.getElem_mem hi)
theorem Ok.synced{d:DevS}(h:d.Ok):d.synced.Ok:=by
 refine⟨by simpa[DevS.synced]using h.some,by simpa[DevS.synced]using h.most,?_,by simp[DevS.synced],h.Gl,h.AZ,?_,h.il⟩
 ·intro s hs
  simp only[DevS.synced,abK,List.mem_range]at hs;obtain⟨i,hi,rfl⟩:=hs;exact gN h hi
 ·have:=h.wH;simp only[DevS.synced,List.length_nil];omega
theorem Ok.write{d:DevS}(h:d.Ok)(i:Int)(s:ByteArray):(d.write i s).1.Ok:=by
 unfold DevS.write;split
 ·rename_i hc
  obtain⟨h1,h2⟩:d.ny i=true/\s.size=128:=by simpa using hc
  rw[gM]at h1;split
  ·rename_i hk
   have hs:=h.al;refine⟨hs.some,hs.most,hs.Oj,?_,hs.Gl,hs.AZ,?_,?_⟩
   ·intro x hx
    simp only[fk];rcases List.mem_append.1 hx with hx|hx
    ·exact h.rows x hx
    ·obtain rfl:x=(i.toNat,s):=by simpa using hx
     exact⟨by simp only;omega,h2⟩
   ·have:=h.wH;simp only[AT,List.length_singleton];omega
   ·have:=h.il
    have bF:d.off=false:=by unfold ee at hk;simp at hk;exact hk.1
    simp only[DevS.al,bF];show d.writes+1<=d.steps+1;omega
  ·exact h.al
 ·exact h
theorem Ok.sync{d:DevS}(h:d.Ok):d.sync.1.Ok:=by
 unfold DevS.sync;split
 ·exact h.al.synced
 ·exact h.al
theorem Ok.cut{d:DevS}(h:d.Ok):d.cut.1.Ok:=by
 unfold DevS.cut;split
 ·exact h
 ·exact⟨h.some,h.most,h.Oj,h.rows,aeZ _,by show (0:Int)<=_;omega,h.wH,h.il⟩
theorem Ok.WK{d:DevS}(h:d.Ok):0<=d.steps:=by have:=h.wH;have:=h.il;omega
theorem Ok.Hm{d:DevS}(h:d.Ok):0<=d.writes:=by have:=h.wH;omega
theorem fM:bw.size=128:=by simp[bw,ByteArray.size]
theorem Ok.new{n:Nat}(h0:0<n)(h1:n<=2048):(new n).Ok:=by
 refine⟨by simpa[DevS.new]using h0,by simpa[DevS.new]using h1,?_,by simp[DevS.new],aeZ _,by show (0:Int)<=_;omega,aeZ _,aeZ _⟩;intro s hs;obtain⟨_,rfl⟩:=List.mem_replicate.1 (show s∈abN n bw from hs);exact fM
end DevS
end Go.Proofs.YtjbcbnemdhbhbaaGreatDoor
namespace Go.Proofs.YtjbcbnemdhbhbaaGreatDoor
open Go.Proofs.Tryz
open Go.RowKit
open Go.PlainAid
def cm (k n t:Int) (b:ByteArray):Bool:=decide (1<=k)&&decide (k<=4)&&decide (1<=n)&&decide (n<512)&&decide (0<=t)&&decide (t<=1099511627776)&&decide (b.size<=488)
theorem eY{k n t:Int}{b:ByteArray}(h:cm k n t b=true):1<=k/\k<=4/\1<=n/\n<512/\0<=t/\t<=1099511627776/\b.size<=488:=by
 unfold cm at h;simp only[abL,decide_eq_true_eq]at h;obtain⟨⟨⟨⟨⟨⟨a,b⟩,c⟩,d⟩,e⟩,f⟩,g⟩:=h;exact⟨a,b,c,d,e,f,g⟩
theorem JH{k n t:Int}{b:ByteArray}(h:cm k n t b=false):k<1\/(1<=k/\4<k)\/(1<=k/\k<=4/\n<1)\/(1<=k/\k<=4/\1<=n/\512<=n)\/(1<=k/\k<=4/\1<=n/\n<512/\t<0)\/
  (1<=k/\k<=4/\1<=n/\n<512/\0<=t/\1099511627776<t)\/(1<=k/\k<=4/\1<=n/\n<512/\0<=t/\t<=1099511627776/\488<b.size):=by
 unfold cm at h;simp only[Bool.and_eq_false_iff,decide_eq_false_iff_not]at h;omega
theorem Fi(k n t:Int)(b:ByteArray)(w:AI)(h:cm k n t b=true):
  aaf prog 229 #[.agg #[.int .i64 k,.int .i64 n,.int .i64 t,.string b]] w (gl true w):=by
 obtain⟨h1,h2,h3,h4,h5,h6,h7⟩:=eY h;have q1:decide (1<=k)=true:=by simp;omega
 have q2:decide (k<=4)=true:=by simp;omega
 have q3:decide (1<=n)=true:=by simp;omega
 have q4:decide (n<512)=true:=by simp;omega
 have q5:decide (0<=t)=true:=by simp;omega
 have q6:decide (t<=1099511627776)=true:=by simp;omega
 have q7:decide ((b.size:Int)<=488)=true:=by simp;omega
 clear h h1 h2 h3 h4 h5 h6 h7;go_enter func229,ntmps229
 go_wp2_with fail
 go_ret
 exact ec rfl ((BY _ _).alloc (AS _) _)
theorem JD(k n t:Int)(b:ByteArray)(w:AI)(h:cm k n t b=false):
  aaf prog 229 #[.agg #[.int .i64 k,.int .i64 n,.int .i64 t,.string b]] w (gl false w):=by
 have hd:=JH h;clear h;rcases hd with h|⟨h1,h⟩|⟨h1,h2,h⟩|⟨h1,h2,h3,h⟩|⟨h1,h2,h3,h4,h⟩|⟨h1,h2,h3,h4,h5,h⟩|⟨h1,h2,h3,h4,h5,h6,h⟩;all_goals
  go_enter func229,ntmps229
  go_wp2_with fail
  go_ret
  exact ec (by first|rfl|(symm;simp;omega)) ((BY _ _).alloc (AS _) _)
theorem Fh(k n t:Int)(b:ByteArray)(w:AI):
  aaf prog 229 #[.agg #[.int .i64 k,.int .i64 n,.int .i64 t,.string b]] w (gl (cm k n t b) w):=by
 cases h:cm k n t b with
 | true=>exact Fi _ _ _ _ _ h
 | false=>exact JD _ _ _ _ _ h
def bz (k n t len:Nat):List UInt8:=[82,66]++lays [(k,1),(0,1),(len,2),(n,4),(t,8)]
def cj (b:List UInt8):List UInt8:=[0,0]++b++abN (488-b.length) 0
def G7 (k n t:Nat) (b:List UInt8):Nat:=Crc.sum (bz k n t b.length++[0,0,0,0]++cj b)
def gZ (k n t:Nat) (b:List UInt8):List UInt8:=bz k n t b.length++Be.low (G7 k n t b) 4++cj b
def bL (k n t:Int) (b:ByteArray):ByteArray:=if cm k n t b then ⟨(gZ k.toNat n.toNat t.toNat b.data.toList).toArray⟩else ⟨#[]⟩
def jo (k n t:Int) (b:ByteArray):Int:=if cm k n t b then 0 else 4
def tF (k n t:Int) (b:ByteArray) (w:AI) (e:Ending) (w':AI):Prop:=e= .returned (.tuple #[.string (bL k n t b),.int .i64 (jo k n t b)])/\Below w.heap.size w w'
theorem aS.lt{w:AI}(h:aS w):0<w.heap.size:=by
 have h0:=h 0 (by decide);rcases Nat.lt_or_ge 0 w.heap.size with hl|hl
 ·exact hl
 ·simp[World.cell?,Array.getElem?_eq_none hl]at h0
theorem aS.below{w w':AI}(h:aS w)(hb:Below w.heap.size w w'):aS w':=fun k hk=>(hb.cell (p:=⟨0,k,none⟩) h.lt).trans (h k hk)
theorem Oy(l:List UInt8):Crc.sum l<4294967296:=by unfold Crc.sum Crc.on;omega
theorem GX(w:AI)(a0 a1 a2 a3 a4 k0 k1 k2 k3 k4:Nat)(e:TypeId):
  qb (w.alloc (.cells #[.int .i64 a0,.int .i64 k0,.int .i64 a1,.int .i64 k1,.int .i64 a2,.int .i64 k2,.int .i64 a3,.int .i64 k3,.int .i64 a4,.int .i64 k4] e)) w.heap.size [(a0,k0),(a1,k1),(a2,k2),(a3,k3),(a4,k4)]:=by
 have hb:=Bk.new w e #[.int .i64 a0,.int .i64 k0,.int .i64 a1,.int .i64 k1,.int .i64 a2,.int .i64 k2,.int .i64 a3,.int .i64 k3,.int .i64 a4,.int .i64 k4];refine⟨hb.lt,?_⟩;intro i hi;have hc:i=0\/i=1\/i=2\/i=3\/i=4:=by simp at hi;omega
 rcases hc with rfl|rfl|rfl|rfl|rfl<;>exact⟨hb.cell _,hb.cell _⟩
theorem GW(w:AI)(a0 k0:Nat)(e:TypeId):qb (w.alloc (.cells #[.int .i64 a0,.int .i64 k0] e)) w.heap.size [(a0,k0)]:=by
 have hb:=Bk.new w e #[.int .i64 a0,.int .i64 k0];refine⟨hb.lt,?_⟩;intro i hi;obtain rfl:i=0:=by simp at hi;omega
 exact⟨hb.cell _,hb.cell _⟩
theorem Y5(k n t len:Nat)(hk:k<=4)(hn:n<512)(ht:t<=1099511627776)(hl:len<=488):Fits [(k,1),(0,1),(len,2),(n,4),(t,8)]:=by
 intro p hp;simp only[List.mem_cons,List.not_mem_nil,or_false]at hp;rcases hp with rfl|rfl|rfl|rfl|rfl<;>refine⟨by simp,by simp,?_,?_⟩<;>simp<;>omega
theorem xy(s:Nat)(h:s<4294967296):Fits [(s,4)]:=by
 intro p hp;simp only[List.mem_singleton]at hp;subst hp;exact⟨by simp,by simp,by simp;omega,by simp;omega⟩
theorem Ck(k n t:Int)(b:ByteArray)(w:AI)(hr:aS w):
  aaf prog 172 #[.agg #[.int .i64 k,.int .i64 n,.int .i64 t,.string b]] w (tF k n t b w):=by
 have HR:=fun W:AI=>Fh k n t b W;have oe:Below w.heap.size w (w.alloc (.cells #[.int .i64 k,.int .i64 n,.int .i64 t,.string b] 126)):=(BY _ _).alloc (AS _) _;have aT:=Bk.new w 126 #[.int .i64 k,.int .i64 n,.int .i64 t,.string b];have lX:=hr.below oe;cases hq:cm k n t b with
 | false=>
  rw[hq]at HR;have H1:=sh HR;have HS:=sh (show bL k n t b=⟨#[]⟩/\jo k n t b=4 by unfold bL jo;rw[hq];exact⟨rfl,rfl⟩);clear hq HR;go_enter func172,ntmps172
  go_wp2_with (first
   | (go_at_call 229;refine(H1.out _).mono ?_;rintro e w2 ⟨rfl,aC⟩)
   | fail)
  go_ret2
  exact⟨by rw[HS.out.1,HS.out.2];rfl,oe.trans (aC.mono oe.size)⟩
 | true=>
  rw[hq]at HR;have H1:=sh HR;have hS:bL k n t b=⟨(gZ k.toNat n.toNat t.toNat b.data.toList).toArray⟩/\jo k n t b=0:=by unfold bL jo;rw[hq];exact⟨rfl,rfl⟩
  have HS:=sh hS;obtain⟨h1,h2,h3,h4,h5,h6,h7⟩:=eY hq;clear hq HR hS;obtain⟨kn,rfl⟩:=acg (show 0<=k by omega);obtain⟨nn,rfl⟩:=acg (show 0<=n by omega);obtain⟨tn,rfl⟩:=acg (show 0<=t by omega);have gn:=Y5 kn nn tn b.size (by omega) (by omega) (by omega) h7;have OX:=sh fun W:AI=>s7 ⟨#[82,66]⟩ W.heap.size 5 [(kn,1),(0,1),(b.size,2),(nn,4),(tn,8)] _ rfl (by simp) (by decide) (GX W kn 0 b.size nn tn 1 1 2 4 8 268) gn;have QR:(⟨#[82,66]⟩++⟨(lays [(kn,1),(0,1),(b.size,2),(nn,4),(tn,8)]).toArray⟩:ByteArray)=⟨(bz kn nn tn b.size).toArray⟩:=by
   apply jF;rw[aP];rfl
  rw[QR]at OX;have T8:=sh (show ∀W:AI,aaf prog 175 #[.string ⟨#[82,66]⟩,.slice (some ⟨W.heap.size,0,none⟩) 5 5] (W.alloc (.cells #[.int .i64 (kn:Int),.int .i64 1,.int .i64 0,.int .i64 1,.int .i64 (b.size:Int),.int .i64 2,.int .i64 (nn:Int),.int .i64 4,.int .i64 (tn:Int),.int .i64 8] 268))
   (gT ⟨(bz kn nn tn b.size).toArray⟩ (W.alloc (.cells #[.int .i64 (kn:Int),.int .i64 1,.int .i64 0,.int .i64 1,.int .i64 (b.size:Int),.int .i64 2,.int .i64 (nn:Int),.int .i64 4,.int .i64 (tn:Int),.int .i64 8] 268))) from OX.out)
  clear OX;have hhs:(⟨(bz kn nn tn b.size).toArray⟩:ByteArray).size<=18:=by rw[ct];unfold bz lays;simp[Be.au]
  have abk:(⟨#[0,0]⟩++b:ByteArray).size=2+b.size:=by rw[aco];rfl
  have HF:=fun W:AI=>tW (⟨#[0,0]⟩++b) 490 W (by omega) (by decide);have Pw:(⟨#[0,0]⟩++b++bw (490-(⟨#[0,0]⟩++b:ByteArray).size):ByteArray)=⟨(cj b.data.toList).toArray⟩:=by
   apply jF;rw[aP,aP,abk,fL,show 490-(2+b.size)=488-b.size by omega];rfl
  rw[Pw]at HF;have sF:=sh HF;have hts:(⟨(cj b.data.toList).toArray⟩:ByteArray).size<=490:=by rw[ct];unfold cj;simp;omega
  have dL:(⟨(bz kn nn tn b.size).toArray⟩++⟨#[0,0,0,0]⟩++⟨(cj b.data.toList).toArray⟩:ByteArray).data.toList=bz kn nn tn b.size++[0,0,0,0]++cj b.data.toList:=by
   rw[aP,aP]
  have Wm:(⟨(bz kn nn tn b.size).toArray⟩++⟨#[0,0,0,0]⟩++⟨(cj b.data.toList).toArray⟩:ByteArray).size<=abj:=by
   rw[aco,aco];have:(⟨#[0,0,0,0]⟩:ByteArray).size=4:=rfl;unfold abj;omega
  have Uq:=fun(W:AI) (hW:aS W)=>Hg (⟨(bz kn nn tn b.size).toArray⟩++⟨#[0,0,0,0]⟩++⟨(cj b.data.toList).toArray⟩) W Wm hW;rw[dL]at Uq;have fJ:=Oy (bz kn nn tn b.size++[0,0,0,0]++cj b.data.toList);have jO:=sh (show bL (kn:Int) nn tn b=⟨(bz kn nn tn b.size).toArray⟩++⟨(Be.low (Crc.sum (bz kn nn tn b.size++[0,0,0,0]++cj b.data.toList)) 4).toArray⟩++⟨(cj b.data.toList).toArray⟩/\jo (kn:Int) nn tn b=0 by
   refine⟨?_,HS.out.2⟩;rw[HS.out.1];apply jF;rw[aP,aP];rfl)
  generalize Crc.sum (bz kn nn tn b.size++[0,0,0,0]++cj b.data.toList)=sm at *;have Dz:=fun W:AI=>s7 ⟨(bz kn nn tn b.size).toArray⟩ W.heap.size 1 [(sm,4)] _ rfl (by simp) (by omega) (GW W sm 4 268) (xy sm fJ);have Mv:lays [(sm,4)]=Be.low sm 4:=by unfold lays;simp
  rw[Mv]at Dz;have X9:=(show ∀W:AI,aaf prog 175 #[.string ⟨(bz kn nn tn b.size).toArray⟩,.slice (some ⟨W.heap.size,0,none⟩) 1 1] (W.alloc (.cells #[.int .i64 (sm:Int),.int .i64 4] 268))
   (gT (⟨(bz kn nn tn b.size).toArray⟩++⟨(Be.low sm 4).toArray⟩) (W.alloc (.cells #[.int .i64 (sm:Int),.int .i64 4] 268))) from Dz)
  clear Dz;have Tb:(⟨(Be.low sm 4).toArray⟩:ByteArray).size<=4:=by rw[ct,Be.au];exact AS _
  have hlc:(⟨(bz kn nn tn b.size).toArray⟩++⟨(Be.low sm 4).toArray⟩:ByteArray).size<=22:=by rw[aco];omega
  generalize (⟨(bz kn nn tn b.size).toArray⟩:ByteArray)=hd at *;generalize (⟨(Be.low sm 4).toArray⟩:ByteArray)=ls at *;generalize (⟨(cj b.data.toList).toArray⟩:ByteArray)=tl at *;have Lc:=sh Uq;have T9:=sh X9;have pJ:=sh aT;have rV:=sh lX;have lj:=sh oe;clear HS Uq X9 HF dL Wm Pw abk QR gn Mv aT lX oe hr h1 h2 h3 h4 h5 h6;go_enter func172,ntmps172
  go_wp2_with (first
   | (go_at_call 229;refine(H1.out _).mono ?_;rintro e w2 ⟨rfl,aC⟩;obtain⟨z0,z1,z2,z3⟩:=(ae pJ.out aC).four;have bm:=sh aC;clear aC)
   | (go_at_call 175;(with_reducible refine(T8.out _).mono ?_);rintro e w3 ⟨rfl,aN⟩;have du:=sh (((BY w2.heap.size w2).alloc (AS _) _).trans (aN.mono (by simp)));obtain⟨y0,y1,y2,y3⟩:=(ae (ae pJ.out bm.out) du.out).four;clear aN)
   | (go_at_call 176;refine(sF.out _).mono ?_;rintro e w4 ⟨rfl,bT⟩;have fU:=sh bT;have PZ:=sh (((rV.out.below bm.out).below du.out).below bT);clear bT)
   | (go_at_call 177;refine(Lc.out _ PZ.out).mono ?_;rintro e w' ⟨rfl,rfl⟩)
   | (go_at_call 175;(with_reducible refine(T9.out _).mono ?_);rintro e w5 ⟨rfl,cV⟩)
   | fail)
  go_ret2
  have a1:=lj.out.trans (bm.out.mono lj.out.size);have a2:=a1.trans (du.out.mono a1.size);have a3:=a2.trans (fU.out.mono a2.size);have a4:=a3.alloc a3.size (.cells #[.int .i64 (sm:Nat),.int .i64 4] 268);exact⟨by rw[jO.out.1,jO.out.2];rfl,a4.trans (cV.mono a4.size)⟩
theorem gy(a x r:List UInt8)(p m:Nat)(ha:a.length=p)(hx:x.length=m):((a++(x++r)).drop p).take m=x:=by
 subst ha;subst hx;rw[List.drop_left,List.take_left]
theorem zt(k n t len:Nat):(bz k n t len).length=18:=by
 unfold bz lays;simp[Be.au]
theorem zu(b:List UInt8)(h:b.length<=488):(cj b).length=490:=by
 unfold cj;simp;omega
theorem mR(k n t:Nat)(b:List UInt8)(h:b.length<=488):(gZ k n t b).length=512:=by
 unfold gZ;rw[AT,AT,zt,zu b h,Be.au]
theorem fj(k n t:Nat)(b:List UInt8):gZ k n t b=[82,66]++(Be.low k 1++(Be.low 0 1++(Be.low b.length 2++(Be.low n 4++(Be.low t 8++(Be.low (G7 k n t b) 4++([0,0]++(b++abN (488-b.length) 0)))))))):=by
 unfold gZ bz cj lays;simp[aaa]
theorem RD(k n t:Nat)(b:List UInt8)(hk:k<=4):Be.num (((gZ k n t b).drop 2).take 1)=k:=by
 rw[fj,gy _ _ _ 2 1 rfl (Be.au _ _),Be.cg _ _ (by omega)]
theorem RE(k n t:Nat)(b:List UInt8)(hb:b.length<=488):Be.num (((gZ k n t b).drop 4).take 2)=b.length:=by
 rw[fj,<-aaa,<-aaa,gy _ _ _ 4 2 (by simp[Be.au]) (Be.au _ _),Be.cg _ _ (by omega)]
theorem RG(k n t:Nat)(b:List UInt8)(hn:n<512):Be.num (((gZ k n t b).drop 6).take 4)=n:=by
 rw[fj,<-aaa,<-aaa,<-aaa,gy _ _ _ 6 4 (by simp[Be.au]) (Be.au _ _),Be.cg _ _ (by omega)]
theorem RH(k n t:Nat)(b:List UInt8)(ht:t<=1099511627776):Be.num (((gZ k n t b).drop 10).take 8)=t:=by
 rw[fj,<-aaa,<-aaa,<-aaa,<-aaa,gy _ _ _ 10 8 (by simp[Be.au]) (Be.au _ _),Be.cg _ _ (by omega)]
theorem RC(k n t:Nat)(b:List UInt8):((gZ k n t b).drop 24).take b.length=b:=by
 rw[fj,<-aaa,<-aaa,<-aaa,<-aaa,<-aaa,<-aaa,<-aaa,gy _ _ _ 24 _ (by simp[Be.au]) rfl]
def gS (s:ByteArray) (k n t:Int) (b:ByteArray):Prop:=cm k n t b=true/\bL k n t b=s
theorem jq{k n t:Int}{b:ByteArray}(h:cm k n t b=true):bL k n t b=⟨(gZ k.toNat n.toNat t.toNat b.data.toList).toArray⟩:=by unfold bL;rw[h];rfl
theorem mh{k n t:Int}{b:ByteArray}(h:cm k n t b=true):jo k n t b=0:=by unfold jo;rw[h];rfl
theorem Cj{k n t:Int}{b:ByteArray}(h:cm k n t b=false):jo k n t b=4:=by unfold jo;rw[h];rfl
theorem gS.says{s:ByteArray}{k n t:Int}{b:ByteArray}(h:gS s k n t b):
  s.size=512/\(∃r,s.data.toList=82::66::r)/\k=ai s 2 1/\ai s 4 2=b.size/\n=ai s 6 4/\t=ai s 10 8/\b=s.extract 24 (24+ai s 4 2):=by
 obtain⟨hr,hs⟩:=h;obtain⟨h1,h2,h3,h4,h5,h6,h7⟩:=eY hr;rw[jq hr]at hs;obtain⟨kn,rfl⟩:=acg (show 0<=k by omega);obtain⟨nn,rfl⟩:=acg (show 0<=n by omega);obtain⟨tn,rfl⟩:=acg (show 0<=t by omega);simp only[Int.toNat_natCast]at hs;have hl:s.data.toList=gZ kn nn tn b.data.toList:=by rw[<-hs]
 have e1:ai s 2 1=kn:=by unfold ai;rw[hl];exact RD _ _ _ _ (by omega)
 have e2:ai s 4 2=b.size:=by unfold ai;rw[hl];exact RE _ _ _ _ h7
 have e3:ai s 6 4=nn:=by unfold ai;rw[hl];exact RG _ _ _ _ (by omega)
 have e4:ai s 10 8=tn:=by unfold ai;rw[hl];exact RH _ _ _ _ (by omega)
 refine⟨?_,⟨_,by rw[hl,fj];rfl⟩,by rw[e1],e2,by rw[e3],by rw[e4],?_⟩
 ·rw[<-cB,hl,mR _ _ _ _ h7]
 ·apply jF
  rw[cU,e2,hl,show 24+b.size-24=b.size by omega];exact(RC _ _ _ _).symm
def iY (s:ByteArray):Bool:=cm (ai s 2 1) (ai s 6 4) (ai s 10 8) (s.extract 24 (24+ai s 4 2))&&decide (bL (ai s 2 1) (ai s 6 4) (ai s 10 8) (s.extract 24 (24+ai s 4 2))=s)
def OJ (s:ByteArray):Int:=if iY s then (ai s 2 1:Int)else 0
def OK (s:ByteArray):Int:=if iY s then (ai s 6 4:Int)else 0
def OL (s:ByteArray):Int:=if iY s then (ai s 10 8:Int)else 0
def OM (s:ByteArray):ByteArray:=if iY s then s.extract 24 (24+ai s 4 2)else ⟨#[]⟩
def OI (s:ByteArray):Int:=if iY s then 0 else 4
theorem vx{s:ByteArray}(h:iY s=true):gS s (ai s 2 1) (ai s 6 4) (ai s 10 8) (s.extract 24 (24+ai s 4 2)):=by
 unfold iY at h;simp only[abL,decide_eq_true_eq]at h;exact h
theorem RZ{s:ByteArray}{k n t:Int}{b:ByteArray}(h:gS s k n t b):iY s=true:=by
 obtain⟨h1,h2,h3,h4,h5,h6,h7⟩:=h.says;have h8:=h;rw[h3,h5,h6,h7]at h8;unfold iY;rw[h8.1,h8.2];simp
theorem ON{s:ByteArray}{k n t:Int}{b:ByteArray}(h:gS s k n t b):OJ s=k/\OK s=n/\OL s=t/\OM s=b/\OI s=0:=by
 have hu:=RZ h;obtain⟨h1,h2,h3,h4,h5,h6,h7⟩:=h.says;unfold OJ OK OL OM OI;rw[hu];exact⟨h3.symm,h5.symm,h6.symm,h7.symm,rfl⟩
theorem WS{s:ByteArray}(h:iY s=false):OJ s=0/\OK s=0/\OL s=0/\OM s=⟨#[]⟩/\OI s=4:=by
 unfold OJ OK OL OM OI;rw[h];exact⟨rfl,rfl,rfl,rfl,rfl⟩
end Go.Proofs.YtjbcbnemdhbhbaaGreatDoor
namespace Go.Proofs.YtjbcbnemdhbhbaaGreatDoor
open Go.Proofs.Tryz
open Go.PlainAid
namespace DevS
def four (D:DevS) (no:Nat):ByteArray:=⟨((D.aF (4*no)).data.toList++(D.aF (4*no+1)).data.toList++(D.aF (4*no+2)).data.toList++(D.aF (4*no+3)).data.toList).toArray⟩
structure vQ (D:DevS) (no:Nat) (k t:Int) (b:ByteArray):Prop where
 fits:4*no+4<=D.sec.length
 bytes:gS (D.four no) k no t b
theorem RL{D:DevS}(ho:D.off=false){i:Nat}(hi:i<D.sec.length):D.read (i:Int)=(D.aF i,0):=by
 unfold DevS.read;have h1:D.ny (i:Int)=true:=DevS.gM.2 ⟨by omega,by omega⟩;rw[h1,ho];simp
theorem D9{D E:DevS}{no:Nat}(h:∀i,4*no<=i->i<4*no+4->E.aF i=D.aF i):E.four no=D.four no:=by
 unfold four;rw[h _ (by omega) (by omega),h _ (by omega) (by omega),h _ (by omega) (by omega),h _ (by omega) (by omega)]
theorem C1{D:DevS}{i:Nat}{s:ByteArray}(hi:i<D.sec.length)(hs:s.size=128):D.write (i:Int) s=if D.ee then ({ D.al with row:=D.row++[(i,s)],writes:=D.writes+1 },0)else (D.al,6):=by
 unfold DevS.write;have h1:D.ny (i:Int)=true:=DevS.gM.2 ⟨by omega,by omega⟩;rw[h1,hs];simp
structure fF (D D':DevS) (A:Nat->Prop):Prop where
 sec:D'.sec=D.sec
 waits:∀j,¬ A j->D'.waits j=D.waits j
 steps:D.steps<=D'.steps
theorem fF.refl(D:DevS)(A:Nat->Prop):fF D D A:=⟨rfl,fun _ _=>rfl,aeZ _⟩
theorem fF.trans{D D' D'':DevS}{A:Nat->Prop}(h:fF D D' A)(k:fF D' D'' A):fF D D'' A:=
 ⟨k.sec.trans h.sec,fun j hj=>(k.waits j hj).trans (h.waits j hj),Int.le_trans h.steps k.steps⟩
theorem fF.mono{D D':DevS}{A B:Nat->Prop}(h:fF D D' A)(hAB:∀j,A j->B j):fF D D' B:=⟨h.sec,fun j hj=>h.waits j fun ha=>hj (hAB j ha),h.steps⟩
theorem fF.aF{D D':DevS}{A:Nat->Prop}(h:fF D D' A){j:Nat}(hj:¬ A j):D'.aF j=D.aF j:=by
 unfold DevS.aF;rw[h.sec,h.waits j hj]
theorem iO(D:DevS):D.steps<=D.al.steps/\D.al.steps<=D.steps+1:=by
 unfold al;split
 ·omega
 ·show D.steps<=D.steps+1/\D.steps+1<=D.steps+1
  omega
theorem nL(D:DevS)(A:Nat->Prop):fF D D.al A:=⟨fk D,fun j _=>by unfold waits;rw[mi],(iO D).1⟩
theorem gO{D:DevS}{i:Nat}{s:ByteArray}(hi:i<D.sec.length)(hs:s.size=128):fF D (D.write (i:Int) s).1 (· =i)/\(D.write (i:Int) s).1.steps<=D.steps+1/\
  (((D.write (i:Int) s).2=0/\(D.write (i:Int) s).1.aF i=s/\(D.write (i:Int) s).1.off=false)\/((D.write (i:Int) s).2=6/\(D.write (i:Int) s).1.off=true)):=by
 rw[C1 hi hs];by_cases h:D.ee=true
 ·rw[if_pos h]
  have h2:=(iO D);refine⟨⟨fk D,fun j hj=> ?_,h2.1⟩,h2.2,.inl ⟨rfl,?_,?_⟩⟩
  ·show bc (D.row++[(i,s)]) j=bc D.row j
   rw[ik,if_neg (fun e=>hj e.symm)]
  ·show (bc (D.row++[(i,s)]) i).getLastD _=s
   rw[ik,if_pos rfl];simp
  ·unfold ee at h
   simp at h;show D.al.off=false;unfold al;simp[h.1,h.2]
 ·rw[if_neg h]
  refine⟨nL D _,(iO D).2,.inr ⟨rfl,?_⟩⟩;unfold ee at h;unfold al;cases ho:D.off with
  | true=>simp[ho]
  | false=>simp[ho]at h |-;exact h
def writeL (D:DevS):Nat->List ByteArray->DevS×Int
 | _,[]=>(D,0)
 | i,s::l=>if (D.write (i:Int) s).2=0 then writeL (D.write (i:Int) s).1 (i+1) l else ((D.write (i:Int) s).1,(D.write (i:Int) s).2)
theorem kI:∀(l:List ByteArray) (D:DevS) (i:Nat),i+l.length<=D.sec.length->(∀s∈l,s.size=128)->
  fF D (D.writeL i l).1 (fun j=>i<=j/\j<i+l.length)/\(D.writeL i l).1.steps<=D.steps+l.length/\
  (((D.writeL i l).2=0/\(∀(j:Nat) (x:ByteArray),l[j]? =some x->(D.writeL i l).1.aF (i+j)=x)/\(D.off=false->(D.writeL i l).1.off=false))\/((D.writeL i l).2=6/\(D.writeL i l).1.off=true))
 | [],D,i,_,_=>⟨fF.refl _ _,by simp[writeL],.inl ⟨rfl,fun j x h=>by simp at h,fun h=>h⟩⟩
 | s::l,D,i,hi,hs=>by
  rw[List.length_cons]at hi |-;obtain⟨h1,h2,h3⟩:=gO (D:=D) (i:=i) (s:=s) (by omega) (hs s (by simp));rcases h3 with⟨h3,h4,h5⟩|⟨h3,h4⟩
  ·have he:D.writeL i (s::l)=writeL (D.write (i:Int) s).1 (i+1) l:=by
    show (if (D.write (i:Int) s).2=0 then _ else _)=_;rw[if_pos h3]
   obtain⟨k1,k2,k3⟩:=kI l (D.write (i:Int) s).1 (i+1) (by rw[h1.sec];omega) (fun x hx=>hs x (by simp[hx]));rw[he];refine⟨(h1.mono (fun j hj=>by omega)).trans (k1.mono (fun j hj=>by omega)),by push_cast;omega,?_⟩;rcases k3 with⟨k3,k4,k5⟩|k3
   ·refine .inl ⟨k3,fun j x hj=> ?_,fun _=>k5 h5⟩
    cases j with
    | zero=>
     rw[k1.aF (by omega),Nat.add_zero,h4];exact aek hj
    | succ j=>
     have:=k4 j x (by simpa using hj);rw[show i+(j+1)=i+1+j by omega];exact this
   ·exact .inr k3
  ·have he:D.writeL i (s::l)=((D.write (i:Int) s).1,(D.write (i:Int) s).2):=by
    show (if (D.write (i:Int) s).2=0 then _ else _)=_;rw[if_neg (by rw[h3];decide)]
   rw[he];exact⟨h1.mono (fun j hj=>by omega),by push_cast;omega,.inr ⟨h3,h4⟩⟩
theorem wQ{D:DevS}{i:Nat}(hi:i<D.sec.length):D.synced.aF i=D.aF i:=by
 show (bc [] i).getLastD _=_;show D.synced.sec.getD i abY=_;simp[synced,hi]
theorem oA(D:DevS):D.synced.sec.length=D.sec.length:=by simp[synced]
theorem ju(D:DevS):D.al.sec.length=D.sec.length:=by rw[fk]
theorem vp(D:DevS)(i:Nat):D.al.aF i=D.aF i:=(nL D (fun _=>False)).aF (by simp)
theorem vQ.congr{D E:DevS}{no:Nat}{k t:Int}{b:ByteArray}(h:D.vQ no k t b)(hl:E.sec.length=D.sec.length)(he:∀i,4*no<=i->i<4*no+4->E.aF i=D.aF i):E.vQ no k t b:=
 ⟨by rw[hl];exact h.fits,by rw[D9 he];exact h.bytes⟩
end DevS
end Go.Proofs.YtjbcbnemdhbhbaaGreatDoor
