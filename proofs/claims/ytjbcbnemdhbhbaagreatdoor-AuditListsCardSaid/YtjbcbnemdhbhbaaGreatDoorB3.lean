import Derived.Test.YtjbcbnemdhbhbaaGreatDoorB2
import Derived.Deep.AppendLies
set_option maxRecDepth 100000
set_option linter.unusedVariables false
set_option linter.unusedSimpArgs false
set_option maxHeartbeats 40000000
open Bool renaming and_eq_true→abM,false_eq_true→adh
open ByteArray renaming empty→aca,size_append→acj
open Exists renaming intro→acD
open Go renaming Calls→aag,Value→IS,World→AI,bodyPost_ret→abT,results→acN
open Go.Lib renaming hid→sh
open Go.RowKit renaming Below→No
open Go.RowKit.Below renaming refl→IN
open List renaming all_eq_true→aeo,append_assoc→OF,drop_drop→agB,drop_left→afO,getElem?_map→acz,getElem_mem→abw,length_append→BY,length_take→abv,mem_map→abO,take_append_drop→abm,take_left→adG,take_length→acB,take_succ_eq_append_getElem→aaT
open Nat renaming le_refl→AS,zero_le→abc
open Option.some renaming inj→adW
namespace Go.Proofs.YtjbcbnemdhbhbaaGreatDoor
open Go.Proofs.Tryz
open Go.RowKit
theorem oW{a b:ByteArray}(h:a.data.toList=b.data.toList):a=b:=by
 obtain⟨⟨a⟩⟩:=a;obtain⟨⟨b⟩⟩:=b;simp only at h;subst h;rfl
theorem oX(l:List UInt8):(⟨l.toArray⟩:ByteArray).data.toList=l:=rfl
theorem zK(c:Ce)(w:AI)(h:Nd.cy c=true):aag prog 269 #[.bool false,.agg #[.string c.key,.string c.val,.int .i64 c.over,.int .i64 c.size,.int .i64 c.child]] w (gP ⟨(Nd.bytes false c).toArray⟩ w):=by
 obtain⟨key,val,over,size,child⟩:=c;unfold Nd.cy at h;simp only[abM,decide_eq_true_eq,beq_iff_eq]at h;obtain⟨⟨⟨⟨⟨h1,h2⟩,h3⟩,h4⟩,rfl⟩,rfl⟩:=h;have HT:=sh fun(W:AI)=>yV ⟨#[]⟩ key W (by decide) (by omega);obtain⟨s,hs⟩:∃s:ByteArray,s=⟨#[]⟩++⟨(Be.low key.size 2).toArray⟩++key:=⟨_,rfl⟩;rw[<-hs]at HT;have QT:s.size<=1000:=by
  have h2:=cA (Be.low key.size 2);rw[Be.aq]at h2;rw[hs,acj,acj,h2];have:(⟨#[]⟩:ByteArray).size=0:=rfl;omega
 have HP:=sh fun(W:AI)=>(show aag prog 160 #[.string s,.int .u64 child,.int .i64 4] W (cU (s++⟨(Be.low child 4).toArray⟩) 0 W) from gR s child 4 W (by omega) (by omega) (by omega) (by omega));have hw:=wrap_u64 child (by omega);obtain⟨q,hq⟩:∃q:ByteArray,q=s++⟨(Be.low child 4).toArray⟩:=⟨_,rfl⟩;rw[<-hq]at HP;have HV:=sh (show (⟨(Nd.bytes false ⟨key,val,0,0,child⟩).toArray⟩:ByteArray)=q by
  rw[hq,hs];apply oW;simp only[aS,oX,Nd.bytes];simp)
 clear hs hq h1 h2 h3 h4;go_enter func269,ntmps269
 go_wp2_with (first
  | (go_at_call 288;go_must (refine(HT.out _).mono ?_);rintro e w1 ⟨rfl,ar⟩;obtain⟨-,-,-,-,p4,l1,gJ,-⟩:=bN ar;have dD:=sh gJ;clear gJ ar)
  | (go_at_call 160;go_must (refine(HP.out _).mono ?_);rintro e w2 ⟨rfl,az⟩)
  | fail)
 go_ret
 exact mQ HV.out (dD.out.trans (az.mono dD.out.size))
theorem Hp(c:Ce)(w:AI)(h:Nd.aY c=true):aag prog 269 #[.bool true,.agg #[.string c.key,.string c.val,.int .i64 c.over,.int .i64 c.size,.int .i64 c.child]] w (gP ⟨(Nd.bytes true c).toArray⟩ w):=by
 obtain⟨key,val,over,size,child⟩:=c;unfold Nd.aY at h;simp only[abM,decide_eq_true_eq,beq_iff_eq]at h;obtain⟨⟨⟨h1,h2⟩,rfl⟩,h4⟩:=h;have HT:=sh fun(W:AI)=>yV ⟨#[]⟩ key W (by decide) (by omega);obtain⟨s,hs⟩:∃s:ByteArray,s=⟨#[]⟩++⟨(Be.low key.size 2).toArray⟩++key:=⟨_,rfl⟩;rw[<-hs]at HT;have QT:s.size<=1000:=by
  have h2:=cA (Be.low key.size 2);rw[Be.aq]at h2;rw[hs,acj,acj,h2];have:(⟨#[]⟩:ByteArray).size=0:=rfl;omega
 by_cases ho:over=0
 ·subst ho
  rw[if_pos rfl]at h4;simp only[abM,decide_eq_true_eq,beq_iff_eq]at h4;obtain⟨rfl,h5⟩:=h4;have u7:(s++⟨#[0]⟩:ByteArray).size<=1001:=by rw[acj];have:(⟨#[0]⟩:ByteArray).size=1:=rfl;omega
  have HP:=sh fun(W:AI)=>yV (s++⟨#[0]⟩) val W (by omega) (by omega);obtain⟨q,hq⟩:∃q:ByteArray,q=s++⟨#[0]⟩++⟨(Be.low val.size 2).toArray⟩++val:=⟨_,rfl⟩;rw[<-hq]at HP;have HV:=sh (show (⟨(Nd.bytes true ⟨key,val,0,0,0⟩).toArray⟩:ByteArray)=q by
   rw[hq,hs];apply oW;simp only[aS,oX,Nd.bytes];simp)
  clear hs hq h1 h2 h5;go_enter func269,ntmps269
  go_wp2_with fail
  (go_at_call 288)
  refine(HT.out _).mono ?_;rintro e w1 ⟨rfl,ar⟩;obtain⟨p0,p1,p2,p3,p4,l1,gJ,-⟩:=bN ar;have dD:=sh gJ;clear gJ ar;go_wp2_with fail
  (go_at_call 288)
  refine(HP.out _).mono ?_;rintro e w2 ⟨rfl,az⟩;go_wp2_with fail
  go_ret
  exact mQ HV.out (dD.out.trans (az.mono dD.out.size))
 ·rw[if_neg ho]at h4
  simp only[abM,decide_eq_true_eq,beq_iff_eq]at h4;obtain⟨⟨⟨h5,h6⟩,h7⟩,h8⟩:=h4;obtain rfl:=mO h5;have k1:decide ((0:Int)<(over:Int))=true:=decide_eq_true (by omega);have k2:decide (0<over)=true:=decide_eq_true (by omega);have hw:=wrap_u64 over (by omega);have QU:=wrap_u64 size (by omega);have u7:(s++⟨#[1]⟩:ByteArray).size<=1001:=by rw[acj];have:(⟨#[1]⟩:ByteArray).size=1:=rfl;omega
  have HP:=sh fun(W:AI)=>(show aag prog 160 #[.string (s++⟨#[1]⟩),.int .u64 over,.int .i64 4] W (cU (s++⟨#[1]⟩++⟨(Be.low over 4).toArray⟩) 0 W) from gR _ over 4 W (by omega) (by omega) (by omega) (by omega));obtain⟨q,hq⟩:∃q:ByteArray,q=s++⟨#[1]⟩++⟨(Be.low over 4).toArray⟩:=⟨_,rfl⟩;rw[<-hq]at HP;have hqs:q.size<=1010:=by
   have h2:=cA (Be.low over 4);rw[Be.aq]at h2;rw[hq,acj,h2];omega
  have pE:=sh fun(W:AI)=>(show aag prog 160 #[.string q,.int .u64 size,.int .i64 4] W (cU (q++⟨(Be.low size 4).toArray⟩) 0 W) from gR _ size 4 W (by omega) (by omega) (by omega) (by omega));obtain⟨q2,IP⟩:∃q2:ByteArray,q2=q++⟨(Be.low size 4).toArray⟩:=⟨_,rfl⟩;rw[<-IP]at pE;have HV:=sh (show (⟨(Nd.bytes true ⟨key,⟨#[]⟩,over,size,0⟩).toArray⟩:ByteArray)=q2 by
   rw[IP,hq,hs];apply oW;simp only[aS,oX,Nd.bytes,if_true];rw[if_pos (by omega)];simp)
  clear hs hq IP h1 h2 h5 h6 h7 h8 ho;go_enter func269,ntmps269
  go_wp2_with fail
  (go_at_call 288)
  refine(HT.out _).mono ?_;rintro e w1 ⟨rfl,ar⟩;obtain⟨p0,p1,p2,p3,p4,l1,gJ,dw⟩:=bN ar;have dD:=sh gJ;have FC:=sh dw;clear gJ ar dw;go_wp2_with fail
  (go_at_call 160)
  refine(HP.out _).mono ?_;rintro e w2 ⟨rfl,az⟩;have r3:w2.cell? ⟨w.heap.size,3,none⟩=some (.int .i64 size):=(af FC.out az).cell 3;have l2:=(af FC.out az).lt;have fY:=sh (dD.out.trans (az.mono dD.out.size));clear az;go_wp2_with fail
  (go_at_call 160)
  refine(pE.out _).mono ?_;rintro e w3 ⟨rfl,aQ⟩;go_wp2_with fail
  go_ret
  exact mQ HV.out (fY.out.trans (aQ.mono fY.out.size))
theorem Nd.jS{leaf:Bool}{c:Ce}(h:Nd.aP leaf c=true):c.key.size<=120/\c.val.size<=96/\c.over<512/\c.size<=4000/\c.child<512:=by
 unfold Nd.aP at h;cases leaf
 ·simp only[adh,if_false,Nd.cy,abM,decide_eq_true_eq,beq_iff_eq]at h
  omega
 ·simp only[if_true,Nd.aY,abM,decide_eq_true_eq,beq_iff_eq]at h
  obtain⟨⟨⟨h1,h2⟩,h3⟩,h4⟩:=h;by_cases ho:c.over=0
  ·rw[if_pos ho]at h4;simp only[abM,decide_eq_true_eq,beq_iff_eq]at h4;omega
  ·rw[if_neg ho]at h4;simp only[abM,decide_eq_true_eq,beq_iff_eq]at h4;omega
theorem Nd.rC{leaf:Bool}{l:List Ce}(h:Nd.right leaf l=true)(hl:l.length<=10000):Small l:=by
 unfold Nd.right at h;simp only[abM]at h;exact⟨hl,fun c hc=>by have:=Nd.jS (aeo.1 h.2.1 c hc);omega⟩
theorem Ls(leaf:Bool)(c:Ce)(w:AI)(h:Nd.aP leaf c=true):aag prog 269 #[.bool leaf,.agg #[.string c.key,.string c.val,.int .i64 c.over,.int .i64 c.size,.int .i64 c.child]] w (gP ⟨(Nd.bytes leaf c).toArray⟩ w):=by
 cases leaf with
 | true=>exact Hp c w h
 | false=>exact zK c w h
theorem s6(leaf:Bool)(r:Rw)(l:List Ce)(S:Nat->Prop)(w:AI)(h:aV w S r l)(hr:Nd.right leaf l=true)(hs:Nd.sum leaf l<=488):
  aag prog 251 #[.bool leaf,.slice r.A r.n r.c] w (cU ⟨(Nd.enc leaf l).toArray⟩ 0 w):=by
 obtain⟨A,n,cap⟩:=r;have gr:=h;obtain⟨h1,h2,h3,-⟩:=gr;simp only at h1 h2 h3 |-;subst h1;have eF:∀c∈l,Nd.aP leaf c=true:=by
  unfold Nd.right at hr;simp only[abM]at hr;exact fun c hc=>aeo.1 hr.2.1 c hc
 have hlen:(Nd.tail leaf l).length+2*l.length<=486:=by
  have:=Nd.pz leaf l;unfold Nd.sum at hs;omega
 have HR:=sh h;have C9:=sh fun(W:AI) (hb:No w.heap.size w W)=>xj leaf ⟨A,l.length,cap⟩ l S W (h.below hb) (by omega) hr;have J4:=sh fun(W:AI) (hb:No w.heap.size w W)=>tY leaf ⟨A,l.length,cap⟩ l S W (h.below hb) (Nd.rC hr (by omega));have RR:=sh fun(W:AI)=>(show aag prog 160 #[.string ⟨#[]⟩,.int .u64 l.length,.int .i64 2] W (cU (⟨#[]⟩++⟨(Be.low l.length 2).toArray⟩) 0 W) from gR ⟨#[]⟩ l.length 2 W (by decide) (by omega) (by omega) (by omega));obtain⟨N,hN⟩:∃N,N=Nd.sum leaf l:=⟨_,rfl⟩;rw[<-hN]at J4;have z0:decide ((488:Int)<(N:Int))=false:=decide_eq_false (by omega);have hw:=wrap_u64 l.length (by omega);have dC:cap<=9223372036854775807:=by unfold maxLen at h3;omega
 have HA:=sh eF;obtain⟨s0,u7⟩:∃s:ByteArray,s=⟨#[]⟩++⟨(Be.low l.length 2).toArray⟩:=⟨_,rfl⟩;rw[<-u7]at RR;have Sc:=sh (show s0.data.toList=Be.low l.length 2++Nd.slots leaf l (2+2*l.length) 0 by rw[u7];simp[aS,Nd.slots]);have vX:=sh hlen;have Gb:l.length<=243:=by omega
 have ey:∀j,(Nd.tail leaf (l.take j)).length<=(Nd.tail leaf l).length:=fun j=>by
  have e:Nd.tail leaf l=Nd.tail leaf (l.take j)++Nd.tail leaf (l.drop j):=by rw[<-Nd.py,abm]
  rw[e,BY];omega
 have CK:=sh ey;clear h h3 hr hs hN eF u7 hlen ey;go_enter func251,ntmps251
 go_wp2_with (first
  | (go_at_call 268;go_must (refine(C9.out _ (IN _ _)).mono ?_);rintro e w1 ⟨rfl,ar⟩;have dD:=sh ar)
  | (go_at_call 254;go_must (refine(J4.out _ dD.out).mono ?_);rintro e w2 ⟨rfl,az⟩;have fY:=sh (dD.out.trans (az.mono dD.out.size)))
  | (go_at_call 160;go_must (refine(RR.out _).mono ?_);rintro e w3 ⟨rfl,aQ⟩;have dN:=sh (fY.out.trans (aQ.mono fY.out.size)))
  | fail)
 clear ar az aQ;go_loopw [6,8,35] (fun u v i wr=>∃(j:Nat) (s t:ByteArray),i= .int .i64 j/\u= .string s/\v= .string t/\j<=l.length/\s.size=2+2*j/\t.size<=486/\Hid (s.data.toList=Be.low l.length 2++Nd.slots leaf l (2+2*l.length) j)/\Hid (t.data.toList=Nd.tail leaf (l.take j))/\No w.heap.size w wr) (fun _ _ i _=>l.length-(intOf i).toNat)
 case atStart=>exact⟨0,s0,⟨#[]⟩,rfl,rfl,rfl,abc _,by rw[<-bY,Sc.out,BY,Be.aq,Nd.gi],by decide,Sc,sh (by simp[Nd.tail]),dN.out⟩
 case round=>
  obtain⟨j,s,t,rfl,rfl,rfl,hj,QT,hts,HS,HT,eO⟩:=hrel;have fO:=sh eO;by_cases aI:j<l.length
  ·have z1:decide ((j:Int)<(l.length:Int))=true:=decide_eq_true (by omega)
   obtain⟨b,o,hA,hS,q0,q1,q2,q3,q4⟩:=(HR.out.below eO).at j aI;simp only at hA;subst hA;have gH:=hS.2;have eW:=HA.out _ (abw aI);have HC:=sh fun(W:AI)=>Ls leaf l[j] W eW;have O6:(Nd.tail leaf (l.take j)).length=t.size:=by rw[<-HT.out];rfl
   have QU:IntKind.u64.wrap (2+2*(l.length:Int)+(t.size:Int))=2+2*(l.length:Int)+(t.size:Int):=by
    have:=wrap_u64 (2+2*l.length+t.size) (by omega);simpa using this
   have HP:=sh fun(W:AI)=>(show aag prog 160 #[.string s,.int .u64 (2+2*(l.length:Int)+(t.size:Int)),.int .i64 2] W (cU (s++⟨(Be.low (2+2*l.length+t.size) 2).toArray⟩) 0 W)by
    have:=gR s (2+2*l.length+t.size) 2 W (by omega) (by omega) (by omega) (by omega);simpa using this)
   obtain⟨s',V1⟩:∃s':ByteArray,s'=s++⟨(Be.low (2+2*l.length+t.size) 2).toArray⟩:=⟨_,rfl⟩;rw[<-V1]at HP;have HS':=sh (show s'.data.toList=Be.low l.length 2++Nd.slots leaf l (2+2*l.length) (j+1)by
    rw[V1,aS,HS.out,oX,Nd.slots,O6,OF])
   have abd:s'.size=2+2*(j+1):=by rw[<-bY,HS'.out,BY,Be.aq,Nd.gi]
   obtain⟨d,hd⟩:∃d:ByteArray,d=⟨(Nd.bytes leaf l[j]).toArray⟩:=⟨_,rfl⟩;have HTN:=sh (show (t++d).data.toList=Nd.tail leaf (l.take (j+1))by
    rw[aS,HT.out,hd,aaT aI,Nd.py];simp[Nd.tail])
   have ri:(t++d).size<=486:=by
    have:=CK.out (j+1);have h9:=vX.out;rw[<-bY,HTN.out];omega
   have km:¬ 9223372036854775807<t.size+d.size:=by rw[acj]at ri;omega
   rw[<-hd]at HC;obtain⟨x,hx⟩:∃x,x=l[j]:=⟨_,rfl⟩;rw[<-hx]at HC q0 q1 q2 q3 q4;clear hS hx eO eW V1 hd O6;go_wp2_with fail
   (go_at_call 160)
   refine(HP.out _).mono ?_;rintro e w4 ⟨rfl,b7⟩;obtain⟨p0,p1,p2,p3,p4,l4,j6,-⟩:=bN b7;have G7:=sh (fO.out.trans (j6.mono fO.out.size));clear b7 j6;go_wp2_with fail
   (go_at_call 269)
   refine(HC.out _).mono ?_;rintro e w5 ⟨rfl,dO⟩;have HN5:=sh (G7.out.trans (dO.mono G7.out.size));clear dO;go_wp2_with fail
   go_roundw
   case rel=>first|exact⟨j+1,s',t++d,by go_num,rfl,rfl,by omega,abd,ri,HS',HTN,HN5.out⟩|((repeat apply acD);exact⟨⟨j+1,s',t++d,by go_num,rfl,rfl,by omega,abd,ri,HS',HTN,HN5.out⟩,rfl⟩)
   case measure=>simp[intOf];omega
  ·have z1:decide ((j:Int)<(l.length:Int))=false:=decide_eq_false (by omega)
   obtain rfl:j=l.length:=by omega
   have HV:=sh (show (⟨(Nd.enc leaf l).toArray⟩:ByteArray)=s++t by
    apply oW;rw[aS,HS.out,HT.out,acB];rfl)
   have km:¬ 9223372036854775807<s.size+t.size:=by omega
   clear eO;go_wp2_with fail
   go_ret2
   exact uA HV.out fO.out
def ga (s:ByteArray) (p:Nat) (l:List UInt8):Prop:=p+l.length<=s.size/\(s.data.toList.drop p).take l.length=l
theorem ga.left{s:ByteArray}{p:Nat}{a b:List UInt8}(h:ga s p (a++b)):ga s p a:=by
 obtain⟨h1,h2⟩:=h;rw[BY]at h1 h2;refine⟨by omega,?_⟩;have:=congrArg (List.take a.length) h2;rw[List.take_take,Nat.min_eq_left (by omega),adG]at this;exact this
theorem ga.right{s:ByteArray}{p:Nat}{a b:List UInt8}(h:ga s p (a++b)):ga s (p+a.length) b:=by
 obtain⟨h1,h2⟩:=h;rw[BY]at h1 h2;refine⟨by omega,?_⟩;have:=congrArg (List.drop a.length) h2;rw[List.drop_take,afO,agB]at this;rw[show a.length+b.length-a.length=b.length by omega]at this;exact this
theorem ga.num{s:ByteArray}{p n k:Nat}(h:ga s p (Be.low n k))(hn:n<256 ^ k):ai s p k=n:=by
 obtain⟨h1,h2⟩:=h;rw[Be.aq]at h2;unfold ai;rw[h2,Be.cq n k hn]
theorem ga.text{s t:ByteArray}{p:Nat}(h:ga s p t.data.toList):s.extract p (p+t.size)=t:=by
 obtain⟨h1,h2⟩:=h;apply oW;rw[cV,show p+t.size-p=t.size by omega];exact h2
theorem ga.EI{s:ByteArray}{a b c:List UInt8}(h:s.data.toList=a++(b++c)):ga s a.length b:=by
 have hl:=congrArg List.length h;rw[bY,BY,BY]at hl;refine⟨by omega,?_⟩;rw[h,afO,adG]
theorem zO(s:ByteArray)(n:Nat)(w:AI)(hs:s.size<=1000)(hn:ai s 0 2=n)(h2:2*n+2<=s.size):aag prog 233 #[.string s] w (dF n w):=by
 have H:=sh fun(W:AI)=>(show aag prog 120 #[.string s,.int .i64 0,.int .i64 2] W (fB n W)by rw[<-hn];exact fK s 0 2 W (by omega) (by omega) (by omega) (by omega));have hw:=wrap_i64 n (by omega);have k1:decide ((s.size:Int)/2-1<(n:Int))=false:=decide_eq_false (by omega);clear hn;go_enter func233,ntmps233
 go_wp2_with (first
  | (go_at_call 120;go_must (refine(H.out _).mono ?_);rintro e w1 ⟨rfl,ar⟩)
  | fail)
 go_ret
 exact⟨rfl,ar⟩
def xY (c:Ce) (w:AI) (e:Ending) (w':AI):Prop:=e= .returned (.tuple #[.agg #[.string c.key,.string c.val,.int .i64 c.over,.int .i64 c.size,.int .i64 c.child],.bool true])/\No w.heap.size w w'
abbrev wm:Obj:= .cells #[.string ⟨#[]⟩,.string ⟨#[]⟩,.int .i64 0,.int .i64 0,.int .i64 0] 170
theorem qJ{w w2:AI}(hb:No ((w.alloc wm).alloc wm).heap.size ((w.alloc wm).alloc wm) w2):
  Bk w2 w.heap.size 170 #[.string ⟨#[]⟩,.string ⟨#[]⟩,.int .i64 0,.int .i64 0,.int .i64 0]/\Bk w2 (w.heap.size+1) 170 #[.string ⟨#[]⟩,.string ⟨#[]⟩,.int .i64 0,.int .i64 0,.int .i64 0]/\No w.heap.size w w2:=by
 refine⟨af ((Bk.new w _ _).alloc _) hb,?_,(((IN _ w).alloc (AS _) _).alloc (by simp) _).trans (hb.mono (by simp;omega))⟩;have h:=Bk.new (w.alloc wm) 170 #[.string ⟨#[]⟩,.string ⟨#[]⟩,.int .i64 0,.int .i64 0,.int .i64 0];rw[show (w.alloc wm).heap.size=w.heap.size+1 by simp]at h;exact af h hb
theorem vP(s:ByteArray)(p:Nat)(c:Ce)(w:AI)(hs:s.size<=1000)(hr:Nd.cy c=true)(h:ga s p (Nd.bytes false c)):aag prog 261 #[.bool false,.string s,.int .i64 p] w (xY c w):=by
 obtain⟨key,val,over,size,child⟩:=c;unfold Nd.cy at hr;simp only[abM,decide_eq_true_eq,beq_iff_eq]at hr;obtain⟨⟨⟨⟨⟨h1,h2⟩,h3⟩,h4⟩,rfl⟩,rfl⟩:=hr;obtain rfl:=mO h4;unfold Nd.bytes at h;simp only[adh,if_false]at h;have a1:=h.left.left;have a2:=h.left.right;have a3:=h.right;rw[Be.aq]at a2;rw[BY,Be.aq,bY]at a3;have n1:=a1.num (by omega);have n2:=a3.num (by omega);have t1:=a2.text;have b3:=a3.1;rw[Be.aq]at b3;have HT:=sh fun(W:AI)=>me s p key.size W (by omega) (by omega) n1;rw[t1]at HT;have HK:=sh fun(W:AI)=>(show aag prog 120 #[.string s,.int .i64 ((p:Int)+2+key.size),.int .i64 4] W (fB child W)by
  have:=fK s (p+(2+key.size)) 4 W (by omega) (by omega) (by omega) (by omega);rw[n2]at this;rw[show ((p:Int)+2+key.size)=((p+(2+key.size):Nat):Int)by omega];exact this)
 have hw:=wrap_i64 child (by omega);clear h a1 a2 a3 n1 n2 t1 b3 h4 h1 h2;go_enter func261,ntmps261
 go_wp2_with fail
 (go_at_call 280)
 refine(HT.out _).mono ?_;rintro e w1 ⟨rfl,ar⟩;obtain⟨g1,g2,gJ⟩:=qJ ar;have a0:=g1.cell 0;have b0:=g2.cell 0;have c0:=g2.cell 4;have dD:=sh gJ;have XT:=sh g1;have RT:=sh g2;have l1:=g1.lt;have l2:=g2.lt;have f1:=g2.frozen 0;clear g1 g2 gJ ar;go_wp2_with fail
 (go_at_call 120)
 refine(HK.out _).mono ?_;rintro e w2 ⟨rfl,az⟩;have k1:=af (XT.out.zf (p:=⟨w.heap.size+1,0,none⟩) (by simp) (.string key)) az;have k2:=af (RT.out.put 0 (.string key)) az;have fY:=sh ((dD.out.setCell (p:=⟨w.heap.size+1,0,none⟩) (by simp) (.string key)).trans (az.mono (by have:=dD.out.size;simp;omega)));have d0:w2.cell? ⟨w.heap.size+1,0,none⟩=some (.string key):=k2.cell 0;have d1:w2.cell? ⟨w.heap.size+1,1,none⟩=some (.string ⟨#[]⟩):=k2.cell 1;have d2:w2.cell? ⟨w.heap.size+1,2,none⟩=some (.int .i64 0):=k2.cell 2;have d3:w2.cell? ⟨w.heap.size+1,3,none⟩=some (.int .i64 0):=k2.cell 3;have d4:w2.cell? ⟨w.heap.size+1,4,none⟩=some (.int .i64 0):=k2.cell 4;have e0:w2.cell? ⟨w.heap.size,0,none⟩=some (.string ⟨#[]⟩):=k1.cell 0;have e1:w2.cell? ⟨w.heap.size,1,none⟩=some (.string ⟨#[]⟩):=k1.cell 1;have e2:w2.cell? ⟨w.heap.size,2,none⟩=some (.int .i64 0):=k1.cell 2;have e3:w2.cell? ⟨w.heap.size,3,none⟩=some (.int .i64 0):=k1.cell 3;have e4:w2.cell? ⟨w.heap.size,4,none⟩=some (.int .i64 0):=k1.cell 4;have m1:=k1.lt;have m2:=k2.lt;have f4:=k2.frozen 4;have j0:=k1.frozen 0;have j1:=k1.frozen 1;have j2:=k1.frozen 2;have j3:=k1.frozen 3;have j4:=k1.frozen 4;clear a0 b0 c0 l1 l2 f1 az k1 k2;go_wp2_with fail
 refine abT (v:= .tuple #[.agg #[.string key,.string ⟨#[]⟩,.int .i64 0,.int .i64 0,.int .i64 child],.bool true]) (by simp[acN,results261,go_sem,m1,m2,e0,e1,e2,e3,e4]) rfl ⟨rfl,?_⟩;exact(((((fY.out.setCell (p:=⟨w.heap.size+1,4,none⟩) (by simp) _).setCell (p:=⟨w.heap.size,0,none⟩) (AS _) _).setCell (p:=⟨w.heap.size,1,none⟩) (AS _) _).setCell (p:=⟨w.heap.size,2,none⟩) (AS _) _).setCell (p:=⟨w.heap.size,3,none⟩) (AS _) _).setCell (p:=⟨w.heap.size,4,none⟩) (AS _) _
theorem Bk.gz{w:AI}{g:Nat}{t:TypeId}{v0 v1 v2 v3 v4:IS}(h:Bk w g t #[v0,v1,v2,v3,v4]):w.cell? ⟨g,0,none⟩=some v0/\w.cell? ⟨g,1,none⟩=some v1/\w.cell? ⟨g,2,none⟩=some v2/\w.cell? ⟨g,3,none⟩=some v3/\w.cell? ⟨g,4,none⟩=some v4/\
  w.frozen? ⟨g,0,none⟩=false/\w.frozen? ⟨g,1,none⟩=false/\w.frozen? ⟨g,2,none⟩=false/\w.frozen? ⟨g,3,none⟩=false/\w.frozen? ⟨g,4,none⟩=false/\g<w.heap.size:=
 ⟨h.cell 0,h.cell 1,h.cell 2,h.cell 3,h.cell 4,h.frozen 0,h.frozen 1,h.frozen 2,h.frozen 3,h.frozen 4,h.lt⟩
theorem Cx(s:ByteArray)(p:Nat)(c:Ce)(w:AI)(hs:s.size<=1000)(hr:Nd.aY c=true)(h:ga s p (Nd.bytes true c)):aag prog 261 #[.bool true,.string s,.int .i64 p] w (xY c w):=by
 obtain⟨key,val,over,size,child⟩:=c;unfold Nd.aY at hr;simp only[abM,decide_eq_true_eq,beq_iff_eq]at hr;obtain⟨⟨⟨h1,h2⟩,rfl⟩,h4⟩:=hr;unfold Nd.bytes at h;simp only[if_true]at h;have a1:=h.left.left;have a2:=h.left.right;have a3:=h.right;rw[Be.aq]at a2;rw[BY,Be.aq,bY]at a3;have n1:=a1.num (by omega);have t1:=a2.text;have b2:=a2.1;rw[bY]at b2;have HT:=sh fun(W:AI)=>me s p key.size W (by omega) (by omega) n1;rw[t1]at HT;clear h a1 a2 n1 t1;by_cases ho:over=0
 ·subst ho
  rw[if_pos rfl]at h4;simp only[abM,decide_eq_true_eq,beq_iff_eq]at h4;obtain⟨rfl,h5⟩:=h4;rw[if_neg (by omega)]at a3;have c1:ga s (p+(2+key.size)) (Be.low 0 1):=(show ga s (p+(2+key.size)) (Be.low 0 1++(Be.low val.size 2++val.data.toList)) from a3).left;have c2:=(show ga s (p+(2+key.size)) (Be.low 0 1++(Be.low val.size 2++val.data.toList)) from a3).right;rw[Be.aq]at c2;have c3:=c2.left;have c4:=c2.right;rw[Be.aq]at c4;have n2:=c1.num (by omega);have n3:=c3.num (by omega);have t2:=c4.text;have b4:=c4.1;rw[bY]at b4;have HK:=sh fun(W:AI)=>(show aag prog 120 #[.string s,.int .i64 ((p:Int)+2+key.size),.int .i64 1] W (fB 0 W)by
   have:=fK s (p+(2+key.size)) 1 W (by omega) (by omega) (by omega) (by omega);rw[n2]at this;rw[show ((p:Int)+2+key.size)=((p+(2+key.size):Nat):Int)by omega];exact this)
  have HT2:=sh fun(W:AI)=>(show aag prog 280 #[.string s,.int .i64 ((p:Int)+2+key.size+1)] W (fun e w'=>(∃n:Int,e= .returned (.tuple #[.string val,.int .i64 n,.int .i64 0]))/\No W.heap.size W w')by
   have:=me s (p+(2+key.size)+1) val.size W (by omega) (by omega) n3;rw[show p+(2+key.size)+1+2+val.size=p+(2+key.size)+1+2+val.size from rfl,t2]at this;rw[show ((p:Int)+2+key.size+1)=((p+(2+key.size)+1:Nat):Int)by omega];exact this.mono fun e w' ⟨h1,h2⟩=>⟨⟨_,h1⟩,h2⟩)
  have hpi:¬ 9223372036854775807<(p:Int)+2+key.size+1:=by omega
  clear a3 c1 c2 c3 c4 n2 n3 t2 h1 h2 h5;go_enter func261,ntmps261
  go_wp2_with fail
  (go_at_call 280)
  refine(HT.out _).mono ?_;rintro e w1 ⟨rfl,ar⟩;obtain⟨g1,g2,gJ⟩:=qJ ar;have dD:=sh gJ;have XT:=sh g1;have RT:=sh g2;obtain⟨x0,x1,x2,x3,x4,y0,y1,y2,y3,y4,x5⟩:=g2.gz;clear g1 g2 gJ ar;go_wp2_with fail
  (go_at_call 120)
  refine(HK.out _).mono ?_;rintro e w2 ⟨rfl,az⟩;have k1:=af (XT.out.zf (p:=⟨w.heap.size+1,0,none⟩) (by simp) (.string key)) az;have k2:=af (RT.out.put 0 (.string key)) az;have fY:=sh ((dD.out.setCell (p:=⟨w.heap.size+1,0,none⟩) (by simp) (.string key)).trans (az.mono (by have:=dD.out.size;simp;omega)));have FC:=sh k1;have sf:=sh k2;clear az k1 k2 x0 x1 x2 x3 x4 x5 y0 y1 y2 y3 y4;go_wp2_with fail
  (go_at_call 280)
  refine(HT2.out _).mono ?_;rintro e w3 ⟨⟨nz,rfl⟩,aQ⟩;have k1:=af FC.out aQ;have k2:=af sf.out aQ;have dN:=sh (fY.out.trans (aQ.mono fY.out.size));obtain⟨x0,x1,x2,x3,x4,y0,y1,y2,y3,y4,x5⟩:=(show Bk w3 (w.heap.size+1) 170 #[.string key,.string ⟨#[]⟩,.int .i64 0,.int .i64 0,.int .i64 0] from k2).gz;obtain⟨u0,u1,u2,u3,u4,v0,v1,v2,v3,v4,u5⟩:=k1.gz;clear aQ k1 k2;go_wp2_with fail
  refine abT (v:= .tuple #[.agg #[.string key,.string val,.int .i64 0,.int .i64 0,.int .i64 0],.bool true]) (by simp[acN,results261,go_sem,x0,x1,x2,x3,x4,u0,u1,u2,u3,u4,x5,u5]) rfl ⟨rfl,?_⟩;exact(((((dN.out.setCell (p:=⟨w.heap.size+1,1,none⟩) (by simp) _).setCell (p:=⟨w.heap.size,0,none⟩) (AS _) _).setCell (p:=⟨w.heap.size,1,none⟩) (AS _) _).setCell (p:=⟨w.heap.size,2,none⟩) (AS _) _).setCell (p:=⟨w.heap.size,3,none⟩) (AS _) _).setCell (p:=⟨w.heap.size,4,none⟩) (AS _) _
 ·rw[if_neg ho]at h4
  simp only[abM,decide_eq_true_eq,beq_iff_eq]at h4;obtain⟨⟨⟨h5,h6⟩,h7⟩,h8⟩:=h4;obtain rfl:=mO h5;rw[if_pos (by omega)]at a3;have c1:ga s (p+(2+key.size)) (Be.low 1 1):=(show ga s (p+(2+key.size)) (Be.low 1 1++(Be.low over 4++Be.low size 4)) from a3).left;have c2:=(show ga s (p+(2+key.size)) (Be.low 1 1++(Be.low over 4++Be.low size 4)) from a3).right;rw[Be.aq]at c2;have c3:=c2.left;have c4:=c2.right;rw[Be.aq]at c4;have n2:=c1.num (by omega);have n3:=c3.num (by omega);have n4:=c4.num (by omega);have b4:=c4.1;rw[Be.aq]at b4;have HK:=sh fun(W:AI)=>(show aag prog 120 #[.string s,.int .i64 ((p:Int)+2+key.size),.int .i64 1] W (fB 1 W)by
   have:=fK s (p+(2+key.size)) 1 W (by omega) (by omega) (by omega) (by omega);rw[n2]at this;rw[show ((p:Int)+2+key.size)=((p+(2+key.size):Nat):Int)by omega];exact this)
  have sf:=sh fun(W:AI)=>(show aag prog 120 #[.string s,.int .i64 ((p:Int)+2+key.size+1),.int .i64 4] W (fB over W)by
   have:=fK s (p+(2+key.size)+1) 4 W (by omega) (by omega) (by omega) (by omega);rw[n3]at this;rw[show ((p:Int)+2+key.size+1)=((p+(2+key.size)+1:Nat):Int)by omega];exact this)
  have vW:=sh fun(W:AI)=>(show aag prog 120 #[.string s,.int .i64 ((p:Int)+2+key.size+5),.int .i64 4] W (fB size W)by
   have:=fK s (p+(2+key.size)+1+4) 4 W (by omega) (by omega) (by omega) (by omega);rw[n4]at this;rw[show ((p:Int)+2+key.size+5)=((p+(2+key.size)+1+4:Nat):Int)by omega];exact this)
  have hw:=wrap_i64 over (by omega);have QU:=wrap_i64 size (by omega);clear a3 c1 c2 c3 c4 n2 n3 n4 h1 h2 h5 h6 h7 h8 ho;go_enter func261,ntmps261
  go_wp2_with fail
  (go_at_call 280)
  refine(HT.out _).mono ?_;rintro e w1 ⟨rfl,ar⟩;obtain⟨g1,g2,gJ⟩:=qJ ar;have dD:=sh gJ;have XT:=sh g1;have RT:=sh g2;obtain⟨x0,x1,x2,x3,x4,y0,y1,y2,y3,y4,x5⟩:=g2.gz;clear g1 g2 gJ ar;go_wp2_with fail
  (go_at_call 120)
  refine(HK.out _).mono ?_;rintro e w2 ⟨rfl,az⟩;have k1:=af (XT.out.zf (p:=⟨w.heap.size+1,0,none⟩) (by simp) (.string key)) az;have k2:=af (RT.out.put 0 (.string key)) az;have fY:=sh ((dD.out.setCell (p:=⟨w.heap.size+1,0,none⟩) (by simp) (.string key)).trans (az.mono (by have:=dD.out.size;simp;omega)));have HG3:=sh k1;have HG4:=sh k2;clear az k1 k2 x0 x1 x2 x3 x4 x5 y0 y1 y2 y3 y4;go_wp2_with fail
  (go_at_call 120)
  refine(sf.out _).mono ?_;rintro e w3 ⟨rfl,aQ⟩;have k1:=af HG3.out aQ;have k2:=af HG4.out aQ;have dN:=sh (fY.out.trans (aQ.mono fY.out.size));have HG5:=sh k1;have HG6:=sh k2;clear aQ k1 k2;go_wp2_with fail
  (go_at_call 120)
  refine(vW.out _).mono ?_;rintro e w4 ⟨rfl,b7⟩;have k1:=af HG5.out b7;have k2:=af HG6.out b7;have G7:=sh (dN.out.trans (b7.mono dN.out.size));obtain⟨x0,x1,x2,x3,x4,y0,y1,y2,y3,y4,x5⟩:=(show Bk w4 (w.heap.size+1) 170 #[.string key,.string ⟨#[]⟩,.int .i64 0,.int .i64 0,.int .i64 0] from k2).gz;obtain⟨u0,u1,u2,u3,u4,v0,v1,v2,v3,v4,u5⟩:=k1.gz;clear b7 k1 k2;go_wp2_with fail
  refine abT (v:= .tuple #[.agg #[.string key,.string ⟨#[]⟩,.int .i64 over,.int .i64 size,.int .i64 0],.bool true]) (by simp[acN,results261,go_sem,x0,x1,x2,x3,x4,u0,u1,u2,u3,u4,x5,u5]) rfl ⟨rfl,?_⟩;exact((((((G7.out.setCell (p:=⟨w.heap.size+1,2,none⟩) (by simp) _).setCell (p:=⟨w.heap.size+1,3,none⟩) (by simp) _).setCell (p:=⟨w.heap.size,0,none⟩) (AS _) _).setCell (p:=⟨w.heap.size,1,none⟩) (AS _) _).setCell (p:=⟨w.heap.size,2,none⟩) (AS _) _).setCell (p:=⟨w.heap.size,3,none⟩) (AS _) _).setCell (p:=⟨w.heap.size,4,none⟩) (AS _) _
namespace Nd
def str (leaf:Bool) (l:List Ce):ByteArray:=⟨(enc leaf l).toArray⟩
theorem dS(leaf:Bool)(l:List Ce):(str leaf l).size=sum leaf l:=by
 show (enc leaf l).toArray.size=_;rw[List.size_toArray,P6]
theorem sE(leaf:Bool)(l:List Ce):2+2*l.length+(tail leaf l).length=sum leaf l:=by
 have:=pz leaf l;unfold sum;omega
theorem xy(leaf:Bool)(l:List Ce)(h:l.length<65536):ai (str leaf l) 0 2=l.length:=by
 have h1:ga (str leaf l) ([]:List UInt8).length (Be.low l.length 2):=ga.EI (c:=slots leaf l (2+2*l.length) l.length++tail leaf l) (by show enc leaf l=_;unfold enc;simp);exact h1.num (by omega)
theorem Oe(leaf:Bool)(l:List Ce)(i:Nat)(h:i<l.length)(hs:sum leaf l<65536):ai (str leaf l) (2+2*i) 2=2+2*l.length+(tail leaf (l.take i)).length:=by
 have fF:=gi leaf l (2+2*l.length) l.length;have hg:=xu leaf l (2+2*l.length) l.length i h;have hlen:=sE leaf l;have ey:(tail leaf (l.take i)).length<=(tail leaf l).length:=by
  have e:tail leaf l=tail leaf (l.take i)++tail leaf (l.drop i):=by rw[<-py,abm]
  rw[e,BY];omega
 have h1:ga (str leaf l) (2+2*i) (Be.low (2+2*l.length+(tail leaf (l.take i)).length) 2):=by
  refine⟨by rw[Be.aq,dS];omega,?_⟩;rw[Be.aq];show (List.drop (2+2*i) (enc leaf l)).take 2=_;unfold enc;rw[OF,<-agB,List.drop_left' (by rw[Be.aq]),List.drop_append_of_le_length (by omega),List.take_append_of_le_length (by rw[List.length_drop];omega)];exact hg
 exact h1.num (by omega)
theorem Oc(leaf:Bool)(l:List Ce)(i:Nat)(h:i<l.length):ga (str leaf l) (2+2*l.length+(tail leaf (l.take i)).length) (bytes leaf l[i]):=by
 have e:enc leaf l=(Be.low l.length 2++slots leaf l (2+2*l.length) l.length++tail leaf (l.take i))++(bytes leaf l[i]++tail leaf (l.drop (i+1))):=by
  have:tail leaf l=tail leaf (l.take i)++(bytes leaf l[i]++tail leaf (l.drop (i+1))):=by
   conv=>lhs;rw[<-abm i l,List.drop_eq_getElem_cons h]
   rw[py,tail_cons]
  unfold enc;rw[this];simp only[OF]
 have h1:=ga.EI (s:=str leaf l) e;rw[BY,BY,Be.aq,gi]at h1;exact h1
end Nd
theorem Fp(leaf:Bool)(s:ByteArray)(p:Nat)(c:Ce)(w:AI)(hs:s.size<=1000)(hr:Nd.aP leaf c=true)(h:ga s p (Nd.bytes leaf c)):aag prog 261 #[.bool leaf,.string s,.int .i64 p] w (xY c w):=by
 cases leaf with
 | true=>exact Cx s p c w hs hr h
 | false=>exact vP s p c w hs hr h
theorem DS(leaf:Bool)(l:List Ce)(i:Nat)(w:AI)(hr:Nd.right leaf l=true)(hs:Nd.sum leaf l<=488)(hi:i<l.length):aag prog 236 #[.bool leaf,.string (Nd.str leaf l),.int .i64 i] w (xY l[i] w):=by
 have eW:Nd.aP leaf l[i]=true:=by
  unfold Nd.right at hr;simp only[abM]at hr;exact aeo.1 hr.2.1 _ (abw hi)
 have cZ:=Nd.dS leaf l;have fF:=Nd.Oe leaf l i hi (by omega);have od:=Nd.Oc leaf l i hi;have hlen:=Nd.sE leaf l;obtain⟨s,nS⟩:∃s,s=Nd.str leaf l:=⟨_,rfl⟩;obtain⟨p,hp⟩:∃p,p=2+2*l.length+(Nd.tail leaf (l.take i)).length:=⟨_,rfl⟩;obtain⟨c,hc⟩:∃c,c=l[i]:=⟨_,rfl⟩;rw[<-nS]at cZ fF od |-;rw[<-hp]at fF od;rw[<-hc]at eW od |-;have Ef:=od.1;have HK:=sh fun(W:AI)=>(show aag prog 120 #[.string s,.int .i64 (2+2*(i:Int)),.int .i64 2] W (fB p W)by
  have:=fK s (2+2*i) 2 W (by omega) (by omega) (by omega) (by omega);rw[fF]at this;simpa using this)
 have HU:=sh fun(W:AI)=>Fp leaf s p c W (by omega) eW od;have hw:=wrap_i64 p (by omega);have hib:i<=243:=by omega
 clear nS hp hc fF od eW Ef hr hs cZ hlen hi;go_enter func236,ntmps236
 go_wp2_with fail
 (go_at_call 120)
 refine(HK.out _).mono ?_;rintro e w1 ⟨rfl,ar⟩;obtain⟨-,-,-,-,-,-,gJ,dw⟩:=bN ar;have dD:=sh gJ;have FC:=sh dw;clear ar gJ dw;go_wp2_with fail
 (go_at_call 261)
 refine(HU.out _).mono ?_;rintro e w2 ⟨rfl,az⟩;have k1:=af FC.out az;have fY:=sh (dD.out.trans (az.mono dD.out.size));obtain⟨u0,u1,u2,u3,u4,v0,v1,v2,v3,v4,u5⟩:=k1.gz;clear az k1;go_wp2_with fail
 refine abT (v:= .tuple #[.agg #[.string c.key,.string c.val,.int .i64 c.over,.int .i64 c.size,.int .i64 c.child],.bool true]) (by simp[acN,results236,go_sem,u0,u1,u2,u3,u4,u5]) rfl ⟨rfl,?_⟩;exact((((fY.out.setCell (p:=⟨w.heap.size,0,none⟩) (AS _) _).setCell (p:=⟨w.heap.size,1,none⟩) (AS _) _).setCell (p:=⟨w.heap.size,2,none⟩) (AS _) _).setCell (p:=⟨w.heap.size,3,none⟩) (AS _) _).setCell (p:=⟨w.heap.size,4,none⟩) (AS _) _
def ay (l:List Ce):List IS:=(l.map Ce.eH).flatten
theorem bR(a b:List Ce):ay (a++b)=ay a++ay b:=by simp[ay]
theorem fg(c:Ce):ay [c]=[.string c.key,.string c.val,.int .i64 c.over,.int .i64 c.size,.int .i64 c.child]:=by simp[ay,Ce.eH]
theorem bD(l:List Ce):(ay l).length=l.length*5:=by
 induction l with
 | nil=>rfl
 | cons c l ih=>rw[show c::l=[c]++l from rfl,bR,BY,ih,fg];simp;omega
theorem Ic(l:List Ce)(i:Nat)(h:i<l.length)(j:Nat)(hj:j<5):(ay l)[i*5+j]? =(l[i]).eH[j]? :=by
 unfold ay;exact iZ (l.map Ce.eH) (fun c hc=>by obtain⟨x,-,rfl⟩:=abO.1 hc;rfl) i _ (by rw[acz,List.getElem?_eq_getElem h];rfl) j hj
theorem dW(l:List Ce):∀u∈ay l,u.oneCell'=true:=by
 intro u hu;unfold ay at hu;rw[List.mem_flatten]at hu;obtain⟨c,hc,hu⟩:=hu;obtain⟨x,-,rfl⟩:=abO.1 hc;simp[Ce.eH]at hu;rcases hu with rfl|rfl|rfl|rfl|rfl<;>rfl
def aZ (w:AI) (B:Nat) (v:IS) (l:List Ce):Prop:=w.ownsRow B 170 5 v l.length (ay l)
theorem aZ.row{w:AI}{B:Nat}{v:IS}{l:List Ce}(h:aZ w B v l):∃r:Rw,v= .slice r.A r.n r.c/\aV w (fun b=>B<=b) r l:=by
 have hg:GZ 170 5 GX w B v l:=⟨l.map Ce.eH,by simp,fun c hc=>by obtain⟨x,-,rfl⟩:=abO.1 hc;rfl,h,fun i d c hd hc=>by
  rw[acz,hd]at hc;have:=adW hc;unfold GX;exact this.symm⟩
 exact hg.row lC
theorem aZ.below{w w':AI}{B:Nat}{v:IS}{l:List Ce}(h:aZ w B v l)(hb:No w.heap.size w w'):aZ w' B v l:=(ah.ae hb []).own h (by simp)
theorem dX:(prog.info? 170).map (fun i=>(i.zero,i.size,i.bytes))=some (some (.agg #[.string aca,.string aca,.int .i64 0,.int .i64 0,.int .i64 0]),5,56):=by kernel_rfl
def UE (l:List Ce) (w:AI) (e:Ending) (w':AI):Prop:=No w.heap.size w w'/\∃(A:Option Addr) (c:Nat),e= .returned (.tuple #[.slice A l.length c,.int .i64 0])/\aZ w' w.heap.size (.slice A l.length c) l
theorem pW(leaf:Bool)(l:List Ce)(w:AI)(hr:Nd.right leaf l=true)(hs:Nd.sum leaf l<=488):aag prog 232 #[.bool leaf,.string (Nd.str leaf l)] w (UE l w):=by
 obtain⟨i0,hi,ef,dK,dY⟩:=info_parts dX;have cZ:=Nd.dS leaf l;have hlen:=Nd.sE leaf l;have Qq:=Nd.xy leaf l (by omega);have HC:=sh fun(W:AI)=>zO (Nd.str leaf l) l.length W (by omega) Qq (by omega);have HG:=sh fun(i:Nat) (hi:i<l.length) (W:AI)=>DS leaf l i W hr hs hi;have HE:=sh fun(r:Rw) (S:Nat->Prop) (W:AI) (h:aV W S r l)=>(show aag prog 251 #[.bool leaf,.slice r.A r.n r.c] W (cU (Nd.str leaf l) 0 W) from s6 leaf r l S W h hr hs);obtain⟨s,nS⟩:∃s,s=Nd.str leaf l:=⟨_,rfl⟩;rw[<-nS]at HC HG HE |-;have CW:l.length<=243:=by omega
 clear nS cZ hlen Qq hr hs;go_enter func232,ntmps232
 go_wp2_with (first
  | (go_at_call 233;go_must (refine(HC.out _).mono ?_);rintro e w1 ⟨rfl,ar⟩;have dD:=sh ar;clear ar)
  | fail)
 go_loopw [6,14] (fun u i wr=>∃(j:Nat) (A:Option Addr) (c:Nat),i= .int .i64 j/\u= .slice A j c/\j<=l.length/\aZ wr w.heap.size (.slice A j c) (l.take j)/\No w.heap.size w wr) (fun _ i _=>l.length-(intOf i).toNat)
 case atStart=>exact⟨0,none,0,rfl,rfl,abc _,World.ownsRow_nil _ _ _ _,dD.out⟩
 case round=>
  obtain⟨j,A,c,rfl,rfl,hj,how,eO⟩:=hrel;have fO:=sh eO;have sL:=sh how;by_cases aI:j<l.length
  ·have z1:decide ((j:Int)<(l.length:Int))=true:=decide_eq_true (by omega)
   have HGJ:=sh fun(W:AI)=>HG.out j aI W;have HT:=sh (aaT aI);obtain⟨x,hx⟩:∃x,x=l[j]:=⟨_,rfl⟩;rw[<-hx]at HGJ HT;clear how eO hx;go_wp2_with fail
   (go_at_call 236)
   refine(HGJ.out _).mono ?_;rintro e w2 ⟨rfl,az⟩;have fY:=sh (fO.out.trans (az.mono fO.out.size));have bf:=sL.out.below az;unfold aZ at bf;rw[show (l.take j).length=j by rw[abv];omega]at bf;have gW:=sh bf;have vz:=fY.out.size;clear az bf;have hnw:((w2.alloc (.cells #[.string x.key,.string x.val,.int .i64 x.over,.int .i64 x.size,.int .i64 x.child] 170)).alloc (.cells #[.string x.key,.string x.val,.int .i64 x.over,.int .i64 x.size,.int .i64 x.child] 170)).heap[w2.heap.size+1]? =some (.cells #[.string x.key,.string x.val,.int .i64 x.over,.int .i64 x.size,.int .i64 x.child] 170):=by
    have h:=heap_alloc_new (w2.alloc (.cells #[.string x.key,.string x.val,.int .i64 x.over,.int .i64 x.size,.int .i64 x.child] 170)) (.cells #[.string x.key,.string x.val,.int .i64 x.over,.int .i64 x.size,.int .i64 x.child] 170)
    rwa [show (w2.alloc (.cells #[.string x.key,.string x.val,.int .i64 x.over,.int .i64 x.size,.int .i64 x.child] 170)).heap.size=w2.heap.size+1 by simp]at h
   have Ub:=sh hnw;clear hnw;go_wp2_with (at_builtin;refine wpList_append_lies _ rfl (.tmp 26) (.tmp 28) 174 rfl w.heap.size 170 i0 _ 5 56 underlying174 hi ef dK dY rfl (by omega) (.slice A j c) j (ay (l.take j)) rfl ((gW.out.alloc _).alloc _) ⟨w2.heap.size+1,0,none⟩ 1 1 [.string x.key,.string x.val,.int .i64 x.over,.int .i64 x.size,.int .i64 x.child] rfl rfl (World.news_of_block (cs:= #[.string x.key,.string x.val,.int .i64 x.over,.int .i64 x.size,.int .i64 x.child]) Ub.out) (by simp[Value.oneCell']) (by omega) (by unfold maxLen;omega) (by omega) (by simp;omega) (w2.heap.size+2) (by simp) ?_;intro gg gA w3 aw aF df tB)
   have dN:=sh (((ah.ae (((fY.out.alloc fY.out.size (.cells #[.string x.key,.string x.val,.int .i64 x.over,.int .i64 x.size,.int .i64 x.child] 170)).alloc (by simp;omega) (.cells #[.string x.key,.string x.val,.int .i64 x.over,.int .i64 x.size,.int .i64 x.child] 170))) []).grown aF (fun g hg=> .inr (gW.out.lt g hg).1)).below (AS _) (by simp));have jZ:=sh (show aZ w3 w.heap.size (.slice (some ⟨gg,0,none⟩) (j+1) gA) (l.take (j+1))by
    unfold aZ;rw[show (l.take (j+1)).length=j+1 by rw[abv];omega,HT.out,bR,fg];exact aw)
   clear aw aF df;go_roundw
   case rel=>first|exact⟨j+1,_,_,by go_num,rfl,by omega,jZ.out,dN.out⟩|((repeat apply acD);exact⟨⟨j+1,_,_,by go_num,rfl,by omega,jZ.out,dN.out⟩,rfl⟩)
   case measure=>simp[intOf];omega
  ·have z1:decide ((j:Int)<(l.length:Int))=false:=decide_eq_false (by omega)
   obtain rfl:j=l.length:=by omega
   rw[acB]at sL;obtain⟨r,Gk,qh⟩:=sL.out.row;obtain⟨rA,rn,rc⟩:=r;simp only at Gk;injection Gk with q1 q2 q3;subst q1 q2 q3;have HCR:=sh qh;have heq:(s.toList==s.toList)=true:=by simp
   have bL:(s.toList != s.toList)=false:=by simp
   clear how eO qh;go_wp2_with (first
    | (go_at_call 251;go_must (refine(HE.out ⟨A,l.length,c⟩ _ _ HCR.out).mono ?_);rintro e w3 ⟨rfl,aQ⟩;have dN:=sh (fO.out.trans (aQ.mono fO.out.size));have jZ:=sh (sL.out.below aQ);clear aQ)
    | fail)
   go_ret2
   exact⟨dN.out,A,c,rfl,jZ.out⟩
end Go.Proofs.YtjbcbnemdhbhbaaGreatDoor
