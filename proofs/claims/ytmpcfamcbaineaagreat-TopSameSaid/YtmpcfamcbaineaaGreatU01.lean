/- Part 1 of the proof of the row of the law TopSame: contracts of what it reaches, and the plain law. No condition. -/
import Derived.Test.YtmpcfamcbaineaaGreatRows
import Derived.ArgAppend
import Derived.Below
import Derived.BigQuiet
import Derived.BigRegion
import Derived.ChangeOld
import Derived.ChangeSlices
import Derived.Deep.AppendLies
import Derived.Deep.CutBlock
import Derived.Deep.DeepCutAuto
import Derived.Deep.Draws
import Derived.Deep.LoopGhost
import Derived.Deep.OwnRows
import Derived.Deep.QuietTactic
import Derived.Deep.RegionHeld3
import Derived.Deep.RegionLaw
import Derived.Deep.Upon
import Derived.KernelRfl
import Derived.Laws.AppendOwn
import Derived.Laws.BitsLemmas
import Derived.Laws.BytesArg
import Derived.Laws.IdiomCopy
import Derived.Laws.MakeOwn
import Derived.Laws.OwnMore
import Derived.Laws.Rows
import Derived.Laws.Slices
import Derived.Lib.AppendStr
import Derived.Lib.ConvBytes
import Derived.MapKept
import Derived.Maps.AppendAt
import Derived.OpenShut
import Derived.OrdersHeld
import Derived.OrdersIn
import Derived.Outline
import Derived.OwnWalk
import Derived.ProofKit
import Derived.RangeFuncIn
import Derived.RangeFuncRecord
import Derived.RowKit
import Derived.RowKit3
import Derived.ShutString
import Derived.SizedLaws
import Derived.Tactics
import Derived.WalkKit
import Derived.WideLaws
set_option linter.all false
set_option maxHeartbeats 8000000
set_option maxRecDepth 100000
open Go.RowKit
namespace Go.Proofs.YtmpcfamcbaineaaGreat.Mo
variable{b n i t:Nat}{w w':World}{v:Value}
theorem nH{A0 A1:Type _}{a0 b0:A0}{a1 b1:A1}(h:(a0,a1)=(b0,b1)):a0=b0∧a1=b1:=by
 cases h;exact⟨rfl,rfl⟩
theorem TL{A0 A1 A2:Type _}{a0 b0:A0}{a1 b1:A1}{a2 b2:A2}(h:(a0,a1,a2)=(b0,b1,b2)):a0=b0∧a1=b1∧a2=b2:=by
 cases h;exact⟨rfl,rfl,rfl⟩
theorem MR{A0 A1 A2 A3:Type _}{a0 b0:A0}{a1 b1:A1}{a2 b2:A2}{a3 b3:A3}(h:(a0,a1,a2,a3)=(b0,b1,b2,b3)):a0=b0∧a1=b1∧a2=b2∧a3=b3:=by
 cases h;exact⟨rfl,rfl,rfl,rfl⟩
theorem tW{A0 A1 A2 A3 A4:Type _}{a0 b0:A0}{a1 b1:A1}{a2 b2:A2}{a3 b3:A3}{a4 b4:A4}(h:(a0,a1,a2,a3,a4)=(b0,b1,b2,b3,b4)):a0=b0∧a1=b1∧a2=b2∧a3=b3∧a4=b4:=by
 cases h;exact⟨rfl,rfl,rfl,rfl,rfl⟩
theorem mk2{A0 A1:Type _}{a0 b0:A0}{a1 b1:A1}(h0:a0=b0)(h1:a1=b1):(a0,a1)=(b0,b1):=by
 cases h0;cases h1;rfl
theorem yU{A0 A1 A2:Type _}{a0 b0:A0}{a1 b1:A1}{a2 b2:A2}(h0:a0=b0)(h1:a1=b1)(h2:a2=b2):(a0,a1,a2)=(b0,b1,b2):=by
 cases h0;cases h1;cases h2;rfl
theorem A9{A0 A1 A2 A3:Type _}{a0 b0:A0}{a1 b1:A1}{a2 b2:A2}{a3 b3:A3}(h0:a0=b0)(h1:a1=b1)(h2:a2=b2)(h3:a3=b3):(a0,a1,a2,a3)=(b0,b1,b2,b3):=by
 cases h0;cases h1;cases h2;cases h3;rfl
theorem mk5{A0 A1 A2 A3 A4:Type _}{a0 b0:A0}{a1 b1:A1}{a2 b2:A2}{a3 b3:A3}{a4 b4:A4}(h0:a0=b0)(h1:a1=b1)(h2:a2=b2)(h3:a3=b3)(h4:a4=b4):(a0,a1,a2,a3,a4)=(b0,b1,b2,b3,b4):=by
 cases h0;cases h1;cases h2;cases h3;cases h4;rfl
theorem Fb{A B:Type _}{a b:A}{c d:B}(h:(a,c)=(b,d)):a=b∧c=d:=by
  cases h;exact⟨rfl,rfl⟩
theorem QR{A B:Type _}{a b:A}{c d:B}(h:a=b)(k:c=d):(a,c)=(b,d):=by
  rw[h,k]
theorem own_move{w1:World}{DX:Nat}{e:TypeId}{size:Nat}{xs:List Value}(h:w.ownsRow DX e size v n xs)(hm: ∀k,v.ownBlock=some k→w1.heap[k]?=w.heap[k]?):w1.ownsRow DX e size v n xs:=by
 obtain⟨h1,h2⟩:=h;refine⟨h1,?_⟩;rcases h2 with h2|⟨g,cap,cur,rfl,hg,hh,r⟩
 ·exact .inl h2
 exact .inr ⟨g,cap,cur,rfl,hg,(hm g (by simp[Value.ownBlock])).trans hh,r⟩
theorem Z{α:Sort _}{a:α}:a=a:=rfl
abbrev nf:Nat→Bool:=fun _=>false
abbrev ct(l:List Nat):Nat→Bool:=fun i=>l.contains i
structure Aside0 (p:Prop):Prop where mk::(out:p)
theorem below_alloc{W:World}(h:Below w.heap.size w W)(o:Obj):Below w.heap.size w (W.alloc o):=h.alloc h.size o
def Hm(x:Int):Int:=x % 18446744073709551616
def NR(x:Int):Int:=x % 4294967296
def hi(w:Int):Int:=w/4294967296
def lo(w:Int):Int:=w % 4294967296
def pair(h l:Int):Int:=h*4294967296+l
def Bg(w l:Int):Int:=pair (NR (hi w+1)) l
def QN(a b:Int):Int:=if Hm (a-b)<9223372036854775808 then Hm (a-b) else Hm (a-b)-18446744073709551616
def EZ(Ah phase:Int):Int:=Hm (Ah*8)+phase
abbrev Dk:=List Int
def QS(l:Dk)(a:Int):Prop:=0≤a∧a<l.length
instance (l:Dk) (a:Int):Decidable (QS l a):=inferInstanceAs (Decidable (_∧_))
def ld(l:Dk)(a:Int):Int:=if QS l a then l.getD a.toNat 0 else 0
def put(l:Dk)(a v:Int):Dk:=if QS l a then l.set a.toNat v else l
def KX(l:Dk)(a old:Int):Bool:=decide (QS l a∧ld l a=old)
def KL(l:Dk)(a old v:Int):Dk:=if KX l a old=true then put l a v else l
def XG(l:Dk)(a n:Int):Dk:=put l a (Hm (ld l a+n))
structure Bz where
 Jq:Int
 head:Int
 Iu:Int
 Gi:Int
 DW:Int
 nodes:Int
 Bq:Int
 parts:Int
 all:Int
 k0:Int
 k1:Int
 k2:Int
 k3:Int
 k4:Int
 Ai:Int
 Ak:Int
 BK:Int
 EE:Int
 CQ:Int
 Af:Int
 AO:Int
 at_:List Int
 BM:List Int
structure Bz.Ok (M:Bz):Prop where
 Jq:0≤M.Jq∧M.Jq≤100000
 head:0≤M.head∧M.head≤100000
 Iu:0≤M.Iu∧M.Iu≤100000
 Gi:0≤M.Gi∧M.Gi≤100000
 Bq:0≤M.Bq∧M.Bq≤100000
 parts:0≤M.parts∧M.parts≤100000
 kk:(0≤M.k0∧M.k0≤12)∧(0≤M.k1∧M.k1≤12)∧(0≤M.k2∧M.k2≤12)∧(0≤M.k3∧M.k3≤12)∧(0≤M.k4∧M.k4≤12)
 Ai:1≤M.Ai∧M.Ai≤4
 Ak:1≤M.Ak∧M.Ak≤4
 BK:2≤M.BK∧M.BK≤8
 EE:1≤M.EE∧M.EE≤16
 CQ:1≤M.CQ∧M.CQ≤4
 Af:1≤M.Af∧M.Af≤8
 AO:1≤M.AO∧M.AO≤16
 nodes:1≤M.nodes∧M.nodes≤60
 at_:M.at_.length=M.nodes.toNat
 BM:M.BM.length=M.nodes.toNat
 ats: ∀i,0≤M.at_.getD i 0∧M.at_.getD i 0≤100000
 t7: ∀i,i<M.nodes.toNat→1≤M.BM.getD i 0∧M.BM.getD i 0≤16
namespace Bz
variable(M:Bz)
def O8(i:Int):Int:=if i<0∨i≥M.Ak then -1 else M.Jq+i
def Eg(k:Int):Int:=if k<0∨k≥5 then -1 else M.head+k
def Ja(i j:Int):Int:=if i<0∨i≥M.Ai then -1 else M.Iu+i*(2+M.BK)+j
def BI(p j:Int):Int:=if p<1∨p>M.Bq then -1 else M.Gi+(p-1)*6+j
def VM(i:Int):Int:=M.Ja i 0
def IZ(i:Int):Int:=M.Ja i 1
def IJ(i j:Int):Int:=if j<0∨j≥M.BK then -1 else M.Ja i (2+j)
def FZ(p:Int):Int:=M.BI p 0
def FI(p:Int):Int:=M.BI p 1
def Gp(p j:Int):Int:=if j<0∨j≥4 then -1 else M.BI p (2+j)
def CU(v:Int):Int:=if v<1∨v>M.nodes then 0 else M.BM.getD (v-1).toNat 0
def node(v j:Int):Int:=if M.CU v=0 then -1 else M.at_.getD (v-1).toNat 0+j
def D7(v:Int):Int:=M.node v 0
def DK(v:Int):Int:=M.node v 1
def Mark(v:Int):Int:=M.node v 2
def Next(v:Int):Int:=M.node v 3
def H8(v i:Int):Int:=if i<0∨i≥M.CU v then -1 else M.node v (4+i)
def Ew(v:Int):Int:=
 if v<1 then -1 else if v≤M.k0 then 0 else if v-M.k0≤M.k1 then 1 else if v-M.k0-M.k1≤M.k2 then 2
 else if v-M.k0-M.k1-M.k2≤M.k3 then 3 else if v-M.k0-M.k1-M.k2-M.k3≤M.k4 then 4 else -1
def KN(j:Int):Int:=if j<0∨j≥M.parts then 0 else j*M.AO+1
def Ll(j:Int):Int:=if j<0∨j≥M.parts then -1 else min ((j+1)*M.AO) M.nodes
end Bz
structure Ev where
 kind:Int
 Di:Int
 a:Int
 b:Int
 c:Int
 deriving DecidableEq
def BH:Ev:=⟨0,0,0,0,0⟩
structure uC where
 NS:Int
 DJ:Int
 entry:Int
 BM:Int
inductive DqN where
 |nil|L6|Oq|Kz|N7|L8|Qg|Qh|Qi|Lm|Hy|MN|Ij|KA|JC
 deriving DecidableEq
structure Dq where
 e:uC
 next:DqN
 b:Int
 t:Int
 w:Int
 out:Int
 JO:Bool
def uC.at_(e:uC)(a:Int):Int:=e.entry+a % max e.BM 1
def Dq.push(e:uC)(w:Int):Dq:=⟨e,.L6,0,0,w,0,false⟩
def Dq.Kq(e:uC):Dq:=⟨e,.Oq,0,0,0,0,false⟩
def Dq.NT(e:uC):Dq:=⟨e,.Kz,0,0,0,0,false⟩
def Dq.step(m:Dq)(l:Dk):Dq×Dk:=
 match m.next with
 | .nil=>(m,l)
 | .L6=>({m with b:=ld l m.e.DJ,next:= .N7},l)
 | .N7=>
  if QN m.b (ld l m.e.NS)≥max m.e.BM 1 then({m with t:=ld l m.e.NS,w:=0,out:=2,next:= .nil},l)
  else({m with t:=ld l m.e.NS,next:= .L8},l)
 | .L8=>({m with next:= .Qg},put l (m.e.at_ m.b) m.w)
 | .Qg=>({m with w:=0,out:=1,next:= .nil},put l m.e.DJ (Hm (m.b+1)))
 | .Oq=>({m with b:=Hm (ld l m.e.DJ-1),next:= .Qh},l)
 | .Qh=>({m with next:= .Qi},put l m.e.DJ m.b)
 | .Qi=>
  if QN (ld l m.e.NS) m.b>0 then({m with t:=ld l m.e.NS,next:= .MN},l)
  else({m with t:=ld l m.e.NS,next:= .Lm},l)
 | .Lm=>
  if QN m.b m.t>0 then({m with w:=ld l (m.e.at_ m.b),out:=1,next:= .nil},l)
  else({m with w:=ld l (m.e.at_ m.b),next:= .Hy},l)
 | .Hy=>({m with JO:=KX l m.e.NS m.t,next:= .MN},KL l m.e.NS m.t (Hm (m.t+1)))
 | .MN=>
  if m.JO=true then({m with out:=1,next:= .nil},put l m.e.DJ (Hm (m.b+1)))
  else({m with w:=0,out:=3,next:= .nil},put l m.e.DJ (Hm (m.b+1)))
 | .Kz=>({m with t:=ld l m.e.NS,next:= .Ij},l)
 | .Ij=>
  if QN (ld l m.e.DJ) m.t≤0 then({m with b:=ld l m.e.DJ,out:=3,next:= .nil},l)
  else({m with b:=ld l m.e.DJ,next:= .KA},l)
 | .KA=>({m with w:=ld l (m.e.at_ m.t),next:= .JC},l)
 | .JC=>
  if KX l m.e.NS m.t=true then({m with out:=1,next:= .nil},KL l m.e.NS m.t (Hm (m.t+1)))
  else({m with w:=0,out:=4,next:= .nil},KL l m.e.NS m.t (Hm (m.t+1)))
inductive StN where
 |nil|MS|MV|J4|MO|OV|Hy
 deriving DecidableEq
structure St where
 head:Int
 node:Bool
 BO:Int
 h:Int
 next:StN
 Cf:Int
def Bz.Cf(M:Bz)(node:Bool)(i:Int):Int:=if node=true then M.Next i else M.FI i
def St.push(head:Int)(node:Bool)(BO:Int):St:=⟨head,node,BO,0,.MS,0⟩
def St.Kq(head:Int)(node:Bool):St:=⟨head,node,0,0,.MO,0⟩
def St.step(M:Bz)(m:St)(l:Dk):St×Dk:=
 match m.next with
 | .nil=>(m,l)
 | .MS=>({m with h:=ld l m.head,Cf:=lo (ld l m.head),next:= .MV},l)
 | .MV=>({m with next:= .J4},put l (M.Cf m.node m.BO) m.Cf)
 | .J4=>
  if KX l m.head m.h=true then({m with next:= .nil},KL l m.head m.h (Bg m.h m.BO))
  else({m with next:= .MS},KL l m.head m.h (Bg m.h m.BO))
 | .MO=>
  if lo (ld l m.head)=0 then({m with h:=ld l m.head,BO:=lo (ld l m.head),next:= .nil},l)
  else({m with h:=ld l m.head,BO:=lo (ld l m.head),next:= .OV},l)
 | .OV=>({m with Cf:=NR (ld l (M.Cf m.node m.BO)),next:= .Hy},l)
 | .Hy=>
  if KX l m.head m.h=true then({m with next:= .nil},KL l m.head m.h (Bg m.h m.Cf))
  else({m with next:= .MO},KL l m.head m.h (Bg m.h m.Cf))
inductive PkN where
 |nil|Po|fill|Bq|DV
 deriving DecidableEq
structure Pk where
 Ar:List Int
 j:Nat
 p:Int
 Dp:St
 next:PkN
def sT:St:=⟨0,false,0,0,.nil,0⟩
def Pk.put(Ar:List Int):Pk:=if Ar=[] then⟨[],0,0,sT,.nil⟩ else⟨Ar,0,0,.Kq 5 false,.Po⟩
def Pk.take:Pk:=⟨[],0,0,.Kq 4 false,.DV⟩
def Pk.Jr(M:Bz)(p:Int):Pk:=if M.FI p≥0 then⟨[],0,0,.push 5 false p,.DV⟩ else⟨[],0,0,sT,.nil⟩
def Pk.step(M:Bz)(x:Pk)(l:Dk):Pk×Dk:=
 match x.next with
 | .nil=>(x,l)
 | .Po=>
  if(x.Dp.step M l).1.next= .nil then
   if(x.Dp.step M l).1.BO=0 then({x with p:=0,Dp:= .Kq 5 false,next:= .Po},(x.Dp.step M l).2)
   else({x with p:=(x.Dp.step M l).1.BO,Dp:=(x.Dp.step M l).1,next:= .fill},(x.Dp.step M l).2)
  else({x with Dp:=(x.Dp.step M l).1},(x.Dp.step M l).2)
 | .fill=>
  if x.j+1=x.Ar.length then({x with j:=x.j+1,next:= .Bq},Mo.put l (M.Gp x.p x.j) (x.Ar.getD x.j 0))
  else({x with j:=x.j+1},Mo.put l (M.Gp x.p x.j) (x.Ar.getD x.j 0))
 | .Bq=>({x with Dp:= .push 4 false x.p,next:= .DV},Mo.put l (M.FZ x.p) x.Ar.length)
 | .DV=>
  if(x.Dp.step M l).1.next= .nil then({x with p:=(x.Dp.step M l).1.BO,Dp:=(x.Dp.step M l).1,next:= .nil},(x.Dp.step M l).2)
  else({x with Dp:=(x.Dp.step M l).1},(x.Dp.step M l).2)
inductive ClN where
 |nil|DZ|count|swap|Jr
 deriving DecidableEq
structure Cl where
 v:Int
 Ah:Int
 k:Int
 JO:Bool
 next:ClN
def Cl.new(v Ah:Int):Cl:=⟨v,Ah,0,false,.DZ⟩
def qg:Int:=18446744073709551615
def Cl.step(M:Bz)(x:Cl)(l:Dk):Cl×Dk:=
 match x.next with
 | .nil=>(x,l)
 | .DZ=>
  if ld l (M.Mark x.v)≥x.Ah then({x with k:=ld l (M.Mark x.v),next:= .nil},l)
  else({x with k:=ld l (M.Mark x.v),next:= .count},l)
 | .count=>({x with next:= .swap},XG l 1 1)
 | .swap=>
  if KX l (M.Mark x.v) x.k=true then({x with JO:=true,next:= .nil},KL l (M.Mark x.v) x.k x.Ah)
  else({x with JO:=false,next:= .Jr},KL l (M.Mark x.v) x.k x.Ah)
 | .Jr=>({x with next:= .nil},XG l 1 qg)
def Bz.CS(M:Bz)(i:Int):uC:=⟨M.VM i,M.IZ i,M.IJ i 0,M.BK⟩
inductive AdN where
 |nil|own|F8
 deriving DecidableEq
structure Ad where
 BN:Int
 push:Dq
 put:Pk
 next:AdN
def Ad.new(M:Bz)(i BN:Int):Ad:=⟨BN,.push (M.CS i) BN,.take,.own⟩
def Ad.step(M:Bz)(x:Ad)(l:Dk):Ad×Dk:=
 match x.next with
 | .nil=>(x,l)
 | .own=>
  if(x.push.step l).1.next= .nil then
   if(x.push.step l).1.out=2 then({x with push:=(x.push.step l).1,put:= .put [x.BN],next:= .F8},(x.push.step l).2)
   else({x with push:=(x.push.step l).1,next:= .nil},(x.push.step l).2)
  else({x with push:=(x.push.step l).1},(x.push.step l).2)
 | .F8=>
  if(x.put.step M l).1.next= .nil then({x with put:=(x.put.step M l).1,next:= .nil},(x.put.step M l).2)
  else({x with put:=(x.put.step M l).1},(x.put.step M l).2)
def bound(FW n high:Int):Int:=min (max FW n) high
def JQ(A7 Df:Int):Int:=bound 0 Df (bound 0 A7 1000)
def NF(A7 Df EE:Int):Int:=bound 0 (JQ A7 Df+bound 1 EE 1000) (bound 0 A7 1000)
inductive pf where
 |nil|head|count|L9|En|BR|DV
 deriving DecidableEq
structure Sc where
 i:Int
 v:Int
 Df:Int
 Ah:Int
 pa:Int
 pb:Int
 at_:Int
 w:Int
 AV:Cl
 add:Ad
 Ae:Ev
 next:pf
def Sc.new(i BN Ah:Int):Sc:=⟨i,hi BN,lo BN,Ah,0,0,0,0,.new 0 0,⟨0,.Kq ⟨0,0,0,0⟩,.take,.nil⟩,BH,.head⟩
def Sc.A7(x:Sc):pf:=if x.at_<x.pb then .En else .DV
def Sc.iE(M:Bz)(x:Sc)(v Df:Int):Sc:={x with add:= .new M x.i (pair v Df),next:= .L9}
def Sc.Au(M:Bz)(x:Sc)(l:Dk):Sc×Dk:=
 match x.next with
 | .nil=>(x,l)
 | .head=>
  if NF (min (ld l (M.D7 x.v)) (M.CU x.v)) x.Df M.EE<bound 0 (min (ld l (M.D7 x.v)) (M.CU x.v)) 1000 then
   ({x with pa:=JQ (min (ld l (M.D7 x.v)) (M.CU x.v)) x.Df,pb:=NF (min (ld l (M.D7 x.v)) (M.CU x.v)) x.Df M.EE,at_:=JQ (min (ld l (M.D7 x.v)) (M.CU x.v)) x.Df,next:= .count},l)
  else
   ({x with pa:=JQ (min (ld l (M.D7 x.v)) (M.CU x.v)) x.Df,pb:=NF (min (ld l (M.D7 x.v)) (M.CU x.v)) x.Df M.EE,at_:=JQ (min (ld l (M.D7 x.v)) (M.CU x.v)) x.Df,next:=if JQ (min (ld l (M.D7 x.v)) (M.CU x.v)) x.Df<NF (min (ld l (M.D7 x.v)) (M.CU x.v)) x.Df M.EE then .En else .DV},l)
 | .count=>(({x with Ae:=⟨2,0,x.v,x.pb,0⟩}:Sc).iE M x.v x.pb,XG l 1 1)
 | .L9=>
  if(x.add.step M l).1.next= .nil then({x with add:=(x.add.step M l).1,next:=x.A7},(x.add.step M l).2)
  else({x with add:=(x.add.step M l).1},(x.add.step M l).2)
 | .En=>
  if 1≤ld l (M.H8 x.v x.at_)∧ld l (M.H8 x.v x.at_)≤M.nodes then
   ({x with Ae:=⟨3,0,x.v,x.at_,0⟩,at_:=x.at_+1,w:=ld l (M.H8 x.v x.at_),AV:= .new (ld l (M.H8 x.v x.at_)) x.Ah,next:= .BR},l)
  else({x with Ae:=⟨3,0,x.v,x.at_,0⟩,at_:=x.at_+1,next:=if x.at_+1<x.pb then .En else .DV},l)
 | .BR=>
  if(x.AV.step M l).1.next= .nil then
   if(x.AV.step M l).1.JO=true then(({x with AV:=(x.AV.step M l).1,Ae:=⟨1,0,x.w,0,0⟩}:Sc).iE M x.w 0,(x.AV.step M l).2)
   else({x with AV:=(x.AV.step M l).1,next:=x.A7},(x.AV.step M l).2)
  else({x with AV:=(x.AV.step M l).1},(x.AV.step M l).2)
 | .DV=>({x with Ae:=⟨4,0,x.v,x.Df,0⟩,next:= .nil},XG l 1 qg)
def Sc.step(M:Bz)(x:Sc)(l:Dk):Sc×Dk:=({x with Ae:=BH}:Sc).Au M l
structure uI where
 BI:Int
 at_:Int
 Bq:Int
 deriving DecidableEq
def QT:uI:=⟨0,0,0⟩
def JR(all i ER:Int):Int:=
 if all<2 then -1 else if ER % all=i then(ER % all+1) % all else ER % all
inductive SkN where
 |nil|own|first|Jr|take|Bq|NT
 deriving DecidableEq
structure Sk where
 i:Int
 FY:uI
 ER:Int
 CS:Dq
 Dx:Pk
 BN:Int
 Ep:Bool
 next:SkN
def Sk.new(M:Bz)(i:Int)(b:uI)(ER:Int):Sk:=⟨i,⟨b.BI,min (max b.at_ 0) 4,min (max b.Bq 0) 4⟩,ER,.Kq (M.CS i),.take,0,false,.own⟩
def Sk.done(x:Sk)(BN:Int):Sk:={x with BN:=BN,Ep:=true,next:= .nil}
def Sk.JS(M:Bz)(x:Sk):Sk:=
 if x.FY.BI≠0∧x.FY.at_<x.FY.Bq then{x with next:= .first}
 else if M.FI x.FY.BI<0 then{x with FY:=QT,Dx:= .take,next:= .take}
 else{x with FY:=QT,Dx:= .Jr M x.FY.BI,next:= .Jr}
def Sk.step(M:Bz)(x:Sk)(l:Dk):Sk×Dk:=
 match x.next with
 | .nil=>(x,l)
 | .own=>
  if(x.CS.step l).1.next= .nil then
   if(x.CS.step l).1.out=1 then(({x with CS:=(x.CS.step l).1}:Sk).done (x.CS.step l).1.w,(x.CS.step l).2)
   else(({x with CS:=(x.CS.step l).1}:Sk).JS M,(x.CS.step l).2)
  else({x with CS:=(x.CS.step l).1},(x.CS.step l).2)
 | .first=>(({x with FY:=⟨x.FY.BI,x.FY.at_+1,x.FY.Bq⟩}:Sk).done (ld l (M.Gp x.FY.BI x.FY.at_)),l)
 | .Jr=>
  if(x.Dx.step M l).1.next= .nil then({x with Dx:= .take,next:= .take},(x.Dx.step M l).2)
  else({x with Dx:=(x.Dx.step M l).1},(x.Dx.step M l).2)
 | .take=>
  if(x.Dx.step M l).1.next= .nil then
   if(x.Dx.step M l).1.p≠0 then({x with Dx:=(x.Dx.step M l).1,next:= .Bq},(x.Dx.step M l).2)
   else if JR M.Ai x.i x.ER≥0 then({x with Dx:=(x.Dx.step M l).1,CS:= .NT (M.CS (JR M.Ai x.i x.ER)),next:= .NT},(x.Dx.step M l).2)
   else({x with Dx:=(x.Dx.step M l).1,next:= .nil},(x.Dx.step M l).2)
  else({x with Dx:=(x.Dx.step M l).1},(x.Dx.step M l).2)
 | .Bq=>(({x with FY:=⟨x.Dx.p,0,min (ld l (M.FZ x.Dx.p)) 4⟩}:Sk).JS M,l)
 | .NT=>
  if(x.CS.step l).1.next= .nil then
   if(x.CS.step l).1.out=1 then(({x with CS:=(x.CS.step l).1}:Sk).done (x.CS.step l).1.w,(x.CS.step l).2)
   else({x with CS:=(x.CS.step l).1,next:= .nil},(x.CS.step l).2)
  else({x with CS:=(x.CS.step l).1},(x.CS.step l).2)
inductive SwN where
 |nil|DZ|take|state|mark|free|MW|done
 deriving DecidableEq
structure Sw where
 Ah:Int
 w:Int
 part:Int
 v:Int
 DV:Int
 push:St
 Ae:Ev
 next:SwN
def Sw.new(Ah:Int):Sw:=⟨Ah,0,-1,0,0,sT,BH,.DZ⟩
def Sw.on(x:Sw):Sw:={x with v:=x.v+1,next:=if x.v+1≤x.DV then .state else .done}
def Sw.Au(M:Bz)(x:Sw)(l:Dk):Sw×Dk:=
 match x.next with
 | .nil=>(x,l)
 | .DZ=>
  if hi (ld l 2)=NR x.Ah∧lo (ld l 2)<M.parts then({x with w:=ld l 2,next:= .take},l)
  else({x with w:=ld l 2,next:= .nil},l)
 | .take=>
  if KX l 2 x.w=true then
   ({x with part:=lo x.w,v:=M.KN (lo x.w),DV:=M.Ll (lo x.w),next:=if M.KN (lo x.w)≤M.Ll (lo x.w) then .state else .done},KL l 2 x.w (pair (hi x.w) (NR (lo x.w+1))))
  else({x with next:= .nil},KL l 2 x.w (pair (hi x.w) (NR (lo x.w+1))))
 | .state=>if ld l (M.DK x.v)=1 then({x with next:= .mark},l) else(x.on,l)
 | .mark=>if ld l (M.Mark x.v)<x.Ah then({x with next:= .free},l) else(x.on,l)
 | .free=>({x with Ae:=⟨5,0,x.v,0,0⟩,push:= .push (M.Eg (M.Ew x.v)) true x.v,next:= .MW},put l (M.DK x.v) 0)
 | .MW=>
  if(x.push.step M l).1.next= .nil then(({x with push:=(x.push.step M l).1}:Sw).on,(x.push.step M l).2)
  else({x with push:=(x.push.step M l).1},(x.push.step M l).2)
 | .done=>({x with Ae:=⟨6,0,x.part,0,0⟩,next:= .nil},XG l 3 1)
def Sw.step(M:Bz)(x:Sw)(l:Dk):Sw×Dk:=({x with Ae:=BH}:Sw).Au M l
inductive MkN where
 |DZ|QU|Ym|Ee|EN
 deriving DecidableEq
structure Mk where
 i:Int
 Hq:Sk
 AU:Sc
 AO:Sw
 FY:uI
 BN:Int
 has:Bool
 Ae:Ev
 next:MkN
def Mk.new(M:Bz)(i:Int):Mk:=⟨i,.new M 0 QT 0,.new 0 0 0,.new 0,QT,0,false,BH,.DZ⟩
def Mk.step(M:Bz)(x:Mk)(l:Dk)(ER:Int):Mk×Dk:=
 match x.next with
 | .DZ=>
  if ld l 0 % 8=3∨ld l 0 % 8=4 then({x with Ae:=BH,Hq:= .new M x.i x.FY ER,next:= .QU},l)
  else if ld l 0 % 8=5 then({x with Ae:=BH,AO:= .new (ld l 0/8),next:= .EN},l)
  else({x with Ae:=BH},l)
 | .QU=>
  if(x.Hq.step M l).1.next= .nil then
   ({x with Ae:=BH,Hq:=(x.Hq.step M l).1,FY:=(x.Hq.step M l).1.FY,BN:=if(x.Hq.step M l).1.Ep=true then(x.Hq.step M l).1.BN else 0,has:=(x.Hq.step M l).1.Ep,next:=if(x.Hq.step M l).1.Ep=true then .Ym else .DZ},(x.Hq.step M l).2)
  else({x with Ae:=BH,Hq:=(x.Hq.step M l).1},(x.Hq.step M l).2)
 | .Ym=>
  if ld l 0 % 8=3∨ld l 0 % 8=4 then({x with Ae:=BH,AU:= .new x.i x.BN (ld l 0/8),next:= .Ee},l)
  else({x with Ae:=BH},l)
 | .Ee=>
  if(x.AU.step M l).1.next= .nil then({x with AU:=(x.AU.step M l).1,Ae:=(x.AU.step M l).1.Ae,BN:=0,has:=false,next:= .DZ},(x.AU.step M l).2)
  else({x with AU:=(x.AU.step M l).1,Ae:=(x.AU.step M l).1.Ae},(x.AU.step M l).2)
 | .EN=>
  if(x.AO.step M l).1.next= .nil then({x with AO:=(x.AO.step M l).1,Ae:=(x.AO.step M l).1.Ae,BN:=0,has:=false,next:= .DZ},(x.AO.step M l).2)
  else({x with AO:=(x.AO.step M l).1,Ae:=(x.AO.step M l).1.Ae},(x.AO.step M l).2)
inductive Bb where
 |nil|BR|F9
 deriving DecidableEq
structure Bu where
 v:Int
 AV:Cl
 put:Pk
 Ae:Ev
 next:Bb
def Bu.Bl(v Ah:Int):Bu:=⟨v,.new v Ah,.take,BH,.BR⟩
def Bu.Pq(Ar:List Int):Bu:=⟨0,.new 0 0,.put Ar,BH,if Ar=[] then .nil else .F9⟩
def Bu.Au(M:Bz)(x:Bu)(Ar:List Int)(l:Dk):Bu×List Int×Dk:=
 match x.next with
 | .nil=>(x,Ar,l)
 | .BR=>
  if(x.AV.step M l).1.next= .nil then
   if(x.AV.step M l).1.JO=true then
    if(Ar++[pair x.v 0]).length≥M.CQ then
     ({x with AV:=(x.AV.step M l).1,Ae:=⟨1,0,x.v,0,0⟩,put:= .put (Ar++[pair x.v 0]),next:= .F9},Ar++[pair x.v 0],(x.AV.step M l).2)
    else({x with AV:=(x.AV.step M l).1,Ae:=⟨1,0,x.v,0,0⟩,next:= .nil},Ar++[pair x.v 0],(x.AV.step M l).2)
   else({x with AV:=(x.AV.step M l).1,next:= .nil},Ar,(x.AV.step M l).2)
  else({x with AV:=(x.AV.step M l).1},Ar,(x.AV.step M l).2)
 | .F9=>
  if(x.put.step M l).1.next= .nil then({x with put:=(x.put.step M l).1,next:= .nil},[],(x.put.step M l).2)
  else({x with put:=(x.put.step M l).1},Ar,(x.put.step M l).2)
def Bu.step(M:Bz)(x:Bu)(Ar:List Int)(l:Dk):Bu×List Int×Dk:=({x with Ae:=BH}:Bu).Au M Ar l
def FM(k:Int):Int:=if k<0∨k≥5 then 0 else if k=0 then 1 else if k=1 then 2 else if k=2 then 4 else if k=3 then 8 else 16
def Bi(n:Int):Int:=if n<0 then -1 else if n≤1 then 0 else if n≤2 then 1 else if n≤4 then 2 else if n≤8 then 3 else if n≤16 then 4 else -1
inductive ki where
 |nil|DZ|Ot|swap|Ea|En|Lp|state
 deriving DecidableEq
structure Hp where
 A7:Int
 mark:Int
 h:Int
 Cf:Int
 v:Int
 EP:Int
 i:Int
 node:Int
 e:Int
 Ae:Ev
 next:ki
def Hp.new(A7 mark:Int):Hp:=⟨A7,mark,0,0,0,0,0,0,if Bi A7≥0 then 0 else 21,BH,if Bi A7≥0 then .DZ else .nil⟩
def Hp.rest(M:Bz)(i v:Int):ki:=if i<M.CU v then .En else .Lp
def Hp.Au(M:Bz)(x:Hp)(l:Dk):Hp×Dk:=
 match x.next with
 | .nil=>(x,l)
 | .DZ=>
  if lo (ld l (M.Eg (Bi x.A7)))=0 then({x with EP:=x.EP+1,h:=ld l (M.Eg (Bi x.A7)),v:=lo (ld l (M.Eg (Bi x.A7))),e:=22,next:= .nil},l)
  else({x with EP:=x.EP+1,h:=ld l (M.Eg (Bi x.A7)),v:=lo (ld l (M.Eg (Bi x.A7))),next:= .Ot},l)
 | .Ot=>({x with Cf:=NR (ld l (M.Next x.v)),next:= .swap},l)
 | .swap=>
  if KX l (M.Eg (Bi x.A7)) x.h=true then({x with next:= .Ea},KL l (M.Eg (Bi x.A7)) x.h (Bg x.h x.Cf))
  else if x.EP=4 then({x with e:=23,next:= .nil},KL l (M.Eg (Bi x.A7)) x.h (Bg x.h x.Cf))
  else({x with next:= .DZ},KL l (M.Eg (Bi x.A7)) x.h (Bg x.h x.Cf))
 | .Ea=>({x with next:=Hp.rest M x.i x.v},put l (M.D7 x.v) x.A7)
 | .En=>({x with i:=x.i+1,next:=Hp.rest M (x.i+1) x.v},put l (M.H8 x.v x.i) 0)
 | .Lp=>({x with next:= .state},put l (M.Mark x.v) x.mark)
 | .state=>({x with node:=x.v,Ae:=⟨8,0,x.v,x.A7,0⟩,next:= .nil},put l (M.DK x.v) 1)
def Hp.step(M:Bz)(x:Hp)(l:Dk):Hp×Dk:=({x with Ae:=BH}:Hp).Au M l
structure I4 where
 kind:Int
 a:Int
 b:Int
 c:Int
 deriving DecidableEq
inductive yV where
 |BX|DZ|F5|DN|FN
 deriving DecidableEq
inductive cU where
 |ES|EU|head|Kq|NU|G5|old|Es|fail (e:Int)|Dt (t:yV)|Jq (w:Int)
 deriving DecidableEq
structure Mu where
 i:Int
 Aq:List I4
 op:I4
 Af:List Int
 Ar:List Int
 AL:Int
 still:Int
 Bh:Int
 Ah:Int
 k:Nat
 alloc:Hp
 Bl:Bu
 Ae:Ev
 next:cU
def Mu.root(x:Mu)(a:Int):Int:=if a<0∨a≥x.Af.length then -1 else x.Af.getD a.toNat 0
def Mu.Pv(M:Bz)(x:Mu):Int:=
 if x.op.kind=0 then(if(x.Af.length:Int)≥M.Af then 13 else 0)
 else if x.op.kind=1 then(if x.root x.op.a<1 then 1 else if(x.Af.length:Int)≥M.Af then 13 else 0)
 else if x.op.kind=2 then(if x.root x.op.a<1∨x.root x.op.c<0 then 1 else 0)
 else if x.op.kind=3 then(if x.Af.length=0 then 1 else 0)
 else if x.op.kind=4 then(if x.root x.op.a<0 then 1 else if(x.Af.length:Int)≥M.Af then 13 else 0)
 else 1
def Mu.first(x:Mu):cU:=
 if x.op.kind=0 then .EU else if x.op.kind=1 then .head else if x.op.kind=2 then .head else if x.op.kind=3 then .Kq else .NU
def Mu.BX(M:Bz)(x:Mu):Mu:=
 match x.Aq with
 |[]=>{x with next:= .ES}
 |o::r=>
  if Mu.Pv M {x with op:=o,Aq:=r}≠0 then{x with op:=o,Aq:=r,next:= .fail (Mu.Pv M {x with op:=o,Aq:=r})}
  else if o.kind=0 then{x with op:=o,Aq:=r,alloc:= .new o.a x.Bh,next:= .EU}
  else{x with op:=o,Aq:=r,next:=Mu.first {x with op:=o,Aq:=r}}
def Wd:I4:=⟨0,0,0,0⟩
def Mu.new(M:Bz)(i:Int)(Aq:List I4):Mu:=
 Mu.BX M ⟨i,Aq.take 64,Wd,[M.nodes],[],0,0,0,0,0,.new 0 0,.Bl 0 0,BH,.ES⟩
def Mu.Ja(x:Mu)(e:Ev):Mu:={x with Ae:=e,next:= .ES}
def Mu.fail(x:Mu)(e:Int):Mu:=x.Ja ⟨13,0,x.op.kind,e,0⟩
def Mu.Iw(x:Mu):Mu:=
 if x.Ar=[] then{x with next:= .Jq (Hm (3*x.Ah))} else{x with Bl:= .Pq x.Ar,next:= .Dt .F5}
def Mu.QV(M:Bz):Nat→Mu→Mu
 |0,x=>x.Iw
 |n+1,x=>
  if M.CU (x.Af.getD x.k 0)=0 then Mu.QV M n {x with k:=x.k+1}
  else{x with k:=x.k+1,Bl:= .Bl (x.Af.getD x.k 0) x.Ah,next:= .Dt .DZ}
def Mu.DZ(M:Bz)(x:Mu):Mu:=Mu.QV M (x.Af.length-x.k) x
def Mu.DN(M:Bz)(x:Mu):Mu:=
 if M.CU (x.root x.op.c)=0 then{x with next:= .Es} else{x with Bl:= .Bl (x.root x.op.c) x.AL,next:= .Dt .FN}
def Mu.dC(M:Bz)(x:Mu):yV→Mu
 | .BX=>x.BX M
 | .DZ=>x.DZ M
 | .F5=>{x with next:= .Jq (Hm (3*x.Ah))}
 | .DN=>x.DN M
 | .FN=>{x with next:= .Es}
def Bz.KC(M:Bz)(w:Int):Int:=if w>M.nodes then 0 else w
def Mu.Au(M:Bz)(x:Mu)(l:Dk):Mu×Dk:=
 match x.next with
 | .Kq=>(({x with Af:=x.Af.dropLast}:Mu).Ja ⟨11,0,0,0,0⟩,l)
 | .NU=>(({x with Af:=x.Af++[x.Af.getD x.op.a.toNat 0]}:Mu).Ja ⟨12,0,x.op.a,0,0⟩,l)
 | .fail e=>(x.fail e,l)
 | .EU=>
  if(x.alloc.step M l).1.next= .nil then
   if(x.alloc.step M l).1.e≠0 then(({x with alloc:=(x.alloc.step M l).1}:Mu).fail (x.alloc.step M l).1.e,(x.alloc.step M l).2)
   else(({x with alloc:=(x.alloc.step M l).1,Af:=x.Af++[(x.alloc.step M l).1.node]}:Mu).Ja (x.alloc.step M l).1.Ae,(x.alloc.step M l).2)
  else({x with alloc:=(x.alloc.step M l).1},(x.alloc.step M l).2)
 | .head=>
  if x.op.b<0∨x.op.b≥ld l (M.D7 (x.root x.op.a)) then(x.fail 21,l)
  else({x with next:=if x.op.kind=2 then .old else .G5},l)
 | .G5=>(({x with Af:=x.Af++[M.KC (ld l (M.H8 (x.root x.op.a) x.op.b))]}:Mu).Ja ⟨9,0,x.op.a,x.op.b,M.KC (ld l (M.H8 (x.root x.op.a) x.op.b))⟩,l)
 | .old=>
  if M.CU (M.KC (ld l (M.H8 (x.root x.op.a) x.op.b)))=0 then(x.DN M,l)
  else({x with Bl:= .Bl (M.KC (ld l (M.H8 (x.root x.op.a) x.op.b))) x.AL,next:= .Dt .DN},l)
 | .Es=>(x.Ja ⟨10,0,x.op.a,x.op.b,x.op.c⟩,put l (M.H8 (x.root x.op.a) x.op.b) (x.root x.op.c))
 | .Dt t=>
  if(x.Bl.step M x.Ar l).1.next= .nil then
   (({x with Bl:=(x.Bl.step M x.Ar l).1,Ar:=(x.Bl.step M x.Ar l).2.1,Ae:=(x.Bl.step M x.Ar l).1.Ae}:Mu).dC M t,(x.Bl.step M x.Ar l).2.2)
  else({x with Bl:=(x.Bl.step M x.Ar l).1,Ar:=(x.Bl.step M x.Ar l).2.1,Ae:=(x.Bl.step M x.Ar l).1.Ae},(x.Bl.step M x.Ar l).2.2)
 | .ES=>
  if ld l 0 % 8=1∧x.AL≠ld l 0/8 then({x with Ah:=ld l 0/8,AL:=ld l 0/8,next:= .Jq (Hm (3*(ld l 0/8)-2))},l)
  else if ld l 0 % 8=2∧x.still≠ld l 0/8 then({x with Ah:=ld l 0/8,still:=ld l 0/8,next:= .Jq (Hm (3*(ld l 0/8)-1))},l)
  else if ld l 0 % 8=3∧x.Bh≠ld l 0/8 then(({x with Ah:=ld l 0/8,k:=0}:Mu).DZ M,l)
  else if x.Ar=[] then(({x with Ah:=ld l 0/8}:Mu).BX M,l)
  else({x with Ah:=ld l 0/8,Bl:= .Pq x.Ar,next:= .Dt .BX},l)
 | .Jq w=>
  (({x with Bh:=if w=Hm (3*x.Ah) then x.Ah else x.Bh,Ae:=⟨14,0,if w<9223372036854775808 then w else w-18446744073709551616,0,0⟩}:Mu).BX M,put l (M.O8 x.i) w)
def Mu.step(M:Bz)(x:Mu)(l:Dk):Mu×Dk:=({x with Ae:=BH}:Mu).Au M l
structure De where
 Be:Nat
 Ah:Int
 Bg:Int
 Ae:Ev
def De.new:De:=⟨0,0,0,BH⟩
def De.Ti(x:De)(phase:Int)(l:Dk):De×Dk:=
 ({x with Ae:=⟨7,0,phase,if x.Ah<9223372036854775808 then x.Ah else x.Ah-18446744073709551616,0⟩,Bg:=0,Be:=(x.Be+1) % 14},put l 0 (EZ x.Ah phase))
def De.KD(M:Bz)(x:De)(least:Int)(l:Dk):De×Dk:=
 if ld l (M.O8 x.Bg)<least then(x,l)
 else if x.Bg+1<M.Ak then({x with Bg:=x.Bg+1},l)
 else({x with Bg:=x.Bg+1,Be:=x.Be+1},l)
def De.count(x:De)(dC:Nat)(l:Dk):De×Dk:=({x with Be:=if ld l 1≠0 then 7 else dC},l)
def De.Au(M:Bz)(x:De)(l:Dk)(ER:Int):De×Dk:=
 match x.Be with
 |0=>if ER % 2=0 then(x,l) else De.Ti {x with Ah:=Hm (x.Ah+1)} 1 l
 |1=>x.KD M (Hm (3*x.Ah-2)) l
 |2=>x.Ti 2 l
 |3=>x.KD M (Hm (3*x.Ah-1)) l
 |4=>x.Ti 3 l
 |5=>x.KD M (Hm (3*x.Ah)) l
 |6=>x.Ti 4 l
 |7=>x.count 8 l
 |8=>x.count 9 l
 |9=>({x with Be:=10},put l 2 (pair (NR x.Ah) 0))
 |10=>({x with Be:=11},put l 3 0)
 |11=>x.Ti 5 l
 |12=>if ld l 3≠M.parts then(x,l) else({x with Be:=13},l)
 |13=>x.Ti 0 l
 |_=>(x,l)
def De.step(M:Bz)(x:De)(l:Dk)(ER:Int):De×Dk:=({x with Ae:=BH}:De).Au M l ER
structure Wo where
 l:Dk
 Ai:List Mk
 Ak:List Mu
 Ik:De
 Bl:List Ev
def Wo.FX(W:Wo):Nat:=W.Ai.length+W.Ak.length+1
def OO:Mk:=⟨0,⟨0,QT,0,.Kq ⟨0,0,0,0⟩,.take,0,false,.nil⟩,.new 0 0 0,.new 0,QT,0,false,BH,.DZ⟩
def TM:Mu:=⟨0,[],Wd,[],[],0,0,0,0,0,.new 0 0,.Bl 0 0,BH,.ES⟩
def Wo.EC(M:Bz)(W:Wo)(Di:Nat)(ER:Int):Wo×Ev:=
 if Di<W.Ai.length then
  ({W with l:=((W.Ai.getD Di OO).step M W.l ER).2,Ai:=W.Ai.set Di ((W.Ai.getD Di OO).step M W.l ER).1},((W.Ai.getD Di OO).step M W.l ER).1.Ae)
 else if Di<W.Ai.length+W.Ak.length then
  ({W with l:=((W.Ak.getD (Di-W.Ai.length) TM).step M W.l).2,Ak:=W.Ak.set (Di-W.Ai.length) ((W.Ak.getD (Di-W.Ai.length) TM).step M W.l).1},((W.Ak.getD (Di-W.Ai.length) TM).step M W.l).1.Ae)
 else({W with l:=(W.Ik.step M W.l ER).2,Ik:=(W.Ik.step M W.l ER).1},(W.Ik.step M W.l ER).1.Ae)
def Wo.step(M:Bz)(W:Wo)(Di:Nat)(ER:Int):Wo×Ev:=
 if(W.EC M Di ER).2.kind=0 then((W.EC M Di ER).1,BH)
 else({(W.EC M Di ER).1 with Bl:=(W.EC M Di ER).1.Bl++[{(W.EC M Di ER).2 with Di:=Di}]},{(W.EC M Di ER).2 with Di:=Di})
structure Fj where
 k0:Int
 k1:Int
 k2:Int
 k3:Int
 k4:Int
 Ai:Int
 Ak:Int
 BK:Int
 EE:Int
 CQ:Int
 Af:Int
 AO:Int
def Fj.ok(c:Fj):Bool:=
 decide (0≤c.k0∧c.k0≤12)&&decide (0≤c.k1∧c.k1≤12)&&decide (0≤c.k2∧c.k2≤12)&&decide (0≤c.k3∧c.k3≤12)&&decide (0≤c.k4∧c.k4≤12)&&
 decide (1≤c.Ai∧c.Ai≤4)&&decide (1≤c.Ak∧c.Ak≤4)&&decide (2≤c.BK∧c.BK≤8)&&decide (1≤c.EE∧c.EE≤16)&&
 decide (1≤c.CQ∧c.CQ≤4)&&decide (1≤c.Af∧c.Af≤8)&&decide (1≤c.AO∧c.AO≤16)&&decide (c.k0+c.k1+c.k2+c.k3+c.k4≠0)
def Fj.nodes(c:Fj):Int:=c.k0+c.k1+c.k2+c.k3+c.k4
def Fj.E5(c:Fj)(v:Int):Int:=
 if v<1 then -1 else if v≤c.k0 then 0 else if v-c.k0≤c.k1 then 1 else if v-c.k0-c.k1≤c.k2 then 2
 else if v-c.k0-c.k1-c.k2≤c.k3 then 3 else if v-c.k0-c.k1-c.k2-c.k3≤c.k4 then 4 else -1
def Fj.BM(c:Fj):List Int:=(List.range c.nodes.toNat).map fun(i:Nat)=>FM (c.E5 (i+1))
def Fj.Bq(c:Fj):Int:=c.BM.foldl (fun n r=>n+(r+c.EE-1)/c.EE) (c.nodes+2*c.Ai+c.Ak)
def KY:List Int→Int→List Int
 |[],_=>[]
 |r::rs,a=>a::KY rs (a+(4+r))
def G6:List Int→Int→Int
 |[],a=>a
 |r::rs,a=>G6 rs (a+(4+r))
def Fj.DW(c:Fj):Int:=6+c.Ak+5+c.Ai*(2+c.BK)+c.Bq*6
def Fj.map(c:Fj):Bz:=
 {Jq:=6,head:=6+c.Ak,Iu:=6+c.Ak+5,Gi:=6+c.Ak+5+c.Ai*(2+c.BK),DW:=c.DW,nodes:=c.nodes,Bq:=c.Bq,parts:=(c.nodes+c.AO-1)/c.AO,all:=G6 c.BM c.DW,k0:=c.k0,k1:=c.k1,k2:=c.k2,k3:=c.k3,k4:=c.k4,Ai:=c.Ai,Ak:=c.Ak,BK:=c.BK,EE:=c.EE,CQ:=c.CQ,Af:=c.Af,AO:=c.AO,at_:=KY c.BM c.DW,BM:=c.BM}
def Mc(M:Bz):Nat→Nat→Dk→Dk
 |0,_,l=>l
 |n+1,p,l=>Mc M n (p+1) (l.set (M.FI p).toNat (p+1))
def NG(M:Bz):Nat→Dk→Dk
 |0,l=>l
 |v+1,l=>NG M v ((l.set (M.Next (v+1)).toNat (l.getD (M.Eg (M.Ew (v+1))).toNat 0)).set (M.Eg (M.Ew (v+1))).toNat (v+1))
def Bz.first(M:Bz):Dk:=
 NG M (M.nodes-1).toNat (((Mc M (M.Bq-1).toNat 1 ((List.replicate M.all.toNat 0).set 5 1)).set (M.DK M.nodes).toNat 1).set (M.D7 M.nodes).toNat (M.CU M.nodes))
def Wo.new(M:Bz)(programs:List (List I4)):Wo:=
 ⟨M.first,(List.range M.Ai.toNat).map fun(i:Nat)=> .new M i,(List.range M.Ak.toNat).map fun(i:Nat)=> .new M i (programs.getD i []),.new,[]⟩
def QW:Fj:=⟨2,0,0,0,0,1,1,2,1,1,2,1⟩
def Ou:Bz:=QW.map
def Yn:Wo:= .new Ou [[⟨0,1,0,0⟩,⟨3,0,0,0⟩]]
def uJ(M:Bz)(Di:Nat)(ER:Int):Nat→Wo→Wo
 |0,W=>W
 |n+1,W=>uJ M Di ER n (W.step M Di ER).1
def I5(M:Bz)(ER:Int):Nat→Nat→Wo→Wo×Bool
 |0,_,W=>(W,false)
 |n+1,Di,W=>
  if(W.step M Di ER).2.kind=7∧(W.step M Di ER).2.a=0 then((W.step M Di ER).1,true)
  else I5 M ER n (if Di+1=W.FX then 0 else Di+1) (W.step M Di ER).1
theorem uK{a b x y:Int}(h0:0≤a)(h1:a≤x)(h2:0≤b)(h3:b≤y):0≤a*b∧a*b≤x*y:=
 ⟨Int.mul_nonneg h0 h2,Int.mul_le_mul h1 h3 h2 (by omega)⟩
theorem Yo{k:Int}(h:0≤k∧k<5):k=0∨k=1∨k=2∨k=3∨k=4:=by omega
structure Fj.Sm (c:Fj):Prop where
 k0:0≤c.k0∧c.k0≤12
 k1:0≤c.k1∧c.k1≤12
 k2:0≤c.k2∧c.k2≤12
 k3:0≤c.k3∧c.k3≤12
 k4:0≤c.k4∧c.k4≤12
theorem Fj.NH{c:Fj}:c.ok=true↔(0≤c.k0∧c.k0≤12)∧(0≤c.k1∧c.k1≤12)∧(0≤c.k2∧c.k2≤12)∧(0≤c.k3∧c.k3≤12)∧(0≤c.k4∧c.k4≤12)∧
  (1≤c.Ai∧c.Ai≤4)∧(1≤c.Ak∧c.Ak≤4)∧(2≤c.BK∧c.BK≤8)∧(1≤c.EE∧c.EE≤16)∧(1≤c.CQ∧c.CQ≤4)∧(1≤c.Af∧c.Af≤8)∧(1≤c.AO∧c.AO≤16)∧c.k0+c.k1+c.k2+c.k3+c.k4≠0:=by
 unfold Fj.ok;simp only[Bool.and_eq_true,decide_eq_true_eq,and_assoc]
structure Fj.Ok (c:Fj):Prop where
 sm:c.Sm
 Ai:1≤c.Ai∧c.Ai≤4
 Ak:1≤c.Ak∧c.Ak≤4
 BK:2≤c.BK∧c.BK≤8
 EE:1≤c.EE∧c.EE≤16
 CQ:1≤c.CQ∧c.CQ≤4
 Af:1≤c.Af∧c.Af≤8
 AO:1≤c.AO∧c.AO≤16
 nodes:1≤c.nodes∧c.nodes≤60
theorem Fj.Ok.of{c:Fj}(h:c.ok=true):c.Ok:=by
 obtain⟨h0,h1,h2,h3,h4,h5,h6,h7,h8,h9,h10,h11,h12⟩:=Fj.NH.1 h;exact⟨⟨h0,h1,h2,h3,h4⟩,h5,h6,h7,h8,h9,h10,h11,by unfold Fj.nodes;omega⟩
theorem JD{c:Fj}(h:c.Ok){v:Int}(hv:1≤v∧v≤c.nodes):0≤c.E5 v∧c.E5 v<5:=by
 obtain⟨h0,h1,h2,h3,h4⟩:=h.sm;unfold Fj.nodes at hv;unfold Fj.E5;split
 ·omega
 split
 ·omega
 split
 ·omega
 split
 ·omega
 split
 ·omega
 split<;>omega
theorem KO(k:Int)(hk:0≤k∧k<5):1≤FM k∧FM k≤16:=by
 rcases Yo hk with rfl|rfl|rfl|rfl|rfl<;>decide
theorem Il(c:Fj):c.BM.length=c.nodes.toNat:=by simp[Fj.BM]
theorem Px{c:Fj}(hi:i<c.nodes.toNat):c.BM.getD i 0=FM (c.E5 ((i:Int)+1)):=by
 unfold Fj.BM;rw[List.getD_eq_getElem?_getD,List.getElem?_map,List.getElem?_range hi];rfl
theorem VN{c:Fj}(hi:i<c.nodes.toNat):c.BM.take (i+1)=c.BM.take i++[FM (c.E5 ((i:Int)+1))]:=by
 have h1:i<c.BM.length:=by rw[Il];exact hi
 rw[List.take_add_one,List.getElem?_eq_getElem h1,←Px hi,List.getD_eq_getElem?_getD,List.getElem?_eq_getElem h1];rfl
theorem RP{c:Fj}(h:c.Ok): ∀r∈c.BM,1≤r∧r≤16:=fun r hr=>by
 obtain⟨i,hi,rfl⟩:=List.mem_iff_getElem.1 hr;have h1:i<c.nodes.toNat:=by rw[←Il];exact hi
 have h2:=Px h1;rw[List.getD_eq_getElem?_getD,List.getElem?_eq_getElem hi] at h2;simp only[Option.getD_some] at h2;rw[h2];exact KO _ (JD h (by omega))
def Fj.NI(c:Fj)(i:Nat):Int:=(c.BM.take i).foldl (fun n r=>n+(r+c.EE-1)/c.EE) (c.nodes+2*c.Ai+c.Ak)
theorem QX{c:Fj}(hi:i<c.nodes.toNat):c.NI (i+1)=c.NI i+(FM (c.E5 ((i:Int)+1))+c.EE-1)/c.EE:=by
 unfold Fj.NI;rw[VN hi,List.foldl_append];rfl
theorem Qj{c:Fj}:c.NI c.nodes.toNat=c.Bq:=by
 unfold Fj.NI Fj.Bq;rw[←Il,List.take_length]
theorem Un{a b:Int}(ha:0≤a)(hb:1≤b):0≤a/b∧a/b≤a:=⟨Int.ediv_nonneg ha (by omega),Int.ediv_le_self _ ha⟩
theorem Ov{c:Fj}(h:c.Ok): ∀(i:Nat),i≤c.nodes.toNat→0≤c.NI i∧c.NI i≤72+31*i
 |0,_=>by
  have:=h.nodes;have:=h.Ai;have:=h.Ak;simp only[Fj.NI,List.take_zero,List.foldl_nil];omega
 |i+1,hi=>by
  have ih:=Ov h i (by omega);have hn:=h.nodes;have h1:=KO _ (JD h (v:=(i:Int)+1) (by omega));have hc:=h.EE;rw[QX (by omega)];have:=Un (a:=FM (c.E5 ((i:Int)+1))+c.EE-1) (b:=c.EE) (by omega) hc.1;omega
theorem dD: ∀(l:List Int) (r a:Int),KY (l++[r]) a=KY l a++[G6 l a]
 |[],_,_=>rfl
 |x::l,r,a=>by
  show a::KY (l++[r]) (a+(4+x))=a::(KY l (a+(4+x))++[G6 l (a+(4+x))]);rw[dD l r]
theorem Xd: ∀(l:List Int) (r a:Int),G6 (l++[r]) a=G6 l a+(4+r)
 |[],_,_=>rfl
 |x::l,r,a=>Xd l r (a+(4+x))
theorem Uo: ∀(l:List Int) (a:Int),(KY l a).length=l.length
 |[],_=>rfl
 |x::l,a=>by simp[KY,Uo l]
theorem TN: ∀(l:List Int) (a:Int),(∀r∈l,1≤r∧r≤16)→a≤G6 l a∧G6 l a≤a+20*l.length
 |[],a,_=>by simp[G6]
 |x::l,a,h=>by
  have h1:=h x (by simp);have h2:=TN l (a+(4+x)) (fun r hr=>h r (by simp[hr]));simp only[G6,List.length_cons];omega
theorem Yp: ∀(l:List Int) (a:Int) (i:Nat),(∀r∈l,1≤r∧r≤16)→i<l.length→a≤(KY l a).getD i 0∧(KY l a).getD i 0<a+20*l.length
 |[],_,_,_,h=>by simp at h
 |x::l,a,0,h,_=>by simp[KY];omega
 |x::l,a,i+1,h,hi=>by
  have h1:=h x (by simp);have h2:=Yp l (a+(4+x)) i (fun r hr=>h r (by simp[hr])) (by simpa using hi);simp only[KY,List.getD_cons_succ,List.length_cons];omega
theorem Fj.VO{c:Fj}(h:c.Ok):c.map.Ok:=by
 have hn:=h.nodes;have hm:=Ov h c.nodes.toNat (Nat.le_refl _);rw[Qj] at hm;have h1:=h.Ai;have h2:=h.Ak;have h3:=h.BK;have h4:=h.AO;have hq:=Un (a:=c.nodes+c.AO-1) (b:=c.AO) (by omega) h4.1;have hmd:0≤c.Ai*(2+c.BK)∧c.Ai*(2+c.BK)≤4*10:=uK (by omega) (by omega) (by omega) (by omega);have pj:c.DW=6+c.Ak+5+c.Ai*(2+c.BK)+c.Bq*6:=rfl;obtain⟨s0,s1,s2,s3,s4⟩:=h.sm;refine⟨by simp only[Fj.map];omega,by simp only[Fj.map];omega,by simp only[Fj.map];omega,by simp only[Fj.map];omega,by simp only[Fj.map];omega,by simp only[Fj.map];omega,⟨s0,s1,s2,s3,s4⟩,h1,h2,h3,h.EE,h.CQ,h.Af,h4,hn,?_,Il c,fun i=>?_,fun i hi=>?_⟩
 ·simp only[Fj.map,Uo,Il]
 ·simp only[Fj.map];by_cases hi:i<c.BM.length
  ·have:=Yp c.BM c.DW i (RP h) hi;rw[Il] at this;omega
  rw[List.getD_eq_getElem?_getD,List.getElem?_eq_none (by rw[Uo];omega)];simp
 have hi':i<c.nodes.toNat:=hi;rw[show c.map.BM=c.BM from rfl,Px hi'];exact KO _ (JD h (by omega))
theorem Yq{c:Fj}(hi:i<c.nodes.toNat):c.BM.take (i+1)=c.BM.take i++[c.BM.getD i 0]:=by rw[VN hi,Px hi]
theorem qh{c:Fj}{a:Int}(hi:i<c.nodes.toNat):KY (c.BM.take (i+1)) a=KY (c.BM.take i) a++[G6 (c.BM.take i) a]:=by rw[Yq hi,dD]
theorem nI{c:Fj}{a:Int}(hi:i<c.nodes.toNat):G6 (c.BM.take (i+1)) a=G6 (c.BM.take i) a+(4+c.BM.getD i 0):=by rw[Yq hi,Xd]
theorem Yr{c:Fj}:c.BM.take c.nodes.toNat=c.BM:=by rw[←Il,List.take_length]
theorem Xe{c:Fj}(h:c.Ok)(hi:i<c.nodes.toNat):1≤c.BM.getD i 0∧c.BM.getD i 0≤16:=by
 have hn:=h.nodes;rw[Px hi];exact KO _ (JD h (by omega))
theorem NJ{c:Fj}(h:c.Ok)(i:Nat)(a:Int):a≤G6 (c.BM.take i) a∧G6 (c.BM.take i) a≤a+1200:=by
 have hn:=h.nodes;have h1:=TN (c.BM.take i) a (fun r hr=>RP h r (List.mem_of_mem_take hr));have h2:(c.BM.take i).length≤c.nodes.toNat:=by rw[List.length_take,Il];omega
 omega
theorem Fj.nums{c:Fj}(h:c.Ok):(0≤c.Bq∧c.Bq≤2000)∧(0≤(c.nodes+c.AO-1)/c.AO∧(c.nodes+c.AO-1)/c.AO≤100)∧(0≤c.Ai*(2+c.BK)∧c.Ai*(2+c.BK)≤40):=by
 have hn:=h.nodes;have hm:=Ov h c.nodes.toNat (Nat.le_refl _);rw[Qj] at hm;have h1:=h.Ai;have h3:=h.BK;have h4:=h.AO;have hq:=Un (a:=c.nodes+c.AO-1) (b:=c.AO) (by omega) h4.1;have hmd:0≤c.Ai*(2+c.BK)∧c.Ai*(2+c.BK)≤4*10:=uK (by omega) (by omega) (by omega) (by omega);omega
theorem nJ: ∀(l:List Int) (a:Int) (i:Nat),(∀r∈l,1≤r∧r≤16)→i<l.length→a≤(KY l a).getD i 0∧(KY l a).getD i 0+(4+l.getD i 0)≤G6 l a
 |[],_,_,_,h=>by simp at h
 |x::l,a,0,h,_=>by
  have h1:=TN l (a+(4+x)) (fun r hr=>h r (by simp[hr]));simp only[KY,G6,List.getD_cons_zero];omega
 |x::l,a,i+1,h,hi=>by
  have h1:=h x (by simp);have h2:=nJ l (a+(4+x)) i (fun r hr=>h r (by simp[hr])) (by simpa using hi);simp only[KY,G6,List.getD_cons_succ];omega
theorem Py{c:Fj}{v:Int}(hv:1≤v∧v≤c.nodes):c.map.CU v=c.BM.getD (v-1).toNat 0:=by
 unfold Bz.CU;rw[if_neg (by show¬(v<1∨v>c.nodes);omega)];rfl
theorem I7{c:Fj}(h:c.Ok){v:Int}(hv:1≤v∧v≤c.nodes):1≤c.map.CU v∧c.map.CU v≤16:=by
 rw[Py hv];exact Xe h (by omega)
theorem Yt{c:Fj}(h:c.Ok){v j:Int}(hv:1≤v∧v≤c.nodes):c.map.node v j=(KY c.BM c.DW).getD (v-1).toNat 0+j:=by
 have:=I7 h hv;unfold Bz.node;rw[if_neg (by omega)];rfl
theorem Ur{c:Fj}(h:c.Ok){v j:Int}(hv:1≤v∧v≤c.nodes)(hj:0≤j∧j<4+c.map.CU v):c.DW≤c.map.node v j∧c.map.node v j<c.map.all:=by
 have hi:(v-1).toNat<c.BM.length:=by rw[Il];omega
 have h1:=nJ c.BM c.DW (v-1).toNat (RP h) hi;rw[Yt h hv];rw[Py hv] at hj;have:c.map.all=G6 c.BM c.DW:=rfl;omega
theorem iF{c:Fj}(h:c.Ok):c.DW≤c.map.all∧c.map.all≤c.DW+1200:=by
 have:=NJ h c.nodes.toNat c.DW;rw[Yr] at this;exact this
theorem BT{c:Fj}(h:c.Ok){p:Int}(hp:1≤p∧p≤c.Bq):11≤c.map.FI p∧c.map.FI p<c.DW:=by
 obtain⟨h1,h2,h3⟩:=Fj.nums h;have:=h.Ak;have hn:c.DW=6+c.Ak+5+c.Ai*(2+c.BK)+c.Bq*6:=rfl;unfold Bz.FI Bz.BI;rw[if_neg (by show¬(p<1∨p>c.Bq);omega)];show 11≤(6+c.Ak+5+c.Ai*(2+c.BK))+(p-1)*6+1∧(6+c.Ak+5+c.Ai*(2+c.BK))+(p-1)*6+1<c.DW;omega
theorem BW{c:Fj}(h:c.Ok){k:Int}(hk:0≤k∧k<5):c.map.Eg k=6+c.Ak+k∧6+c.Ak+k<c.DW:=by
 obtain⟨h1,h2,h3⟩:=Fj.nums h;have hn:c.DW=6+c.Ak+5+c.Ai*(2+c.BK)+c.Bq*6:=rfl;unfold Bz.Eg;rw[if_neg (by omega)];exact⟨rfl,by omega⟩
theorem Ox(M:Bz): ∀(n p:Nat) (l:Dk),(Mc M n p l).length=l.length
 |0,_,_=>rfl
 |n+1,p,l=>by rw[Mc,Ox M n];simp
theorem Yu(M:Bz): ∀(n:Nat) (l:Dk),(NG M n l).length=l.length
 |0,_=>rfl
 |n+1,l=>by rw[NG,Yu M n];simp
theorem Xf{c:Fj}(h:c.Ok): ∀(i:Nat),i≤c.nodes.toNat→c.nodes≤c.NI i
 |0,_=>by
  have:=h.Ai;have:=h.Ak;simp only[Fj.NI,List.take_zero,List.foldl_nil];omega
 |i+1,hi=>by
  have ih:=Xf h i (by omega);have hn:=h.nodes;have h1:=KO _ (JD h (v:=(i:Int)+1) (by omega));have hc:=h.EE;rw[QX (by omega)];have:=Un (a:=FM (c.E5 ((i:Int)+1))+c.EE-1) (b:=c.EE) (by omega) hc.1;omega
theorem VP{c:Fj}(h:c.Ok):1≤c.Bq:=by
 have:=Xf h c.nodes.toNat (Nat.le_refl _);rw[Qj] at this;have:=h.nodes;omega
theorem VQ{c:Fj}:c.map.first.length=c.map.all.toNat:=by
 unfold Bz.first;rw[Yu,List.length_set,List.length_set,Ox,List.length_set,List.length_replicate]
theorem cV{c:Fj}(h:c.Ok){i:Int}(hi:0≤i∧i<c.Ak):c.map.O8 i≥0:=by
 unfold Bz.O8;rw[if_neg (by show¬(i<0∨i≥c.Ak);omega)];show 6+i≥0;omega
def Yv(zs:List Int)(i:Nat):Int:=zs.getD i 0
structure KE (F:Nat→Prop) (w w':World):Prop where
 os:w'.os=w.os
 tape:w'.tape=w.tape
 output:w'.output=w.output
 size:w.heap.size≤w'.heap.size
 block: ∀k,k<w.heap.size→ ¬F k→w'.heap[k]?=w.heap[k]?
theorem KE.refl(F:Nat→Prop)(w:World):KE F w w:=⟨rfl,rfl,rfl,Nat.le_refl _,fun _ _ _=>rfl⟩
theorem KE.trans{F:Nat→Prop}{w1 w2:World}(h:KE F w w1)(k:KE F w1 w2):KE F w w2:=
 ⟨k.os.trans h.os,k.tape.trans h.tape,k.output.trans h.output,Nat.le_trans h.size k.size,fun i h1 h2=>(k.block i (Nat.lt_of_lt_of_le h1 h.size) h2).trans (h.block i h1 h2)⟩
theorem KE.mono{F G:Nat→Prop}(h:KE F w w')(pn: ∀k,F k→G k):KE G w w':=⟨h.os,h.tape,h.output,h.size,fun k h1 h2=>h.block k h1 (fun h3=>h2 (pn k h3))⟩
theorem KE.below{F:Nat→Prop}(h:Below w.heap.size w w'):KE F w w':=⟨h.os,h.tape,h.output,h.size,fun k hk _=>h.block k hk⟩
theorem KE.setCell{F:Nat→Prop}(h:KE F w w'){g o:Nat}(u:Value)(hg:F g∨w.heap.size≤g):KE F w (w'.setCell ⟨g,o,none⟩ u):=
 ⟨h.os,h.tape,h.output,by simpa[World.setCell] using h.size,fun k h1 h2=>(Below.heap_setCell _ _ _ _ (by
  show k≠g
  rcases hg with hg|hg
  ·exact fun e=>h2 (e▸hg)
  omega)).trans (h.block k h1 h2)⟩
theorem KE.drew{F:Nat→Prop}(h:KE F w w'):KE F w w'.drew:=⟨h.os,h.tape,h.output,h.size,h.block⟩
theorem KE.alloc{F:Nat→Prop}(h:KE F w w')(o:Obj):KE F w (w'.alloc o):=h.trans (KE.below (below_alloc (Below.refl _ _) o))
theorem Qk{cs:Array Value}(h:w.heap[b]?=some (.cells cs t (0,0)))(i:Nat)(u:Value):(w.setCell ⟨b,i,none⟩ u).heap[b]?=some (.cells (cs.setIfInBounds i u) t (0,0)):=by
 unfold World.setCell;simp[Array.getElem?_modify,h]
structure Cx where
 s:Nat
 g:Nat
 c:Nat
 m:Nat
 ga:Nat
 gr:Nat
 ca:Nat
 cr:Nat
 M:Bz
structure Mem (w:World) (C:Cx) (l:Dk):Prop where
 ne:C.g≠C.s
 head: ∃n:Int,w.heap[C.s]?=some (.cells #[.slice (some ⟨C.g,0,none⟩) l.length C.c,.int .i64 n] 113 (0,0))
 row:w.ownsRow 0 90 1 (.slice (some ⟨C.g,0,none⟩) l.length C.c) l.length (l.map (Value.int .u64))
 uD: ∀i,0≤l.getD i 0∧l.getD i 0≤18446744073709551615
def QD(g:Nat)(l:Dk)(at_:Int):Value:=if QS l at_ then .pointer (some ⟨g,at_.toNat,none⟩) else .pointer none
theorem Mem.lt{C:Cx}{l:Dk}(h:Mem w C l):C.s<w.heap.size∧C.g<w.heap.size:=by
 obtain⟨n,hn⟩:=h.head;exact⟨lt_of_block hn,(World.ownsRow.lt h.row C.g rfl).2⟩
theorem Mem.Kr{C:Cx}{l:Dk}(h:Mem w C l){F:Nat→Prop}(hb:KE F w w')(h1: ¬F C.s)(h2: ¬F C.g):Mem w' C l:=by
 obtain⟨n,hn⟩:=h.head;refine⟨h.ne,⟨n,(hb.block C.s h.lt.1 h1).trans hn⟩,own_move h.row (fun k hk=>?_),h.uD⟩;have e:C.g=k:=by simpa[Value.ownBlock] using hk
 subst e;exact hb.block C.g h.lt.2 h2
theorem XU{l:Dk}(h: ∀i,0≤l.getD i 0∧l.getD i 0≤18446744073709551615)(a:Nat)(v:Int)(hv:0≤v∧v≤18446744073709551615)(i:Nat):0≤(l.set a v).getD i 0∧(l.set a v).getD i 0≤18446744073709551615:=by
 rw[List.getD_eq_getElem?_getD,List.getElem?_set];split
 ·split
  ·exact hv
  show 0≤(0:Int)∧(0:Int)≤_;omega
 rw[←List.getD_eq_getElem?_getD];exact h i
theorem I8(w:World)(C:Cx)(l:Dk)(at_:Int)(h:Mem w C l):
  Calls Tryz.prog 66 #[.pointer (some ⟨C.s,0,none⟩),.int .i64 at_] w fun e w'=>e= .returned (QD C.g l at_)∧Mem w' C l∧KE (fun k=>k=C.s) w w':=by
 obtain⟨n,hn⟩:=h.head;obtain⟨hne,_,hrow,t8⟩:=h;have hc0:w.cell? ⟨C.s,0,none⟩=some (.slice (some ⟨C.g,0,none⟩) l.length C.c):=by simp[World.cell?,hn]
 have hc1:w.cell? ⟨C.s,1,none⟩=some (.int .i64 n):=by simp[World.cell?,hn]
 have hf1:w.frozen? ⟨C.s,1,none⟩=false:=by simp[World.frozen?,hn]
 have hmem: ∀m:Int,Mem (w.setCell ⟨C.s,1,none⟩ (.int .i64 m)) C l:=fun m=>by
  refine⟨hne,⟨m,?_⟩,own_move hrow (fun k hk=>?_),t8⟩
  ·exact Qk hn 1 _
  have e:C.g=k:=by simpa[Value.ownBlock] using hk
  subst e;exact Below.heap_setCell _ _ _ _ hne
 have t9: ∀m:Int,KE (fun k=>k=C.s) w (w.setCell ⟨C.s,1,none⟩ (.int .i64 m)):=fun m=>(KE.refl _ w).setCell _ (Or.inl rfl)
 have cW:=Aside0.mk hmem;have cX:=Aside0.mk t9;clear hmem t9 hn hrow hne t8;by_cases h1:at_<0
 ·have hW:=Aside0.mk (show QD C.g l at_= .pointer none from if_neg (fun h=>by have:=h.1;omega));go_enter Tryz.func66,Tryz.ntmps66;go_wp2;go_ret;exact⟨by rw[hW.out];rfl,cW.out _,cX.out _⟩
 by_cases h2:at_<l.length
 ·have hW:=Aside0.mk (show QD C.g l at_= .pointer (some ⟨C.g,at_.toNat,none⟩) from if_pos ⟨by omega,h2⟩);go_enter Tryz.func66,Tryz.ntmps66;go_wp2;go_ret;exact⟨by rw[hW.out];rfl,cW.out _,cX.out _⟩
 have hW:=Aside0.mk (show QD C.g l at_= .pointer none from if_neg (fun h=>by have:=h.2;omega));go_enter Tryz.func66,Tryz.ntmps66;go_wp2;go_ret;exact⟨by rw[hW.out];rfl,cW.out _,cX.out _⟩
theorem Mem.cell{C:Cx}{l:Dk}(h:Mem w C l)(i:Nat)(hi:i<l.length):w.cell? ⟨C.g,i,none⟩=some (.int .u64 (l.getD i 0))∧w.frozen? ⟨C.g,i,none⟩=false:=by
 refine⟨?_,World.ownsRow.frozenAt h.row i⟩;rw[World.ownsRow.cellAt h.row i (by omega)];simp[List.getD_eq_getElem?_getD,List.getElem?_eq_getElem hi]
theorem Mem.store{C:Cx}{l:Dk}(h:Mem w C l)(i:Nat)(v:Int)(hv:0≤v∧v≤18446744073709551615):Mem (w.setCell ⟨C.g,i,none⟩ (.int .u64 v)) C (l.set i v):=by
 obtain⟨n,hn⟩:=h.head;refine⟨h.ne,⟨n,?_⟩,?_,XU h.uD i v hv⟩
 ·rw[List.length_set,Below.heap_setCell _ _ _ _ (fun e=>h.ne e.symm)];exact hn
 have:=(World.ownsRow.stored h.row i (.int .u64 v)).1;rw[List.length_set,List.map_set];exact this
def Cx.Us(C:Cx):Nat→Prop:=fun k=>k=C.s∨k=C.g
theorem uM(w:World)(C:Cx)(l:Dk)(at_:Int)(h:Mem w C l):
  Calls Tryz.prog 32 #[.pointer (some ⟨C.s,0,none⟩),.int .i64 at_] w fun e w'=>e= .returned (.int .u64 (ld l at_))∧Mem w' C l∧KE C.Us w w':=by
 have HM:=Aside0.mk h;clear h;by_cases h1:QS l at_
 ·have hL:=Aside0.mk (show ld l at_=l.getD at_.toNat 0 from if_pos h1);have hW:=Aside0.mk (show QD C.g l at_= .pointer (some ⟨C.g,at_.toNat,none⟩) from if_pos h1);have hlt:at_.toNat<l.length:=by have:=h1.1;have:=h1.2;omega
  go_enter Tryz.func32,Tryz.ntmps32;go_wp2_with fail;refine(I8 _ C l at_ HM.out).mono ?_;rintro e w1 ⟨rfl,hm,hch⟩;have nK:=Aside0.mk hm;have nM:=Aside0.mk (hch.mono (fun k hk=>(Or.inl hk:C.Us k)));obtain⟨c0,-⟩:=hm.cell at_.toNat hlt
  generalize l.getD at_.toNat 0=x at*
  rw[hW.out];clear hm hch h1;go_wp2;go_ret;exact⟨by rw[hL.out];rfl,nK.out,nM.out⟩
 have hL:=Aside0.mk (show ld l at_=0 from if_neg h1);have hW:=Aside0.mk (show QD C.g l at_= .pointer none from if_neg h1);go_enter Tryz.func32,Tryz.ntmps32;go_wp2_with fail;refine(I8 _ C l at_ HM.out).mono ?_;rintro e w1 ⟨rfl,hm,hch⟩;have nK:=Aside0.mk hm;have nM:=Aside0.mk (hch.mono (fun k hk=>(Or.inl hk:C.Us k)));rw[hW.out];clear hm hch h1;go_wp2;go_ret;exact⟨by rw[hL.out];rfl,nK.out,nM.out⟩
theorem qi(w:World)(C:Cx)(l:Dk)(at_ v:Int)(hv:0≤v∧v≤18446744073709551615)(h:Mem w C l):
  Calls Tryz.prog 148 #[.pointer (some ⟨C.s,0,none⟩),.int .i64 at_,.int .u64 v] w fun e w'=>e= .returned (.tuple #[])∧Mem w' C (put l at_ v)∧KE C.Us w w':=by
 have HM:=Aside0.mk h;have HV:=Aside0.mk hv;clear h hv;by_cases h1:QS l at_
 ·have hL:=Aside0.mk (show put l at_ v=l.set at_.toNat v from if_pos h1);have hW:=Aside0.mk (show QD C.g l at_= .pointer (some ⟨C.g,at_.toNat,none⟩) from if_pos h1);have hlt:at_.toNat<l.length:=by have:=h1.1;have:=h1.2;omega
  go_enter Tryz.func148,Tryz.ntmps148;go_wp2_with fail;refine(I8 _ C l at_ HM.out).mono ?_;rintro e w1 ⟨rfl,hm,hch⟩;have nK:=Aside0.mk hm;have nM:=Aside0.mk (hch.mono (fun k hk=>(Or.inl hk:C.Us k)));obtain⟨c0,f0⟩:=hm.cell at_.toNat hlt
  rw[hW.out];clear hm hch h1;go_wp2
  go_end0
  exact⟨rfl,by rw[hL.out];exact nK.out.store _ _ HV.out,nM.out.setCell _ (Or.inl (Or.inr rfl))⟩
 have hL:=Aside0.mk (show put l at_ v=l from if_neg h1);have hW:=Aside0.mk (show QD C.g l at_= .pointer none from if_neg h1);go_enter Tryz.func148,Tryz.ntmps148;go_wp2_with fail;refine(I8 _ C l at_ HM.out).mono ?_;rintro e w1 ⟨rfl,hm,hch⟩;have nK:=Aside0.mk hm;have nM:=Aside0.mk (hch.mono (fun k hk=>(Or.inl hk:C.Us k)));rw[hW.out];clear hm hch h1;go_wp2
 go_end0
 exact⟨rfl,by rw[hL.out];exact nK.out,nM.out⟩
theorem uN(w:World)(C:Cx)(l:Dk)(at_ old v:Int)(hv:0≤v∧v≤18446744073709551615)(h:Mem w C l):
  Calls Tryz.prog 175 #[.pointer (some ⟨C.s,0,none⟩),.int .i64 at_,.int .u64 old,.int .u64 v] w fun e w'=>e= .returned (.bool (KX l at_ old))∧Mem w' C (KL l at_ old v)∧KE C.Us w w':=by
 have HM:=Aside0.mk h;have HV:=Aside0.mk hv;clear h hv;by_cases h1:QS l at_
 ·have hL:ld l at_=l.getD at_.toNat 0:=if_pos h1
  have hW:=Aside0.mk (show QD C.g l at_= .pointer (some ⟨C.g,at_.toNat,none⟩) from if_pos h1);have hlt:at_.toNat<l.length:=by have:=h1.1;have:=h1.2;omega
  have hP:=Aside0.mk (show put l at_ v=l.set at_.toNat v from if_pos h1);by_cases h2:ld l at_=old
  ·have hB:=Aside0.mk (show KX l at_ old=true from decide_eq_true ⟨h1,h2⟩);have hC:=Aside0.mk (show KL l at_ old v=put l at_ v by unfold KL;rw[hB.out,if_pos rfl]);rw[hL] at h2;go_enter Tryz.func175,Tryz.ntmps175;go_wp2_with fail;refine(I8 _ C l at_ HM.out).mono ?_;rintro e w1 ⟨rfl,hm,hch⟩;have nK:=Aside0.mk hm;have nM:=Aside0.mk (hch.mono (fun k hk=>(Or.inl hk:C.Us k)));obtain⟨c0,f0⟩:=hm.cell at_.toNat hlt
   rw[h2] at c0;rw[hW.out];clear hm hch h1 hL h2;go_wp2;go_ret;exact⟨by rw[hB.out];rfl,by rw[hC.out,hP.out];exact nK.out.store _ _ HV.out,nM.out.setCell _ (Or.inl (Or.inr rfl))⟩
  have hB:=Aside0.mk (show KX l at_ old=false from decide_eq_false (fun h=>h2 h.2));have hC:=Aside0.mk (show KL l at_ old v=l by unfold KL;rw[hB.out,if_neg (by simp)]);rw[hL] at h2;go_enter Tryz.func175,Tryz.ntmps175;go_wp2_with fail;refine(I8 _ C l at_ HM.out).mono ?_;rintro e w1 ⟨rfl,hm,hch⟩;have nK:=Aside0.mk hm;have nM:=Aside0.mk (hch.mono (fun k hk=>(Or.inl hk:C.Us k)));obtain⟨c0,f0⟩:=hm.cell at_.toNat hlt
  generalize l.getD at_.toNat 0=x at*
  rw[hW.out];clear hm hch h1 hL;have h3:(x !=old)=true:=bne_iff_ne.2 h2;go_wp2;go_ret;exact⟨by rw[hB.out];rfl,by rw[hC.out];exact nK.out,nM.out⟩
 have hW:=Aside0.mk (show QD C.g l at_= .pointer none from if_neg h1);have hB:=Aside0.mk (show KX l at_ old=false from decide_eq_false (fun h=>h1 h.1));have hC:=Aside0.mk (show KL l at_ old v=l by unfold KL;rw[hB.out,if_neg (by simp)]);go_enter Tryz.func175,Tryz.ntmps175;go_wp2_with fail;refine(I8 _ C l at_ HM.out).mono ?_;rintro e w1 ⟨rfl,hm,hch⟩;have nK:=Aside0.mk hm;have nM:=Aside0.mk (hch.mono (fun k hk=>(Or.inl hk:C.Us k)));rw[hW.out];clear hm hch h1;go_wp2;go_ret;exact⟨by rw[hB.out];rfl,by rw[hC.out];exact nK.out,nM.out⟩
theorem JE(x:Int):0≤Hm x∧Hm x≤18446744073709551615:=by unfold Hm;omega
theorem qj(w:World)(C:Cx)(l:Dk)(at_ n:Int)(h:Mem w C l):
  Calls Tryz.prog 221 #[.pointer (some ⟨C.s,0,none⟩),.int .i64 at_,.int .u64 n] w fun e w'=>e= .returned (.int .u64 (ld l at_))∧Mem w' C (XG l at_ n)∧KE C.Us w w':=by
 have HM:=Aside0.mk h;have HV:=Aside0.mk (JE (ld l at_+n));clear h;by_cases h1:QS l at_
 ·have hL:=Aside0.mk (show ld l at_=l.getD at_.toNat 0 from if_pos h1);have hP:=Aside0.mk (show XG l at_ n=l.set at_.toNat (Hm (ld l at_+n)) from if_pos h1);have hW:=Aside0.mk (show QD C.g l at_= .pointer (some ⟨C.g,at_.toNat,none⟩) from if_pos h1);have hlt:at_.toNat<l.length:=by have:=h1.1;have:=h1.2;omega
  go_enter Tryz.func221,Tryz.ntmps221;go_wp2_with fail;refine(I8 _ C l at_ HM.out).mono ?_;rintro e w1 ⟨rfl,hm,hch⟩;have nK:=Aside0.mk hm;have nM:=Aside0.mk (hch.mono (fun k hk=>(Or.inl hk:C.Us k)));obtain⟨c0,f0⟩:=hm.cell at_.toNat hlt
  generalize l.getD at_.toNat 0=x at*
  rw[hW.out];clear hm hch h1;go_wp2;go_ret;refine⟨by rw[hL.out];rfl,?_,nM.out.setCell _ (Or.inl (Or.inr rfl))⟩;rw[hP.out];have:=nK.out.store at_.toNat _ HV.out
  rw[hL.out] at this⊢
  exact this
 have hL:=Aside0.mk (show ld l at_=0 from if_neg h1);have hP:=Aside0.mk (show XG l at_ n=l from if_neg h1);have hW:=Aside0.mk (show QD C.g l at_= .pointer none from if_neg h1);go_enter Tryz.func221,Tryz.ntmps221;go_wp2_with fail;refine(I8 _ C l at_ HM.out).mono ?_;rintro e w1 ⟨rfl,hm,hch⟩;have nK:=Aside0.mk hm;have nM:=Aside0.mk (hch.mono (fun k hk=>(Or.inl hk:C.Us k)));rw[hW.out];clear hm hch h1;go_wp2;go_ret;exact⟨by rw[hL.out];rfl,by rw[hP.out];exact nK.out,nM.out⟩
def Cx.Gq(C:Cx):Array Value:= #[.int .i64 C.M.Jq,.int .i64 C.M.head,.int .i64 C.M.Iu,.int .i64 C.M.Gi,.int .i64 C.M.DW,.int .i64 C.M.nodes,.int .i64 C.M.Bq,.int .i64 C.M.parts,.int .i64 C.M.all,.int .i64 C.M.k0,.int .i64 C.M.k1,.int .i64 C.M.k2,.int .i64 C.M.k3,.int .i64 C.M.k4,.int .i64 C.M.Ai,.int .i64 C.M.Ak,.int .i64 C.M.BK,.int .i64 C.M.EE,.int .i64 C.M.CQ,.int .i64 C.M.Af,.int .i64 C.M.AO,.slice (some ⟨C.ga,0,none⟩) C.M.at_.length C.ca,.slice (some ⟨C.gr,0,none⟩) C.M.BM.length C.cr]
structure E8 (w:World) (C:Cx):Prop where
 ok:C.M.Ok
 mb:w.heap[C.m]?=some (.cells C.Gq 109 (0,0))
 ra:w.ownsRow 0 3 1 (.slice (some ⟨C.ga,0,none⟩) C.M.at_.length C.ca) C.M.at_.length (C.M.at_.map (Value.int .i64))
 rr:w.ownsRow 0 3 1 (.slice (some ⟨C.gr,0,none⟩) C.M.BM.length C.cr) C.M.BM.length (C.M.BM.map (Value.int .i64))
theorem JF(w:World)(C:Cx)(n:Int):Calls Tryz.prog 103 #[.pointer (some ⟨C.m,0,none⟩),.int .i64 n] w fun e w'=>e= .returned (.int .i64 n)∧w'=w:=by
 go_enter Tryz.func103,Tryz.ntmps103;go_wp2;go_ret;exact⟨rfl,rfl⟩
theorem Ql(w:World)(C:Cx)(h:E8 w C)(v:Int):Calls Tryz.prog 55 #[.pointer (some ⟨C.m,0,none⟩),.int .i64 v] w fun e w'=>e= .returned (.int .i64 (C.M.CU v))∧w'=w:=by
 obtain⟨hok,hm,ha,hr⟩:=h;have hc5:w.cell? ⟨C.m,5,none⟩=some (.int .i64 C.M.nodes):=by simp[World.cell?,hm,Cx.Gq]
 have hc22:w.cell? ⟨C.m,22,none⟩=some (.slice (some ⟨C.gr,0,none⟩) C.M.BM.length C.cr):=by simp[World.cell?,hm,Cx.Gq]
 have hl:=hok.BM;have hn:=hok.nodes;by_cases h1:v<1∨v>C.M.nodes
 ·have hR:=Aside0.mk (show C.M.CU v=0 from if_pos h1);clear ha hr hm;by_cases h2:v<1
  ·go_enter Tryz.func55,Tryz.ntmps55;go_wp2;go_ret;exact⟨by rw[hR.out];rfl,rfl⟩
  have h3:v>C.M.nodes:=by omega
  go_enter Tryz.func55,Tryz.ntmps55;go_wp2;go_ret;exact⟨by rw[hR.out];rfl,rfl⟩
 have hR:=Aside0.mk (show C.M.CU v=C.M.BM.getD (v-1).toNat 0 from if_neg h1);have hlt:(v-1).toNat<C.M.BM.length:=by omega
 have hx:w.cell? ⟨C.gr,(v-1).toNat,none⟩=some (.int .i64 (C.M.BM.getD (v-1).toNat 0)):=by
  rw[World.ownsRow.cellAt hr _ (by omega),List.getElem?_map,List.getElem?_eq_getElem hlt,List.getD_eq_getElem?_getD,List.getElem?_eq_getElem hlt];rfl
 generalize C.M.BM.getD (v-1).toNat 0=x at*
 have h2: ¬v<1:=by omega
 have h3: ¬v>C.M.nodes:=by omega
 have h4:0≤v-1:=by omega
 have h5:v-1<(C.M.BM.length:Int):=by omega
 generalize C.M.BM.length=rl at*
 rw[show(v-1).toNat=v.toNat-1 by omega] at hx;clear ha hr hm hl;go_enter Tryz.func55,Tryz.ntmps55;go_wp2;go_ret;exact⟨by rw[hR.out];rfl,rfl⟩
theorem nN(w:World)(C:Cx):Calls Tryz.prog 83 #[.pointer (some ⟨C.m,0,none⟩)] w fun e w'=>e= .returned (.int .i64 0)∧w'=w:=by
 go_enter Tryz.func83,Tryz.ntmps83;go_wp2_with fail;refine(JF _ C 0).mono ?_;rintro e w1 ⟨rfl,rfl⟩;go_wp2;go_ret;exact⟨rfl,rfl⟩
theorem uP(w:World)(C:Cx):Calls Tryz.prog 165 #[.pointer (some ⟨C.m,0,none⟩)] w fun e w'=>e= .returned (.int .i64 1)∧w'=w:=by
 go_enter Tryz.func165,Tryz.ntmps165;go_wp2_with fail;refine(JF _ C 1).mono ?_;rintro e w1 ⟨rfl,rfl⟩;go_wp2;go_ret;exact⟨rfl,rfl⟩
theorem nO(w:World)(C:Cx):Calls Tryz.prog 143 #[.pointer (some ⟨C.m,0,none⟩)] w fun e w'=>e= .returned (.int .i64 2)∧w'=w:=by
 go_enter Tryz.func143,Tryz.ntmps143;go_wp2_with fail;refine(JF _ C 2).mono ?_;rintro e w1 ⟨rfl,rfl⟩;go_wp2;go_ret;exact⟨rfl,rfl⟩
theorem uQ(w:World)(C:Cx):Calls Tryz.prog 166 #[.pointer (some ⟨C.m,0,none⟩)] w fun e w'=>e= .returned (.int .i64 3)∧w'=w:=by
 go_enter Tryz.func166,Tryz.ntmps166;go_wp2_with fail;refine(JF _ C 3).mono ?_;rintro e w1 ⟨rfl,rfl⟩;go_wp2;go_ret;exact⟨rfl,rfl⟩
theorem uS(w:World)(C:Cx):Calls Tryz.prog 192 #[.pointer (some ⟨C.m,0,none⟩)] w fun e w'=>e= .returned (.int .i64 4)∧w'=w:=by
 go_enter Tryz.func192,Tryz.ntmps192;go_wp2_with fail;refine(JF _ C 4).mono ?_;rintro e w1 ⟨rfl,rfl⟩;go_wp2;go_ret;exact⟨rfl,rfl⟩
theorem nP(w:World)(C:Cx):Calls Tryz.prog 188 #[.pointer (some ⟨C.m,0,none⟩)] w fun e w'=>e= .returned (.int .i64 5)∧w'=w:=by
 go_enter Tryz.func188,Tryz.ntmps188;go_wp2_with fail;refine(JF _ C 5).mono ?_;rintro e w1 ⟨rfl,rfl⟩;go_wp2;go_ret;exact⟨rfl,rfl⟩
theorem ql(w:World)(C:Cx)(h:E8 w C)(i:Int):Calls Tryz.prog 60 #[.pointer (some ⟨C.m,0,none⟩),.int .i64 i] w fun e w'=>e= .returned (.int .i64 (C.M.O8 i))∧w'=w:=by
 obtain⟨hok,hm,ha,hr⟩:=h;have hc0:w.cell? ⟨C.m,0,none⟩=some (.int .i64 C.M.Jq):=by simp[World.cell?,hm,Cx.Gq]
 have AeJ:w.cell? ⟨C.m,15,none⟩=some (.int .i64 C.M.Ak):=by simp[World.cell?,hm,Cx.Gq]
 have hb0:=hok.Jq;have AeK:=hok.Ak;clear ha hr hm hok;by_cases h0:i<0
 ·have hR:=Aside0.mk (show C.M.O8 i= -1 from if_pos (Or.inl h0));go_enter Tryz.func60,Tryz.ntmps60;go_wp2;go_ret;exact⟨by rw[hR.out];rfl,rfl⟩
 by_cases h1:i≥C.M.Ak
 ·have hR:=Aside0.mk (show C.M.O8 i= -1 from if_pos (Or.inr h1));go_enter Tryz.func60,Tryz.ntmps60;go_wp2;go_ret;exact⟨by rw[hR.out];rfl,rfl⟩
 have hR:=Aside0.mk (show C.M.O8 i=C.M.Jq+i from if_neg (by omega));go_enter Tryz.func60,Tryz.ntmps60;go_wp2;go_ret;exact⟨by rw[hR.out];rfl,rfl⟩
theorem Yw(w:World)(C:Cx)(h:E8 w C)(k:Int):Calls Tryz.prog 35 #[.pointer (some ⟨C.m,0,none⟩),.int .i64 k] w fun e w'=>e= .returned (.int .i64 (C.M.Eg k))∧w'=w:=by
 obtain⟨hok,hm,ha,hr⟩:=h;have hc1:w.cell? ⟨C.m,1,none⟩=some (.int .i64 C.M.head):=by simp[World.cell?,hm,Cx.Gq]
 have hb1:=hok.head;clear ha hr hm hok;by_cases h0:k<0
 ·have hR:=Aside0.mk (show C.M.Eg k= -1 from if_pos (Or.inl h0));go_enter Tryz.func35,Tryz.ntmps35;go_wp2;go_ret;exact⟨by rw[hR.out];rfl,rfl⟩
 by_cases h1:k≥5
 ·have hR:=Aside0.mk (show C.M.Eg k= -1 from if_pos (Or.inr h1));go_enter Tryz.func35,Tryz.ntmps35;go_wp2;go_ret;exact⟨by rw[hR.out];rfl,rfl⟩
 have hR:=Aside0.mk (show C.M.Eg k=C.M.head+k from if_neg (by omega));go_enter Tryz.func35,Tryz.ntmps35;go_wp2;go_ret;exact⟨by rw[hR.out];rfl,rfl⟩
theorem TP(w:World)(C:Cx)(h:E8 w C)(i:Int)(j:Int)(hj:0≤j∧j≤100):Calls Tryz.prog 81 #[.pointer (some ⟨C.m,0,none⟩),.int .i64 i,.int .i64 j] w fun e w'=>e= .returned (.int .i64 (C.M.Ja i j))∧ ∃n,w'=w.drewN n:=by
 obtain⟨hok,hm,ha,hr⟩:=h;have hc2:w.cell? ⟨C.m,2,none⟩=some (.int .i64 C.M.Iu):=by simp[World.cell?,hm,Cx.Gq]
 have AeL:w.cell? ⟨C.m,14,none⟩=some (.int .i64 C.M.Ai):=by simp[World.cell?,hm,Cx.Gq]
 have hc16:w.cell? ⟨C.m,16,none⟩=some (.int .i64 C.M.BK):=by simp[World.cell?,hm,Cx.Gq]
 have hb2:=hok.Iu;have AeM:=hok.Ai;have hb16:=hok.BK;clear ha hr hm hok;by_cases h0:i<0
 ·have hR:=Aside0.mk (show C.M.Ja i j= -1 from if_pos (Or.inl h0));go_enter Tryz.func81,Tryz.ntmps81;go_wp2;go_ret;exact⟨by rw[hR.out];rfl,0,rfl⟩
 by_cases h1:i≥C.M.Ai
 ·have hR:=Aside0.mk (show C.M.Ja i j= -1 from if_pos (Or.inr h1));go_enter Tryz.func81,Tryz.ntmps81;go_wp2;go_ret;exact⟨by rw[hR.out];rfl,0,rfl⟩
 have hR:=Aside0.mk (show C.M.Ja i j=C.M.Iu+i*(2+C.M.BK)+j from if_neg (by omega));have hmul:=uK (a:=i) (b:=2+C.M.BK) (x:=4) (y:=10) (by omega) (by omega) (by omega) (by omega);go_enter Tryz.func81,Tryz.ntmps81;go_wp2
 go_quiet (fail)
 go_wp2;go_ret;exact⟨by rw[hR.out];rfl,nq,rfl⟩
theorem Qm(w:World)(C:Cx)(h:E8 w C)(p:Int)(j:Int)(hj:0≤j∧j≤100):Calls Tryz.prog 80 #[.pointer (some ⟨C.m,0,none⟩),.int .i64 p,.int .i64 j] w fun e w'=>e= .returned (.int .i64 (C.M.BI p j))∧w'=w:=by
 obtain⟨hok,hm,ha,hr⟩:=h;have hc3:w.cell? ⟨C.m,3,none⟩=some (.int .i64 C.M.Gi):=by simp[World.cell?,hm,Cx.Gq]
 have hc6:w.cell? ⟨C.m,6,none⟩=some (.int .i64 C.M.Bq):=by simp[World.cell?,hm,Cx.Gq]
 have hb3:=hok.Gi;have hb6:=hok.Bq;clear ha hr hm hok;by_cases h0:p<1
 ·have hR:=Aside0.mk (show C.M.BI p j= -1 from if_pos (Or.inl h0));go_enter Tryz.func80,Tryz.ntmps80;go_wp2;go_ret;exact⟨by rw[hR.out];rfl,rfl⟩
 by_cases h1:p>C.M.Bq
 ·have hR:=Aside0.mk (show C.M.BI p j= -1 from if_pos (Or.inr h1));go_enter Tryz.func80,Tryz.ntmps80;go_wp2;go_ret;exact⟨by rw[hR.out];rfl,rfl⟩
 have hR:=Aside0.mk (show C.M.BI p j=C.M.Gi+(p-1)*6+j from if_neg (by omega));go_enter Tryz.func80,Tryz.ntmps80;go_wp2;go_ret;exact⟨by rw[hR.out];rfl,rfl⟩
theorem qo(w:World)(C:Cx)(h:E8 w C)(i:Int):Calls Tryz.prog 57 #[.pointer (some ⟨C.m,0,none⟩),.int .i64 i] w fun e w'=>e= .returned (.int .i64 (C.M.VM i))∧ ∃n,w'=w.drewN n:=by
 go_enter Tryz.func57,Tryz.ntmps57;go_wp2_with fail;refine(TP _ C h i 0 (by omega)).mono ?_;rintro e w1 ⟨rfl,nq,rfl⟩;go_wp2;go_ret;exact⟨rfl,nq,rfl⟩
theorem iG(w:World)(C:Cx)(h:E8 w C)(i:Int):Calls Tryz.prog 136 #[.pointer (some ⟨C.m,0,none⟩),.int .i64 i] w fun e w'=>e= .returned (.int .i64 (C.M.IZ i))∧ ∃n,w'=w.drewN n:=by
 go_enter Tryz.func136,Tryz.ntmps136;go_wp2_with fail;refine(TP _ C h i 1 (by omega)).mono ?_;rintro e w1 ⟨rfl,nq,rfl⟩;go_wp2;go_ret;exact⟨rfl,nq,rfl⟩
theorem nS(w:World)(C:Cx)(h:E8 w C)(i:Int)(j:Int):Calls Tryz.prog 137 #[.pointer (some ⟨C.m,0,none⟩),.int .i64 i,.int .i64 j] w fun e w'=>e= .returned (.int .i64 (C.M.IJ i j))∧ ∃n,w'=w.drewN n:=by
 have hM:=Aside0.mk h;obtain⟨hok,hm,ha,hr⟩:=h;have hc16:w.cell? ⟨C.m,16,none⟩=some (.int .i64 C.M.BK):=by simp[World.cell?,hm,Cx.Gq]
 have hb16:=hok.BK;clear ha hr hm hok;by_cases h0:j<0
 ·have hR:=Aside0.mk (show C.M.IJ i j= -1 from if_pos (Or.inl h0));go_enter Tryz.func137,Tryz.ntmps137;go_wp2;go_ret;exact⟨by rw[hR.out];rfl,0,rfl⟩
 by_cases h1:j≥C.M.BK
 ·have hR:=Aside0.mk (show C.M.IJ i j= -1 from if_pos (Or.inr h1));go_enter Tryz.func137,Tryz.ntmps137;go_wp2;go_ret;exact⟨by rw[hR.out];rfl,0,rfl⟩
 have hR:=Aside0.mk (show C.M.IJ i j=C.M.Ja i (2+j) from if_neg (by omega));go_enter Tryz.func137,Tryz.ntmps137;go_wp2_with fail;refine(TP _ C hM.out i (2+j) (by omega)).mono ?_;rintro e w1 ⟨rfl,nq,rfl⟩;go_wp2;go_ret;exact⟨by rw[hR.out];rfl,nq,rfl⟩
theorem uT(w:World)(C:Cx)(h:E8 w C)(p:Int):Calls Tryz.prog 216 #[.pointer (some ⟨C.m,0,none⟩),.int .i64 p] w fun e w'=>e= .returned (.int .i64 (C.M.FZ p))∧w'=w:=by
 go_enter Tryz.func216,Tryz.ntmps216;go_wp2_with fail;refine(Qm _ C h p 0 (by omega)).mono ?_;rintro e w1 ⟨rfl,rfl⟩;go_wp2;go_ret;exact⟨rfl,rfl⟩
theorem Yx(w:World)(C:Cx)(h:E8 w C)(p:Int):Calls Tryz.prog 54 #[.pointer (some ⟨C.m,0,none⟩),.int .i64 p] w fun e w'=>e= .returned (.int .i64 (C.M.FI p))∧w'=w:=by
 go_enter Tryz.func54,Tryz.ntmps54;go_wp2_with fail;refine(Qm _ C h p 1 (by omega)).mono ?_;rintro e w1 ⟨rfl,rfl⟩;go_wp2;go_ret;exact⟨rfl,rfl⟩
theorem uU(w:World)(C:Cx)(h:E8 w C)(p:Int)(j:Int):Calls Tryz.prog 186 #[.pointer (some ⟨C.m,0,none⟩),.int .i64 p,.int .i64 j] w fun e w'=>e= .returned (.int .i64 (C.M.Gp p j))∧w'=w:=by
 have hM:=Aside0.mk h;obtain⟨hok,hm,ha,hr⟩:=h;clear ha hr hm hok;by_cases h0:j<0
 ·have hR:=Aside0.mk (show C.M.Gp p j= -1 from if_pos (Or.inl h0));go_enter Tryz.func186,Tryz.ntmps186;go_wp2;go_ret;exact⟨by rw[hR.out];rfl,rfl⟩
 by_cases h1:j≥4
 ·have hR:=Aside0.mk (show C.M.Gp p j= -1 from if_pos (Or.inr h1));go_enter Tryz.func186,Tryz.ntmps186;go_wp2;go_ret;exact⟨by rw[hR.out];rfl,rfl⟩
 have hR:=Aside0.mk (show C.M.Gp p j=C.M.BI p (2+j) from if_neg (by omega));go_enter Tryz.func186,Tryz.ntmps186;go_wp2_with fail;refine(Qm _ C hM.out p (2+j) (by omega)).mono ?_;rintro e w1 ⟨rfl,rfl⟩;go_wp2;go_ret;exact⟨by rw[hR.out];rfl,rfl⟩
theorem Oy(w:World)(C:Cx)(h:E8 w C)(v j:Int)(hj:0≤j∧j≤100):Calls Tryz.prog 67 #[.pointer (some ⟨C.m,0,none⟩),.int .i64 v,.int .i64 j] w fun e w'=>e= .returned (.int .i64 (C.M.node v j))∧w'=w:=by
 have hM:=Aside0.mk h;obtain⟨hok,hm,ha,hr⟩:=h;have hc21:w.cell? ⟨C.m,21,none⟩=some (.slice (some ⟨C.ga,0,none⟩) C.M.at_.length C.ca):=by simp[World.cell?,hm,Cx.Gq]
 have hl:=hok.at_;have hn:=hok.nodes;by_cases h1:C.M.CU v=0
 ·have hR:=Aside0.mk (show C.M.node v j= -1 from if_pos h1);have hz:=Aside0.mk h1;clear ha hr hm h1 hl hc21 hok;go_enter Tryz.func67,Tryz.ntmps67;go_wp2_with fail;refine(Ql _ C hM.out v).mono ?_;rintro e w1 ⟨rfl,rfl⟩;rw[hz.out];go_wp2;go_ret;exact⟨by rw[hR.out];rfl,rfl⟩
 have hR:=Aside0.mk (show C.M.node v j=C.M.at_.getD (v-1).toNat 0+j from if_neg h1);have hv:1≤v∧v≤C.M.nodes:=by
  unfold Bz.CU at h1;by_cases e:v<1∨v>C.M.nodes
  ·rw[if_pos e] at h1;omega
  omega
 have hbx:=hok.ats (v-1).toNat;have hlt:(v-1).toNat<C.M.at_.length:=by omega
 have hx:w.cell? ⟨C.ga,(v-1).toNat,none⟩=some (.int .i64 (C.M.at_.getD (v-1).toNat 0)):=by
  rw[World.ownsRow.cellAt ha _ (by omega),List.getElem?_map,List.getElem?_eq_getElem hlt,List.getD_eq_getElem?_getD,List.getElem?_eq_getElem hlt];rfl
 generalize C.M.at_.getD (v-1).toNat 0=x at*
 have h4:0≤v-1:=by omega
 have h5:v-1<(C.M.at_.length:Int):=by omega
 generalize C.M.at_.length=rl at*
 rw[show(v-1).toNat=v.toNat-1 by omega] at hx;generalize hy:C.M.CU v=y at*
 have h6:(y==0)=false:=beq_eq_false_iff_ne.2 h1;have hY:=Aside0.mk hy;clear ha hr hm hl hy hok;go_enter Tryz.func67,Tryz.ntmps67;go_wp2_with fail;refine(Ql _ C hM.out v).mono ?_;rintro e w1 ⟨rfl,rfl⟩;rw[hY.out];go_wp2;go_ret;exact⟨by rw[hR.out];rfl,rfl⟩
theorem Ut(w:World)(C:Cx)(h:E8 w C)(v:Int):Calls Tryz.prog 56 #[.pointer (some ⟨C.m,0,none⟩),.int .i64 v] w fun e w'=>e= .returned (.int .i64 (C.M.D7 v))∧w'=w:=by
 go_enter Tryz.func56,Tryz.ntmps56;go_wp2_with fail;refine(Oy _ C h v 0 (by omega)).mono ?_;rintro e w1 ⟨rfl,rfl⟩;go_wp2;go_ret;exact⟨rfl,rfl⟩
theorem Xg(w:World)(C:Cx)(h:E8 w C)(v:Int):Calls Tryz.prog 33 #[.pointer (some ⟨C.m,0,none⟩),.int .i64 v] w fun e w'=>e= .returned (.int .i64 (C.M.DK v))∧w'=w:=by
 go_enter Tryz.func33,Tryz.ntmps33;go_wp2_with fail;refine(Oy _ C h v 1 (by omega)).mono ?_;rintro e w1 ⟨rfl,rfl⟩;go_wp2;go_ret;exact⟨rfl,rfl⟩
theorem uV(w:World)(C:Cx)(h:E8 w C)(v:Int):Calls Tryz.prog 240 #[.pointer (some ⟨C.m,0,none⟩),.int .i64 v] w fun e w'=>e= .returned (.int .i64 (C.M.Mark v))∧w'=w:=by
 go_enter Tryz.func240,Tryz.ntmps240;go_wp2_with fail;refine(Oy _ C h v 2 (by omega)).mono ?_;rintro e w1 ⟨rfl,rfl⟩;go_wp2;go_ret;exact⟨rfl,rfl⟩
theorem Yy(w:World)(C:Cx)(h:E8 w C)(v:Int):Calls Tryz.prog 36 #[.pointer (some ⟨C.m,0,none⟩),.int .i64 v] w fun e w'=>e= .returned (.int .i64 (C.M.Next v))∧w'=w:=by
 go_enter Tryz.func36,Tryz.ntmps36;go_wp2_with fail;refine(Oy _ C h v 3 (by omega)).mono ?_;rintro e w1 ⟨rfl,rfl⟩;go_wp2;go_ret;exact⟨rfl,rfl⟩
theorem Xh(w:World)(C:Cx)(h:E8 w C):Calls Tryz.prog 30 #[.pointer (some ⟨C.m,0,none⟩)] w fun e w'=>e= .returned (.int .i64 C.M.nodes)∧w'=w:=by
 obtain⟨hok,hm,ha,hr⟩:=h;have hc5:w.cell? ⟨C.m,5,none⟩=some (.int .i64 C.M.nodes):=by simp[World.cell?,hm,Cx.Gq]
 have hb5:=hok.nodes;clear ha hr hm hok;go_enter Tryz.func30,Tryz.ntmps30;go_wp2;go_ret;exact⟨rfl,rfl⟩
theorem nT(w:World)(C:Cx)(h:E8 w C):Calls Tryz.prog 145 #[.pointer (some ⟨C.m,0,none⟩)] w fun e w'=>e= .returned (.int .i64 C.M.parts)∧w'=w:=by
 obtain⟨hok,hm,ha,hr⟩:=h;have hc7:w.cell? ⟨C.m,7,none⟩=some (.int .i64 C.M.parts):=by simp[World.cell?,hm,Cx.Gq]
 have hb7:=hok.parts;clear ha hr hm hok;go_enter Tryz.func145,Tryz.ntmps145;go_wp2;go_ret;exact⟨rfl,rfl⟩
theorem Uu(w:World)(C:Cx)(h:E8 w C):Calls Tryz.prog 11 #[.pointer (some ⟨C.m,0,none⟩)] w fun e w'=>e= .returned (.int .i64 C.M.nodes)∧w'=w:=by
 go_enter Tryz.func11,Tryz.ntmps11;go_wp2_with fail;refine(Xh _ C h).mono ?_;rintro e w1 ⟨rfl,rfl⟩;go_wp2;go_ret;exact⟨rfl,rfl⟩
end Go.Proofs.YtmpcfamcbaineaaGreat.Mo
