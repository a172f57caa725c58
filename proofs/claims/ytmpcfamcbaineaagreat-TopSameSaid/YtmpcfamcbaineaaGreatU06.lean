/- Part 6 of the proof of the row of the law TopSame: contracts of what it reaches, and the plain law. No condition. -/
import Derived.Test.YtmpcfamcbaineaaGreatU05
set_option linter.all false
set_option maxHeartbeats 8000000
set_option maxRecDepth 100000
open Go.RowKit
namespace Go.Proofs.YtmpcfamcbaineaaGreat.Mo
variable{B H H' H2 H1 Ju Hx Hr:List Bk}{b d n i j t m ty q et jj bf rb bq:Nat}{w w0:World}{e:GZ}{v u nv ov rv H6 H7:Value}{α:Type}{W:Wo}{x:Mu}{y z:Operand}{k ik:IntKind}{F R':BB}{C:Cx}{l l':Dk}{K:(World→Prop)→GZ→Prop}{Q:Exit→Act→World→Prop}{Aq:Array Oper}{ef:Nat→Bool}{S:World→Prop}{D0 D:LV}{vs zs:List Value}{U pv:List (Nat×Value)}{ps:String}{af:Array Edge}{op:BinOp}{parts:Array (Nat×Operand)}{rr qs:List Nat}{M:Bz}{ts ws:List Int}{dr Ah least Di:Int}{Ae:Ev}
def Fm(o:I4):List Value:=[.int .i64 o.kind,.int .i64 o.a,.int .i64 o.b,.int .i64 o.c]
def Nk:List I4→List Value
 |[]=>[]
 |o::r=>Fm o++Nk r
theorem Xu: ∀(os:List I4),(Nk os).length=os.length*4
 |[]=>rfl
 |o::r=>by simp[Nk,Fm,Xu r];omega
def Dl(l:List Int):List Value:=l.map (.int .i64)
def mC(ov:Value)(Aq:List I4)(B:List Bk):Prop:=
 (Aq=[]∧(∃p c,ov= .slice p 0 c)∧B=[])∨(Aq≠[]∧ ∃b Dh rest c,ov= .slice (some ⟨b,List.length Dh,none⟩) Aq.length c∧Aq.length≤c∧B=[⟨b,65,Dh++(Nk Aq++rest)⟩])
def Me(ov:Value)(Aq:List I4):BB:=fun D w=> ∃B,mC ov Aq B∧Az B Cj D w
theorem Ap{Aq:List I4}:CV (Me ov Aq):=AQ fun _=>Ba (Ac Aa _)
theorem U5{Aq:List I4}{Rx:BB}(h:mC ov Aq B):Wk (Az B Rx) (BG Rx (Me ov Aq)):=by
 have e:Az B Rx=BG Rx (Az B Cj):=by rw[D9,EK,Gl]
 rw[e];exact Wk.BG (Wk.refl _) (Wk.of fun D w hb=>⟨B,h,hb⟩)
theorem PU{Dh rest:List Value}{c:Nat}{o:I4}{r:List I4}{Rx:BB}(hc:(o::r).length≤c):Wk (Az [⟨b,65,Dh++(Nk (o::r)++rest)⟩] Rx) (BG Rx (Me (.slice (some ⟨b,if c=1 then Dh.length else Dh.length+4,none⟩) r.length (c-1)) r)):=by
 cases r with
 |nil=>exact Wk.tail.trans (U5 (B:=[]) (.inl ⟨rfl,⟨_,_,rfl⟩,rfl⟩))
 |cons o2 r=>
  simp only[List.length_cons] at hc;have hc1:c≠1:=by omega
  rw[if_neg hc1];refine U5 (.inr ⟨by simp,b,Dh++Fm o,rest,c-1,?_,?_,?_⟩)
  ·simp[Fm]
  ·simp only[List.length_cons];omega
  simp[Nk]
theorem PV{o:I4}{r:List I4}{Rx:BB}:Wk (BG Rx (Me ov (o::r))) (fun D w=> ∃b Dh rest c,(ov= .slice (some ⟨b,List.length Dh,none⟩) (o::r).length c∧(o::r).length≤c)∧Az [⟨b,65,Dh++(Nk (o::r)++rest)⟩] Rx D w):=Wk.of fun D w h=>by
 rw[D9] at h;obtain⟨D1,D2,⟨B,hB,h1⟩,h2,h3,h4⟩:=h;rcases hB with⟨h5,-⟩|⟨-,b,Dh,rest,c,h5,h6,rfl⟩
 ·cases h5
 refine⟨b,Dh,rest,c,⟨h5,h6⟩,?_⟩;have:BG (Az [⟨b,65,Dh++(Nk (o::r)++rest)⟩] Cj) Rx D w:=⟨D1,D2,h1,h2,h3,h4⟩;rw[EK,Gl] at this;exact this
theorem RC{Rx:BB}:Wk (BG Rx (Me ov [])) (fun D w=>(∃p c,ov= .slice p 0 c)∧BG Rx (Me ov []) D w):=Wk.of fun D w h=>by
 obtain⟨D1,D2,h1,⟨B,hB,h2⟩,h3,h4⟩:=h;refine⟨?_,D1,D2,h1,⟨B,hB,h2⟩,h3,h4⟩;rcases hB with⟨-,h5,-⟩|⟨h5,-⟩
 ·exact h5
 exact(h5 rfl).elim
def Mu.cs(C:Cx)(x:Mu)(ov rv:Value)(bf:Nat)(H6 H7 nv:Value):List Value:=
 [AX C.m,.int .i64 x.i,ov,.int .i64 x.op.kind,.int .i64 x.op.a,.int .i64 x.op.b,.int .i64 x.op.c,rv,AX bf,.int .u64 x.AL,.int .u64 x.still,.int .u64 x.Bh,.int .u64 x.Ah,.int .i64 x.k,H6,H7,.int .i64 x.Ae.kind,.int .i64 x.Ae.Di,.int .i64 x.Ae.a,.int .i64 x.Ae.b,.int .i64 x.Ae.c,nv]
def zp(t:yV)(d:Nat)(tv:Value)(B:List Bk):Prop:=match t with
 | .BX=>tv=fm 62 d∧B=[]
 | .DZ=>tv=fm 113 d∧B=[]
 | .F5=> ∃b,tv= .func (.func 149) #[] #[AX b]∧B=[⟨b,83,[AX d]⟩]
 | .DN=> ∃b,tv= .func (.func 156) #[] #[AX b]∧B=[⟨b,83,[AX d]⟩]
 | .FN=> ∃b,tv= .func (.func 157) #[] #[AX b]∧B=[⟨b,83,[AX d]⟩]
abbrev Sz(rb:Nat)(x:Mu)(rest:List Value):Bk:=⟨rb,3,Dl x.Af++rest⟩
def mE(C:Cx)(d:Nat)(x:Mu)(ov rv:Value)(bf:Nat)(H6 H7 nv:Value)(RN:BB):Prop:= ∃rb rest m,rv=Dc rb x.Af.length m∧x.Af.length+List.length rest=m∧match x.next with
 | .ES=>nv=fm 90 d∧RN=Az [Sz rb x rest] (BG (XJ C bf x.Ar) (Me ov x.Aq))
 | .Kq=>nv=fm 96 d∧RN=Az [Sz rb x rest] (BG (XJ C bf x.Ar) (Me ov x.Aq))
 | .EU=>nv=fm 94 d∧ ∃q,H6=AX q∧RN=Az [Sz rb x rest] (BG (aS C q x.alloc) (BG (XJ C bf x.Ar) (Me ov x.Aq)))
 | .fail e=> ∃b1 b2,nv= .func (.func 92) #[] #[AX b1,AX b2]∧RN=Az [Sz rb x rest,⟨b1,83,[AX d]⟩,⟨b2,27,[.int .i64 e]⟩] (BG (XJ C bf x.Ar) (Me ov x.Aq))
 | .Jq w=> ∃b1 b2,nv= .func (.func 147) #[] #[AX b1,AX b2]∧RN=Az [Sz rb x rest,⟨b1,83,[AX d]⟩,⟨b2,90,[.int .u64 w]⟩] (BG (XJ C bf x.Ar) (Me ov x.Aq))
 | .Dt t=> ∃b1 b2 tv q B,nv= .func (.func 179) #[] #[AX b1,AX b2]∧H7=AX q∧zp t d tv B∧RN=Az (Sz rb x rest::⟨b1,83,[AX d]⟩::⟨b2,1,[tv]⟩::B) (BG (eH C q ⟨x.Bl,bf,x.Ar⟩) (Me ov x.Aq))
 | .head=>nv=fm 95 d∧RN=Az [Sz rb x rest] (BG (XJ C bf x.Ar) (Me ov x.Aq))
 | .G5=>nv=fm 121 d∧RN=Az [Sz rb x rest] (BG (XJ C bf x.Ar) (Me ov x.Aq))
 | .old=>nv=fm 122 d∧RN=Az [Sz rb x rest] (BG (XJ C bf x.Ar) (Me ov x.Aq))
 | .Es=>nv=fm 158 d∧RN=Az [Sz rb x rest] (BG (XJ C bf x.Ar) (Me ov x.Aq))
 | .NU=>nv=fm 97 d∧RN=Az [Sz rb x rest] (BG (XJ C bf x.Ar) (Me ov x.Aq))
theorem IU(nv:Value)(RN:BB)(h:mE C d x ov rv bf H6 H7 nv RN):CV RN:=by
 obtain⟨rb,rest,m,-,-,h⟩:=h;split at h
 ·obtain⟨-,rfl⟩:=h;exact Ac (Ag Am Ap) _
 ·obtain⟨-,rfl⟩:=h;exact Ac (Ag Am Ap) _
 ·obtain⟨-,q,-,rfl⟩:=h;exact Ac (Ag GG (Ag Am Ap)) _
 ·obtain⟨b1,b2,-,rfl⟩:=h;exact Ac (Ag Am Ap) _
 ·obtain⟨b1,b2,-,rfl⟩:=h;exact Ac (Ag Am Ap) _
 ·obtain⟨b1,b2,tv,q,B,-,-,-,rfl⟩:=h;exact Ac (Ag CZ Ap) _
 all_goals
  obtain⟨-,rfl⟩:=h;exact Ac (Ag Am Ap) _
def J9(C:Cx)(d:Nat)(x:Mu):BB:=fun D w=> ∃ov:Value,∃rv:Value,∃bf:Nat,∃H6:Value,∃H7:Value,uF 133 d (x.cs C ov rv bf H6 H7) (mE C d x ov rv bf H6 H7) D w
theorem Dj:CV (J9 C d x):=AQ fun _=>AQ fun _=>AQ fun _=>AQ fun _=>AQ fun _=>Bd IU
def Nl(C:Cx)(d:Nat)(x:Mu)(l:Dk)(x':Mu)(l':Dk):Prop:= ∀(ov rv:Value) (bf:Nat) (H6 H7:Value) nv RN,mE C d x ov rv bf H6 H7 nv RN→ ∃KZ fs cs,nv= .func (.func KZ) (List.toArray fs) (List.toArray cs)∧Cm KZ=true∧Cv C KZ (fs++[AX C.s]++cs) l (Az [⟨d,133,x.cs C ov rv bf H6 H7 nv⟩] RN) (.tuple #[]) l' (J9 C d x')
abbrev Gh(C:Cx)(d:Nat)(x:Mu)(ov:Value)(rb:Nat)(rest:List Value)(m bf:Nat)(H6 H7 nv:Value)(B:List Bk):BB:=
 Az (⟨d,133,x.cs C ov (Dc rb x.Af.length m) bf H6 H7 nv⟩::Sz rb x rest::B) (BG (XJ C bf x.Ar) (Me ov x.Aq))
def Np(o:I4):Prop:=(0≤o.kind∧o.kind≤255)∧(0≤o.a∧o.a≤255)∧(0≤o.b∧o.b≤255)∧(0≤o.c∧o.c≤255)
def RE:cU→Bool
 | .old| .Es| .Dt .DN| .Dt .FN=>true
 |_=>false
structure Mu.Ok (M:Bz) (x:Mu):Prop where
 Af: ∀v∈x.Af,EW v
 len:x.Af.length≤8
 Aq: ∀o∈x.Aq,Np o
 op:Np x.op
 NM:Bf x.AL∧Bf x.still∧Bf x.Bh∧Bf x.Ah
 Ar: ∀t∈x.Ar,Bf t
 le:(x.Ar.length:Int)≤M.CQ
 lt:(∀t,x.next≠ .Dt t)→(x.Ar.length:Int)<M.CQ
 k:x.next= .Dt .DZ→x.k≤x.Af.length
 EU:x.next= .EU→x.alloc.Ok∧x.Af.length<8∧EW x.alloc.node
 bQ:x.next= .G5∨x.next= .NU∨x.next= .head∧x.op.kind=1→x.Af.length<8
 NU:x.next= .NU→x.op.a<x.Af.length
 hd:x.next= .head→x.op.kind=1∨x.op.kind=2
 wr:RE x.next=true∨x.next= .head∧x.op.kind=2→0≤x.root x.op.c
 Dt: ∀t,x.next= .Dt t→(⟨x.Bl,0,x.Ar⟩:II).Ok M
 Kq:x.next= .Kq→x.Af≠[]
 Jq: ∀w,x.next= .Jq w→Bf w
theorem Jo{l:List Int}:(Dl l).length=l.length:=by simp[Dl]
theorem II.qF{b:Bu}{bf':Nat}(h:(⟨b,bf,ts⟩:II).Ok M):(⟨b,bf',ts⟩:II).Ok M:=⟨h.v,h.AV,h.put,h.ts,h.le,h.lt,h.ne⟩
theorem qG{m:II}:Wk (eH C q m) (XJ C m.bf m.ts):=fun D w h=>by
 obtain⟨tv,B,cv,pv,nv,RN,⟨hs,hN⟩,hb⟩:=h;obtain⟨D1,h1,h2⟩:=Wk.tail D w hb;split at hN
 ·obtain⟨-,rfl⟩:=hN;exact⟨D1,⟨tv,B,hs,h1⟩,h2⟩
 ·obtain⟨-,q,-,rfl⟩:=hN;obtain⟨D2,h3,h4⟩:=Eo h1;exact⟨D2,⟨tv,B,hs,h3⟩,fun k hk=>h2 k (h4 k hk)⟩
 obtain⟨-,q,-,rfl⟩:=hN;obtain⟨D2,h3,h4⟩:=Eo h1;exact⟨D2,⟨tv,B,hs,h3⟩,fun k hk=>h2 k (h4 k hk)⟩
section
variable{R:BB}
variable{lo:Nat→Bool}{d:Option Nat}{gd:Option (Nat×Bool)}{x:Operand}
theorem fA{off:Nat}{cs:List Value}(ho:Aq[i]?=some ⟨d,.load t x,ty,ps,af,gd⟩)(Dy:(ef i,BA Aq ⟨d,.load t x,ty,ps,af,gd⟩ e)=(false,true))(hx:EF e x=some (.pointer (some ⟨b,off,none⟩)))(h1:Bq t n=true)(hi:In b cs H)(hv:OQ cs off n=vs)(hn:vs.length=n)
  (h:X Tryz.prog Aq lo ef K rr (Sy C w0 D0 l H R) (bif lo i then(i,.agg vs.toArray)::U else U) (Dz d (.agg vs.toArray) e)):X Tryz.prog Aq lo ef K (i::rr) (Sy C w0 D0 l H R) U e:=by
 have⟨hef,hw⟩:=Fb Dy;subst hv;exact qx (yU ho Dy hx) h1 hi hn h
end
theorem Wn{Dh rest:List Value}{o:I4}{r:List I4}:OQ (Dh++(Nk (o::r)++rest)) (Dh.length+(0:Int).toNat*4) 4=Fm o:=by
 simp[OQ,Nk,Fm]
theorem Oi{rest:List Value}(h:x.Af.length+rest.length=m):(Dl x.Af).length=x.Af.length*1∧(Dl x.Af).length+rest.length=m*1:=by rw[Jo];omega
theorem EL{rs:List Value}(h:j<ts.length):Qb (Dl ts++rs) (0+(j:Int).toNat*1)=some (.int .i64 (ts.getD j 0)):=by
 rw[FO];unfold Dl;rw[show 0+(j:Int).toNat*1=j by omega,List.getElem?_append_left (by simpa using h)];simp[h]
theorem fB{d:Option Nat}{gd:Option (Nat×Bool)}{x:Operand}{len c off:Nat}(ho0:(Aq[i]?,BA Aq ⟨d,.slice t x (some y) none none,ty,ps,af,gd⟩ e)=(some ⟨d,.slice t x (some y) none none,ty,ps,af,gd⟩,true))(hx:EF e x=some (.slice (some ⟨b,off,none⟩) len c))(hy:EF e y=some (.int ik 1))(ht:Ip t et n=true)(h0:1≤len)(h1:len≤c)
  (h:Eh Aq jj U S e):Eh Aq jj ((i,.slice (some ⟨b,if c=1 then off else off+n,none⟩) (len-1) (c-1))::U) S e:=have⟨ho,hw⟩:=Fb ho0;
 PM ho hw (fun w _=>N8 (m:=Instr.sliceAt t (ev e x) (some (ev e y)) none none) rfl (by rw[CY hx,CY hy];exact qA ht h0 h1 w)) h
theorem bT{rs:List Int}{v:Int}:(rs++[v]).dropLast=rs:=List.dropLast_concat
theorem Zk(ts:List Int)(x:Int):Dl ts++[.int .i64 x]=Dl (ts++[x]):=by simp[Dl]
theorem fC(rs:List Int)(v:Int)(rest:List Value):Dl (rs++[v])++rest=Dl rs++(.int .i64 v::rest):=by simp[Dl]
theorem Pe:Pm 133 3 3=true:=by kernel_rfl
theorem mH:Pm 133 4 7=true:=by kernel_rfl
theorem fD:Pm 24 6 10=true:=by kernel_rfl
theorem TF:Pm 65 0 0=true:=by kernel_rfl
theorem xw:Cm 117=true:=by kernel_rfl
theorem ax:Bq 65 4=true:=by kernel_rfl
theorem xx:one 131=true:=by kernel_rfl
theorem XL:one 41=true:=by kernel_rfl
theorem Mv:one 66=true:=by kernel_rfl
theorem Jj:one 83=true:=by kernel_rfl
theorem fE:aX 24 6 3=true:=by kernel_rfl
theorem CX:Ec 41 (JU)=true:=by kernel_rfl
theorem Bt:LU 65=some [.int .i64 0,.int .i64 0,.int .i64 0,.int .i64 0]:=by kernel_rfl
theorem PW{R:BB}(hl:CV R){a0 a1 a2 a3 a4 a5 a6 a7 a8 a9 a10 a11 a12 Zb Zc aQ a16 a17 RK RL a20 a21:Value}{e0 e1 e2 e3 e4:Int}:Cv C 117 [AX d,.agg #[.int .i64 e0,.int .i64 e1,.int .i64 e2,.int .i64 e3,.int .i64 e4]] l (Az (⟨d,133,[a0,a1,a2,a3,a4,a5,a6,a7,a8,a9,a10,a11,a12,Zb,Zc,aQ,a16,a17,RK,RL,a20,a21]⟩::Hx) R) (.tuple #[]) l (Az (⟨d,133,[a0,a1,a2,a3,a4,a5,a6,a7,a8,a9,a10,a11,a12,Zb,Zc,aQ,.int .i64 e0,.int .i64 e1,.int .i64 e2,.int .i64 e3,.int .i64 e4,fm 90 d]⟩::Hx) R):=by
 refine Ci 13 Tryz.func117 Z (Ac hl _) fun w0 D0=>VY hl<|AZ 2 [1] Z<|F7 Z CE fun b0=>AY 14 [1152,0,1,1] Z<|T.BJ Z fun W D h=>?_
 obtain⟨D1,h1,h2⟩:=A8 h;exact⟨D1,⟨rfl,rfl,h1⟩,h2⟩
theorem SA{R:BB}(hl:CV R){a0 a1 a2 a4 a5 a6 a7 a8 a9 a10 a11 a12 Zb Zc aQ a16 a17 RK RL a20 a21:Value}{k e:Int}:Cv C 93 [AX d,.int .i64 e] l (Az (⟨d,133,[a0,a1,a2,.int .i64 k,a4,a5,a6,a7,a8,a9,a10,a11,a12,Zb,Zc,aQ,a16,a17,RK,RL,a20,a21]⟩::Hx) R) (.tuple #[]) l (Az (⟨d,133,[a0,a1,a2,.int .i64 k,a4,a5,a6,a7,a8,a9,a10,a11,a12,Zb,Zc,aQ,.int .i64 13,.int .i64 0,.int .i64 k,.int .i64 e,.int .i64 0,fm 90 d]⟩::Hx) R):=by
 exact Ci 13 Tryz.func93 Z (Ac hl _) fun w0 D0=>VY hl<|AZ 8 [256] Z<|Fp Z LW Ih Z<|Kt (H1:=[]) (H2:=_::_) (Ju:=_::_) Z xw Z (PW hl) hl Z Aw<|X.nil<|T.BJ Z fun W D h=>⟨D,⟨rfl,rfl,h⟩,fun _ hk=>hk⟩
theorem RM{R:BB}(hl:CV R){a1 a2 a8 a9 a10 a11 a12 Zb Zc aQ a16 a17 RK RL a20 a21:Value}{x4 x5 x6:Int}:Cv C 91 [AX d] l (Az (⟨d,133,[AX C.m,a1,a2,.int .i64 0,.int .i64 x4,.int .i64 x5,.int .i64 x6,Dc rb n m,a8,a9,a10,a11,a12,Zb,Zc,aQ,a16,a17,RK,RL,a20,a21]⟩::Hx) R) (.int .i64 (if(n:Int)≥C.M.Af then 13 else 0)) l (Az (⟨d,133,[AX C.m,a1,a2,.int .i64 0,.int .i64 x4,.int .i64 x5,.int .i64 x6,Dc rb n m,a8,a9,a10,a11,a12,Zb,Zc,aQ,a16,a17,RK,RL,a20,a21]⟩::Hx) R):=by
 refine Ci 66 Tryz.func91 Z (Ac hl _) fun w0 D0=>VY hl<|CW 5 [] Z<|Ey 13 0 0 (by kernel_rfl)<|AP 9 [] Z<|CB Z V3 (GN hl) hl<|Bp Z Z Z fD fE o3 Z<|AP 9 [48] Z<|Hg Z Bt CE fun b0=>AY 12 [] Z<|T.block<|CW 7 [] Z<|T.Bj<|T.seq<|T.block<|CW 11 [] Z<|T.cond Z ?_ ?_
 ·intro hb0;refine CW 4 [] Z<|T.J8<|TE.CJ<|TE.BC rfl fun W D h=>?_
  rw[show(if(n:Int)≥C.M.Af then 13 else 0:Int)=_ from if_pos (of_decide_eq_true hb0)];obtain⟨D1,h1,h2⟩:=A8 h;exact⟨D1,⟨rfl,rfl,h1⟩,h2⟩
 intro hb0;refine T.skip<|T.Bj<|CW 4 [] Z<|T.BC Z fun W D h=>?_
 rw[show(if(n:Int)≥C.M.Af then 13 else 0:Int)=_ from if_neg (of_decide_eq_false hb0)];obtain⟨D1,h1,h2⟩:=A8 h;exact⟨D1,⟨rfl,rfl,h1⟩,h2⟩
theorem RO{R:BB}(hl:CV R){a1 a2 a8 a9 a10 a11 a12 Zb Zc aQ a16 a17 RK RL a20 a21:Value}{x4 x5 x6:Int}:Cv C 91 [AX d] l (Az (⟨d,133,[AX C.m,a1,a2,.int .i64 3,.int .i64 x4,.int .i64 x5,.int .i64 x6,Dc rb n m,a8,a9,a10,a11,a12,Zb,Zc,aQ,a16,a17,RK,RL,a20,a21]⟩::Hx) R) (.int .i64 (if n=0 then 1 else 0)) l (Az (⟨d,133,[AX C.m,a1,a2,.int .i64 3,.int .i64 x4,.int .i64 x5,.int .i64 x6,Dc rb n m,a8,a9,a10,a11,a12,Zb,Zc,aQ,a16,a17,RK,RL,a20,a21]⟩::Hx) R):=by
 refine Ci 66 Tryz.func91 Z (Ac hl _) fun w0 D0=>VY hl<|CW 5 [] Z<|Ey 13 0 0 (by kernel_rfl)<|AP 9 [] Z<|CB Z V3 (GN hl) hl<|Bp Z Z Z fD fE o3 Z<|AP 9 [48] Z<|Hg Z Bt CE fun b0=>AY 12 [] Z<|T.block<|CW 34 [0,0,0,0,0,1] Z<|T.Bj<|T.seq<|T.block<|CW 5 [] Z<|T.cond Z ?_ ?_
 ·intro hb0;refine CW 4 [] Z<|T.J8<|TE.CJ<|TE.BC rfl fun W D h=>?_
  have hz:n=0:=by have:=of_decide_eq_true hb0;simpa using this
  rw[show(if n=0 then 1 else 0:Int)=_ from if_pos hz];obtain⟨D1,h1,h2⟩:=A8 h;exact⟨D1,⟨rfl,rfl,h1⟩,h2⟩
 intro hb0;refine CW 7 [] Z<|T.Bj<|CW 4 [] Z<|T.BC Z fun W D h=>?_
 have hz: ¬n=0:=by have:=of_decide_eq_false hb0;simpa using this
 rw[show(if n=0 then 1 else 0:Int)=_ from if_neg hz];obtain⟨D1,h1,h2⟩:=A8 h;exact⟨D1,⟨rfl,rfl,h1⟩,h2⟩
theorem Zl{w:Int}:Cc C 112 [AX d,.int .u64 w] l (fun a b=> .func (.func 147) #[] #[AX a,AX b]) (fun a b=>[⟨a,83,[AX d]⟩,⟨b,90,[.int .u64 w]⟩]):=by
 refine Ci 6 Tryz.func112 Z Aa fun w0 D0=>AZ 2 [3] Z<|F7 Z CE fun b0=>F7 Z CE fun b1=>AY 7 [] Z<|T.BC Z fun W D h=>?_
 obtain⟨D1,h1,h2⟩:=D6 [1,0] (by decide) h;exact⟨D1,⟨b0,b1,rfl,rfl,h1⟩,h2⟩
theorem xy{rest:List Value}(ho:x.Aq=[])(hrm:x.Af.length+rest.length=m):Cv C 62 [AX d] l (Gh C d x ov rb rest m bf H6 H7 nv []) (.tuple #[]) l (J9 C d {x with next:= .ES}):=by
 obtain⟨i,os,⟨k0,k1,k2,k3⟩,Af,Ar,AL,still,Bh,Ah,k,alloc,Bl,Ae,nx⟩:=x;obtain rfl:os=[]:=ho;refine Ci 83 Tryz.func62 Z (Ac (Ag Am Ap) _) fun w0 D0=>dN (Ag Am Ap)<|T.Jc (H':=[_,_]) (Ba (Ag Am Ap)) (Wk.Az RC _)<|T.and (fun _=>(Ag Am Ap)) ?_
 rintro⟨p,c,rfl⟩;refine AZ 2 [1] Z<|F7 Z CE fun b0=>AY 21 [32,0,0,1,0,0,1] Z<|T.J6 Z fun W D h=>?_
 obtain⟨D1,h1,h2⟩:=A8 h;exact⟨D1,⟨rfl,rfl,_,_,_,_,_,_,_,⟨rb,rest,m,rfl,hrm,rfl,rfl⟩,h1⟩,h2⟩
theorem jK:Cm 116=true:=by kernel_rfl
theorem JV:Ip 41 3 1=true:=by kernel_rfl
theorem Mu.X6{a:Int}(h:a<0):x.root a= -1:=if_pos (.inl h)
theorem Mu.X7{a:Int}(h:a≥x.Af.length):x.root a= -1:=if_pos (.inr h)
theorem Mu.X8(h:j<x.Af.length):x.root j=x.Af.getD j 0:=by
 unfold Mu.root;rw[if_neg (by omega),Int.toNat_natCast]
theorem LG{rest:List Value}{R:BB}(hl:CV R)(hrm:x.Af.length+rest.length=m){a:Int}:Cv C 116 [AX d,.int .i64 a] l (Az (⟨d,133,x.cs C ov (Dc rb x.Af.length m) bf H6 H7 nv⟩::Sz rb x rest::Hx) R) (.int .i64 (x.root a)) l (Az (⟨d,133,x.cs C ov (Dc rb x.Af.length m) bf H6 H7 nv⟩::Sz rb x rest::Hx) R):=by
 obtain⟨i,os,⟨k0,k1,k2,k3⟩,Af,Ar,AL,still,Bh,Ah,k,alloc,Bl,Ae,nx⟩:=x;refine Ci 23 Tryz.func116 Z (Ac hl _) fun w0 D0=>T.conv (fun w h=>Sy.opens (H2:=_::_::Hx) h hl)<|CW 6 [] Z ?_
 by_cases hq:a<0
 ·skip;refine AZ 2 [] Z<|Du (c:=true) Z (decide_eq_true hq)<|AP 8 [] Z<|Hz Z<|AY 6 [] Z<|T.BC Z fun W D h=>?_
  rw[Mu.X6 (x:=⟨i,os,⟨k0,k1,k2,k3⟩,Af,Ar,AL,still,Bh,Ah,k,alloc,Bl,Ae,nx⟩) hq];exact⟨D,⟨rfl,rfl,h⟩,fun _ hk=>hk⟩
 obtain⟨j,rfl⟩: ∃j:Nat,a=(j:Int):=⟨a.toNat,by omega⟩;refine AZ 2 [] Z<|Du (c:=false) Z (decide_eq_false hq)<|AP 8 [] Z<|Hz Z<|X.nil<|T.cond Z ?_ ?_
 ·intro hb1;refine CW 4 [] Z<|T.BC Z fun W D h=>?_
  rw[Mu.X7 (x:=⟨i,os,⟨k0,k1,k2,k3⟩,Af,Ar,AL,still,Bh,Ah,k,alloc,Bl,Ae,nx⟩) (of_decide_eq_true hb1)];exact⟨D,⟨rfl,rfl,h⟩,fun _ hk=>hk⟩
 intro hb1;have hlt:j<Af.length:=by have: ¬(j:Int)≥(Af.length:Int):=of_decide_eq_false hb1;omega
 refine AZ 8 [] Z<|Jm Z JV ⟨Int.natCast_nonneg _,Int.ofNat_lt.2 hlt⟩<|JY Z o3 (.s .z) (EL hlt)<|AY 2 [] Z<|T.BC Z fun W D h=>?_
 rw[Mu.X8 (x:=⟨i,os,⟨k0,k1,k2,k3⟩,Af,Ar,AL,still,Bh,Ah,k,alloc,Bl,Ae,nx⟩) hlt];exact⟨D,⟨rfl,rfl,h⟩,fun _ hk=>hk⟩
theorem Zm{rest:List Value}{R:BB}(hl:CV R)(hrm:x.Af.length+rest.length=m)(hM:C.M.Ok):Cv C 155 [AX d] l (Az (⟨d,133,x.cs C ov (Dc rb x.Af.length m) bf H6 H7 nv⟩::Sz rb x rest::Hx) R) (.int .i64 (C.M.H8 (x.root x.op.a) x.op.b)) l (Az (⟨d,133,x.cs C ov (Dc rb x.Af.length m) bf H6 H7 nv⟩::Sz rb x rest::Hx) R):=by
 obtain⟨i,os,⟨k0,k1,k2,k3⟩,Af,Ar,AL,still,Bh,Ah,k,alloc,Bl,Ae,nx⟩:=x;exact Ci 20 Tryz.func155 Z (Ac hl _) fun w0 D0=>T.conv (fun w h=>Sy.opens (H2:=_::_::Hx) h hl)<|CW 5 [] Z<|Ey 18 0 0 (by kernel_rfl)<|AP 10 [] Z<|OT (H1:=[]) (H2:=_::_) Z jK Z (LG (x:=⟨i,os,⟨k0,k1,k2,k3⟩,Af,Ar,AL,still,Bh,Ah,k,alloc,Bl,Ae,nx⟩) hl hrm) hl<|AP 5 [] Z<|CB Z iB (iY hl hM) hl<|AY 2 [] Z<|T.BC Z fun W D h=>⟨D,⟨rfl,rfl,h⟩,fun _ hk=>hk⟩
theorem qH{rest:List Value}{R:BB}(hl:CV R)(hrm:x.Af.length+rest.length=m){w:Int}(hM:C.M.Ok)(hw:Bf w):Cv C 154 [AX d,.int .u64 w] l (Az (⟨d,133,x.cs C ov (Dc rb x.Af.length m) bf H6 H7 nv⟩::Sz rb x rest::Hx) R) (.int .i64 (C.M.KC w)) l (Az (⟨d,133,x.cs C ov (Dc rb x.Af.length m) bf H6 H7 nv⟩::Sz rb x rest::Hx) R):=by
 obtain⟨i,os,⟨k0,k1,k2,k3⟩,Af,Ar,AL,still,Bh,Ah,k,alloc,Bl,Ae,nx⟩:=x;refine Ci 15 Tryz.func154 Z (Ac hl _) fun w0 D0=>T.conv (fun w h=>Sy.opens (H2:=_::_::Hx) h hl)<|AZ 12 [] Z<|CB Z g30 (PG) hl<|Ic Z FV Ej ((IntWalk.u64_in _ (by have:=hM.nodes;omega)))<|AY 2 [] Z<|T.cond Z ?_ ?_
 ·intro hb0;refine CW 4 [] Z<|T.BC Z fun W D h=>?_
  rw[show C.M.KC w=_ from if_pos (of_decide_eq_true hb0)];exact⟨D,⟨rfl,rfl,h⟩,fun _ hk=>hk⟩
 intro hb0;refine AZ 4 [] Z<|Ic Z DY Eu (EG (by have: ¬w>C.M.nodes:=of_decide_eq_false hb0;have:=hM.nodes;unfold Bf at hw;omega))<|AY 2 [] Z<|T.BC Z fun W D h=>?_
 rw[show C.M.KC w=_ from if_neg (of_decide_eq_false hb0)];exact⟨D,⟨rfl,rfl,h⟩,fun _ hk=>hk⟩
theorem Mu.RR(h:x.op.kind=1):x.Pv M=if x.root x.op.a<1 then 1 else if(x.Af.length:Int)≥M.Af then 13 else 0:=by unfold Mu.Pv;rw[if_neg (by omega),if_pos h]
theorem Mu.RT(h:x.op.kind=2):x.Pv M=if x.root x.op.a<1∨x.root x.op.c<0 then 1 else 0:=by unfold Mu.Pv;rw[if_neg (by omega),if_neg (by omega),if_pos h]
theorem Mu.RW(h:x.op.kind=4):x.Pv M=if x.root x.op.a<0 then 1 else if(x.Af.length:Int)≥M.Af then 13 else 0:=by unfold Mu.Pv;rw[if_neg (by omega),if_neg (by omega),if_neg (by omega),if_neg (by omega),if_pos h]
theorem Mu.zr(h:x.op.kind≥5):x.Pv M=1:=by unfold Mu.Pv;rw[if_neg (by omega),if_neg (by omega),if_neg (by omega),if_neg (by omega),if_neg (by omega)]
theorem Fo{rest:List Value}{R:BB}(hl:CV R)(hrm:x.Af.length+rest.length=m)(hk:x.op.kind=1):Cv C 91 [AX d] l (Az (⟨d,133,x.cs C ov (Dc rb x.Af.length m) bf H6 H7 nv⟩::Sz rb x rest::Hx) R) (.int .i64 (x.Pv C.M)) l (Az (⟨d,133,x.cs C ov (Dc rb x.Af.length m) bf H6 H7 nv⟩::Sz rb x rest::Hx) R):=by
 obtain⟨i,os,⟨k0,k1,k2,k3⟩,Af,Ar,AL,still,Bh,Ah,k,alloc,Bl,Ae,nx⟩:=x;obtain rfl:k0=1:=hk;refine Ci 66 Tryz.func91 Z (Ac hl _) fun w0 D0=>T.conv (fun w h=>Sy.opens (H2:=_::_::Hx) h hl)<|CW 5 [] Z<|Ey 13 0 0 (by kernel_rfl)<|AP 9 [] Z<|CB Z V3 (GN hl) hl<|Bp Z Z Z fD fE o3 Z<|AP 9 [48] Z<|Hg Z Bt CE fun b0=>AY 12 [] Z<|T.block<|AZ 16 [] Z<|OT (H1:=[_]) (H2:=_::_) Z jK Z (LG (x:=⟨i,os,⟨1,k1,k2,k3⟩,Af,Ar,AL,still,Bh,Ah,k,alloc,Bl,Ae,nx⟩) hl hrm) hl<|AY 3 [] Z<|T.Bj<|T.seq<|T.block<|CW 5 [] Z<|T.cond Z ?_ ?_
 ·intro hb0;refine CW 4 [] Z<|T.J8<|TE.CJ<|TE.BC rfl fun W D h=>?_
  rw[Mu.RR (x:=⟨i,os,⟨1,k1,k2,k3⟩,Af,Ar,AL,still,Bh,Ah,k,alloc,Bl,Ae,nx⟩) rfl,if_pos (of_decide_eq_true hb0)];obtain⟨D1,h1,h2⟩:=A8 h;exact⟨D1,⟨rfl,rfl,h1⟩,h2⟩
 intro hb0;refine CW 5 [] Z<|T.cond Z ?_ ?_
 ·intro hb1;refine CW 4 [] Z<|T.J8<|TE.CJ<|TE.BC rfl fun W D h=>?_
  rw[Mu.RR (x:=⟨i,os,⟨1,k1,k2,k3⟩,Af,Ar,AL,still,Bh,Ah,k,alloc,Bl,Ae,nx⟩) rfl,if_neg (of_decide_eq_false hb0),if_pos (of_decide_eq_true hb1)];obtain⟨D1,h1,h2⟩:=A8 h;exact⟨D1,⟨rfl,rfl,h1⟩,h2⟩
 intro hb1;refine T.skip<|T.Bj<|CW 4 [] Z<|T.BC Z fun W D h=>?_
 rw[Mu.RR (x:=⟨i,os,⟨1,k1,k2,k3⟩,Af,Ar,AL,still,Bh,Ah,k,alloc,Bl,Ae,nx⟩) rfl,if_neg (of_decide_eq_false hb0),if_neg (of_decide_eq_false hb1)];obtain⟨D1,h1,h2⟩:=A8 h;exact⟨D1,⟨rfl,rfl,h1⟩,h2⟩
theorem Fs{rest:List Value}{R:BB}(hl:CV R)(hrm:x.Af.length+rest.length=m)(hk:x.op.kind=4):Cv C 91 [AX d] l (Az (⟨d,133,x.cs C ov (Dc rb x.Af.length m) bf H6 H7 nv⟩::Sz rb x rest::Hx) R) (.int .i64 (x.Pv C.M)) l (Az (⟨d,133,x.cs C ov (Dc rb x.Af.length m) bf H6 H7 nv⟩::Sz rb x rest::Hx) R):=by
 obtain⟨i,os,⟨k0,k1,k2,k3⟩,Af,Ar,AL,still,Bh,Ah,k,alloc,Bl,Ae,nx⟩:=x;obtain rfl:k0=4:=hk;refine Ci 66 Tryz.func91 Z (Ac hl _) fun w0 D0=>T.conv (fun w h=>Sy.opens (H2:=_::_::Hx) h hl)<|CW 5 [] Z<|Ey 13 0 0 (by kernel_rfl)<|AP 9 [] Z<|CB Z V3 (GN hl) hl<|Bp Z Z Z fD fE o3 Z<|AP 9 [48] Z<|Hg Z Bt CE fun b0=>AY 12 [] Z<|T.block<|AZ 34 [] Z<|OT (H1:=[_]) (H2:=_::_) Z jK Z (LG (x:=⟨i,os,⟨4,k1,k2,k3⟩,Af,Ar,AL,still,Bh,Ah,k,alloc,Bl,Ae,nx⟩) hl hrm) hl<|AY 3 [] Z<|T.Bj<|T.seq<|T.block<|CW 5 [] Z<|T.cond Z ?_ ?_
 ·intro hb0;refine CW 4 [] Z<|T.J8<|TE.CJ<|TE.BC rfl fun W D h=>?_
  rw[Mu.RW (x:=⟨i,os,⟨4,k1,k2,k3⟩,Af,Ar,AL,still,Bh,Ah,k,alloc,Bl,Ae,nx⟩) rfl,if_pos (of_decide_eq_true hb0)];obtain⟨D1,h1,h2⟩:=A8 h;exact⟨D1,⟨rfl,rfl,h1⟩,h2⟩
 intro hb0;refine CW 5 [] Z<|T.cond Z ?_ ?_
 ·intro hb1;refine CW 4 [] Z<|T.J8<|TE.CJ<|TE.BC rfl fun W D h=>?_
  rw[Mu.RW (x:=⟨i,os,⟨4,k1,k2,k3⟩,Af,Ar,AL,still,Bh,Ah,k,alloc,Bl,Ae,nx⟩) rfl,if_neg (of_decide_eq_false hb0),if_pos (of_decide_eq_true hb1)];obtain⟨D1,h1,h2⟩:=A8 h;exact⟨D1,⟨rfl,rfl,h1⟩,h2⟩
 intro hb1;refine T.skip<|T.Bj<|CW 4 [] Z<|T.BC Z fun W D h=>?_
 rw[Mu.RW (x:=⟨i,os,⟨4,k1,k2,k3⟩,Af,Ar,AL,still,Bh,Ah,k,alloc,Bl,Ae,nx⟩) rfl,if_neg (of_decide_eq_false hb0),if_neg (of_decide_eq_false hb1)];obtain⟨D1,h1,h2⟩:=A8 h;exact⟨D1,⟨rfl,rfl,h1⟩,h2⟩
theorem Ft{rest:List Value}{R:BB}(hl:CV R)(hrm:x.Af.length+rest.length=m)(hk:x.op.kind=2):Cv C 91 [AX d] l (Az (⟨d,133,x.cs C ov (Dc rb x.Af.length m) bf H6 H7 nv⟩::Sz rb x rest::Hx) R) (.int .i64 (x.Pv C.M)) l (Az (⟨d,133,x.cs C ov (Dc rb x.Af.length m) bf H6 H7 nv⟩::Sz rb x rest::Hx) R):=by
 obtain⟨i,os,⟨k0,k1,k2,k3⟩,Af,Ar,AL,still,Bh,Ah,k,alloc,Bl,Ae,nx⟩:=x;obtain rfl:k0=2:=hk;refine Ci 66 Tryz.func91 Z (Ac hl _) fun w0 D0=>T.conv (fun w h=>Sy.opens (H2:=_::_::Hx) h hl)<|CW 5 [] Z<|Ey 13 0 0 (by kernel_rfl)<|AP 9 [] Z<|CB Z V3 (GN hl) hl<|Bp Z Z Z fD fE o3 Z<|AP 9 [48] Z<|Hg Z Bt CE fun b0=>AY 12 [] Z<|T.block<|CW 18 [] Z ?_
 by_cases hq:Mu.root (⟨i,os,⟨2,k1,k2,k3⟩,Af,Ar,AL,still,Bh,Ah,k,alloc,Bl,Ae,nx⟩:Mu) k1<1
 ·skip;refine AZ 4 [] Z<|OT (H1:=[_]) (H2:=_::_) Z jK Z (LG (x:=⟨i,os,⟨2,k1,k2,k3⟩,Af,Ar,AL,still,Bh,Ah,k,alloc,Bl,Ae,nx⟩) hl hrm) hl<|Du (c:=true) Z (decide_eq_true hq)<|AP 6 [] Z<|Hz Z<|AY 3 [] Z<|T.Bj<|T.seq<|T.block<|CW 10 [] Z<|T.J8<|TE.CJ<|TE.BC rfl fun W D h=>?_
  rw[Mu.RT (x:=⟨i,os,⟨2,k1,k2,k3⟩,Af,Ar,AL,still,Bh,Ah,k,alloc,Bl,Ae,nx⟩) rfl,if_pos (show Mu.root (⟨i,os,⟨2,k1,k2,k3⟩,Af,Ar,AL,still,Bh,Ah,k,alloc,Bl,Ae,nx⟩:Mu) k1<1∨Mu.root (⟨i,os,⟨2,k1,k2,k3⟩,Af,Ar,AL,still,Bh,Ah,k,alloc,Bl,Ae,nx⟩:Mu) k3<0 from .inl hq)];obtain⟨D1,h1,h2⟩:=A8 h;exact⟨D1,⟨rfl,rfl,h1⟩,h2⟩
 skip;refine AZ 4 [] Z<|OT (H1:=[_]) (H2:=_::_) Z jK Z (LG (x:=⟨i,os,⟨2,k1,k2,k3⟩,Af,Ar,AL,still,Bh,Ah,k,alloc,Bl,Ae,nx⟩) hl hrm) hl<|Du (c:=false) Z (decide_eq_false hq)<|AP 4 [] Z<|OT (H1:=[_]) (H2:=_::_) Z jK Z (LG (x:=⟨i,os,⟨2,k1,k2,k3⟩,Af,Ar,AL,still,Bh,Ah,k,alloc,Bl,Ae,nx⟩) hl hrm) hl<|Du Z Z<|Hz Z<|AY 3 [] Z<|T.Bj<|T.seq<|T.block<|CW 5 [] Z<|T.cond Z ?_ ?_
 ·intro hb1;refine CW 4 [] Z<|T.J8<|TE.CJ<|TE.BC rfl fun W D h=>?_
  rw[Mu.RT (x:=⟨i,os,⟨2,k1,k2,k3⟩,Af,Ar,AL,still,Bh,Ah,k,alloc,Bl,Ae,nx⟩) rfl,if_pos (show Mu.root (⟨i,os,⟨2,k1,k2,k3⟩,Af,Ar,AL,still,Bh,Ah,k,alloc,Bl,Ae,nx⟩:Mu) k1<1∨Mu.root (⟨i,os,⟨2,k1,k2,k3⟩,Af,Ar,AL,still,Bh,Ah,k,alloc,Bl,Ae,nx⟩:Mu) k3<0 from .inr (of_decide_eq_true hb1))];obtain⟨D1,h1,h2⟩:=A8 h;exact⟨D1,⟨rfl,rfl,h1⟩,h2⟩
 intro hb1;refine CW 7 [] Z<|T.Bj<|CW 4 [] Z<|T.BC Z fun W D h=>?_
 rw[Mu.RT (x:=⟨i,os,⟨2,k1,k2,k3⟩,Af,Ar,AL,still,Bh,Ah,k,alloc,Bl,Ae,nx⟩) rfl,if_neg (show¬(Mu.root (⟨i,os,⟨2,k1,k2,k3⟩,Af,Ar,AL,still,Bh,Ah,k,alloc,Bl,Ae,nx⟩:Mu) k1<1∨Mu.root (⟨i,os,⟨2,k1,k2,k3⟩,Af,Ar,AL,still,Bh,Ah,k,alloc,Bl,Ae,nx⟩:Mu) k3<0) from fun g=>g.elim hq (of_decide_eq_false hb1))];obtain⟨D1,h1,h2⟩:=A8 h;exact⟨D1,⟨rfl,rfl,h1⟩,h2⟩
theorem Fu{rest:List Value}{R:BB}(hl:CV R)(hrm:x.Af.length+rest.length=m)(hk:x.op.kind≥5):Cv C 91 [AX d] l (Az (⟨d,133,x.cs C ov (Dc rb x.Af.length m) bf H6 H7 nv⟩::Sz rb x rest::Hx) R) (.int .i64 (x.Pv C.M)) l (Az (⟨d,133,x.cs C ov (Dc rb x.Af.length m) bf H6 H7 nv⟩::Sz rb x rest::Hx) R):=by
 obtain⟨i,os,⟨k0,k1,k2,k3⟩,Af,Ar,AL,still,Bh,Ah,k,alloc,Bl,Ae,nx⟩:=x;have hk:k0≥5:=hk;refine Ci 66 Tryz.func91 Z (Ac hl _) fun w0 D0=>T.conv (fun w h=>Sy.opens (H2:=_::_::Hx) h hl)<|CW 5 [] Z<|Ey 13 0 0 (by kernel_rfl)<|AP 9 [] Z<|CB Z V3 (GN hl) hl<|Bp Z Z Z fD fE o3 Z<|AP 9 [48] Z<|Hg Z Bt CE fun b0=>AY 12 [] Z<|T.block<|AZ 2 [] Z<|Du (c:=false) Z (beq_eq_false_iff_ne.2 (by show¬k0=0;omega))<|AP 5 [] Z<|Du (c:=false) Z (beq_eq_false_iff_ne.2 (by show¬k0=1;omega))<|AP 5 [] Z<|Du (c:=false) Z (beq_eq_false_iff_ne.2 (by show¬k0=2;omega))<|AP 5 [] Z<|Du (c:=false) Z (beq_eq_false_iff_ne.2 (by show¬k0=3;omega))<|AP 5 [] Z<|Du (c:=false) Z (beq_eq_false_iff_ne.2 (by show¬k0=4;omega))<|AY 6 [] Z<|T.Bj<|T.seq<|T.block<|CW 10 [] Z<|T.J8<|TE.CJ<|TE.BC rfl fun W D h=>?_
 rw[Mu.zr (x:=⟨i,os,⟨k0,k1,k2,k3⟩,Af,Ar,AL,still,Bh,Ah,k,alloc,Bl,Ae,nx⟩) hk];obtain⟨D1,h1,h2⟩:=A8 h;exact⟨D1,⟨rfl,rfl,h1⟩,h2⟩
theorem Mu.be(h:x.op.kind=0):x.Pv M=if(x.Af.length:Int)≥M.Af then 13 else 0:=by unfold Mu.Pv;rw[if_pos h]
theorem Mu.bh(h:x.op.kind=3):x.Pv M=if x.Af.length=0 then 1 else 0:=by
 unfold Mu.Pv;rw[if_neg (by omega),if_neg (by omega),if_neg (by omega),if_pos h]
theorem Wp{rest:List Value}{R:BB}(hl:CV R)(hrm:x.Af.length+rest.length=m)(hk:0≤x.op.kind):Cv C 91 [AX d] l (Az (⟨d,133,x.cs C ov (Dc rb x.Af.length m) bf H6 H7 nv⟩::Sz rb x rest::Hx) R) (.int .i64 (x.Pv C.M)) l (Az (⟨d,133,x.cs C ov (Dc rb x.Af.length m) bf H6 H7 nv⟩::Sz rb x rest::Hx) R):=by
 rcases(show x.op.kind=0∨x.op.kind=1∨x.op.kind=2∨x.op.kind=3∨x.op.kind=4∨x.op.kind≥5 by omega) with h|h|h|h|h|h
 ·rw[Mu.be h];obtain⟨i,os,⟨k0,k1,k2,k3⟩,Af,Ar,AL,still,Bh,Ah,k,alloc,Bl,Ae,nx⟩:=x;obtain rfl:k0=0:=h;exact RM hl
 ·exact Fo hl hrm h
 ·exact Ft hl hrm h
 ·rw[Mu.bh h];obtain⟨i,os,⟨k0,k1,k2,k3⟩,Af,Ar,AL,still,Bh,Ah,k,alloc,Bl,Ae,nx⟩:=x;obtain rfl:k0=3:=h;exact RO hl
 ·exact Fs hl hrm h
 exact Fu hl hrm h
theorem tE:Cm 91=true:=by kernel_rfl
theorem g98:Cm 98=true:=by kernel_rfl
theorem zw:one 128=true:=by kernel_rfl
theorem ED:bM 169 3=true:=by kernel_rfl
theorem tF:LU 27=some [.int .i64 0]:=by kernel_rfl
theorem yc{rest:List Value}{pk pa pb pc:Int}{r:List I4}(hkn:(0:Int)≤pk)(ho:x.Aq=⟨pk,pa,pb,pc⟩::r)(he:Mu.Pv C.M {x with op:=⟨pk,pa,pb,pc⟩,Aq:=r}≠0)(hrm:x.Af.length+rest.length=m):Cv C 62 [AX d] l (Gh C d x ov rb rest m bf H6 H7 nv []) (.tuple #[]) l (J9 C d {x with op:=⟨pk,pa,pb,pc⟩,Aq:=r,next:= .fail (Mu.Pv C.M {x with op:=⟨pk,pa,pb,pc⟩,Aq:=r})}):=by
 obtain⟨i,os,⟨k0,k1,k2,k3⟩,Af,Ar,AL,still,Bh,Ah,k,alloc,Bl,Ae,nx⟩:=x;obtain rfl:os=⟨pk,pa,pb,pc⟩::r:=ho;refine Ci 83 Tryz.func62 Z (Ac (Ag Am Ap) _) fun w0 D0=>dN (Ag Am Ap)<|T.Jc (H':=[_,_]) (AQ fun _=>AQ fun _=>AQ fun _=>AQ fun _=>Ba (Ac Am _)) (Wk.Az PV _)<|T.ex (fun _=>AQ fun _=>AQ fun _=>AQ fun _=>Ba (Ac Am _)) ?_
 intro ob;refine T.ex (fun _=>AQ fun _=>AQ fun _=>Ba (Ac Am _)) ?_;intro Dh;refine T.ex (fun _=>AQ fun _=>Ba (Ac Am _)) ?_;intro OD;refine T.ex (fun _=>Ba (Ac Am _)) ?_;intro oc;refine T.and (fun _=>Ac Am _) ?_;rintro⟨rfl,hoc⟩;refine T.Og Am<|AZ 2 [1] Z<|F7 Z CE fun b0=>AP 18 [32,0,0,1,0,0,1] Z<|Du (c:=false) Z (beq_eq_false_iff_ne.2 (by simp only[List.length_cons];omega))<|AY 4 [] Z<|Ey 19 4098 294912 (by kernel_rfl)<|AP 6 [0,0,0,1] Z<|Jm Z XK ⟨Int.le_refl 0,by simp only[List.length_cons];omega⟩<|fA Z Z Z ax (.s (.s (.s .z))) Wn Z<|AP 4 [0,1] Z<|xn Z Z Z Z XK (by simp) hoc<|AP 2 [] Z<|H9 Z ax Z Z (.s .z) (Nat.le_of_ble_eq_true Z) (.s .z) (fB Z Z Z XK (by simp) hoc (BP Z Jj .z Z Aw))<|AP 2 [] Z<|KQ Z Mv Z (.s .z) Z (.s .z) (Aj (by kernel_rfl) (Aj (by kernel_rfl) Aw))<|AP 5 [12] Z<|OT (H1:=[_]) (H2:=_::_) Z tE Z (Wp (x:=⟨i,r,⟨pk,pa,pb,pc⟩,Af,Ar,AL,still,Bh,Ah,k,alloc,Bl,Ae,nx⟩) Am hrm hkn) Am<|Hg Z tF CE fun b1=>AP 5 [] Z<|Du (c:=true) Z (bne_iff_ne.2 he)<|AY 10 [16,1,2] Z<|T.J6 Z fun W D h=>?_
 obtain⟨D0,g1,g2⟩:=Wk.pick [2,3,1,0,4] (by decide) D W h;obtain⟨D1,h1,g3⟩:=Wk.Az (PU hoc) [_,_,_,_] D0 W g1;have h2: ∀k,D1 k→D k:=fun k hk=>g2 k (g3 k hk)
 exact⟨D1,⟨rfl,rfl,_,_,_,_,_,_,_,⟨rb,rest,m,rfl,hrm,_,_,rfl,rfl⟩,h1⟩,h2⟩
theorem bU{rest:List Value}{pa pb pc:Int}{r:List I4}(hkn:(0:Int)≤0)(ho:x.Aq=⟨0,pa,pb,pc⟩::r)(he:Mu.Pv C.M {x with op:=⟨0,pa,pb,pc⟩,Aq:=r}=0)(hrm:x.Af.length+rest.length=m):Cv C 62 [AX d] l (Gh C d x ov rb rest m bf H6 H7 nv []) (.tuple #[]) l (J9 C d {x with op:=⟨0,pa,pb,pc⟩,Aq:=r,alloc:= .new pa x.Bh,next:= .EU}):=by
 obtain⟨i,os,⟨k0,k1,k2,k3⟩,Af,Ar,AL,still,Bh,Ah,k,alloc,Bl,Ae,nx⟩:=x;obtain rfl:os=⟨0,pa,pb,pc⟩::r:=ho;refine Ci 83 Tryz.func62 Z (Ac (Ag Am Ap) _) fun w0 D0=>dN (Ag Am Ap)<|T.Jc (H':=[_,_]) (AQ fun _=>AQ fun _=>AQ fun _=>AQ fun _=>Ba (Ac Am _)) (Wk.Az PV _)<|T.ex (fun _=>AQ fun _=>AQ fun _=>AQ fun _=>Ba (Ac Am _)) ?_
 intro ob;refine T.ex (fun _=>AQ fun _=>AQ fun _=>Ba (Ac Am _)) ?_;intro Dh;refine T.ex (fun _=>AQ fun _=>Ba (Ac Am _)) ?_;intro OD;refine T.ex (fun _=>Ba (Ac Am _)) ?_;intro oc;refine T.and (fun _=>Ac Am _) ?_;rintro⟨rfl,hoc⟩;refine T.Og Am<|AZ 2 [1] Z<|F7 Z CE fun b0=>AP 18 [32,0,0,1,0,0,1] Z<|Du (c:=false) Z (beq_eq_false_iff_ne.2 (by simp only[List.length_cons];omega))<|AY 4 [] Z<|Ey 19 4098 294912 (by kernel_rfl)<|AP 6 [0,0,0,1] Z<|Jm Z XK ⟨Int.le_refl 0,by simp only[List.length_cons];omega⟩<|fA Z Z Z ax (.s (.s (.s .z))) Wn Z<|AP 4 [0,1] Z<|xn Z Z Z Z XK (by simp) hoc<|AP 2 [] Z<|H9 Z ax Z Z (.s .z) (Nat.le_of_ble_eq_true Z) (.s .z) (fB Z Z Z XK (by simp) hoc (BP Z Jj .z Z Aw))<|AP 2 [] Z<|KQ Z Mv Z (.s .z) Z (.s .z) (Aj (by kernel_rfl) (Aj (by kernel_rfl) Aw))<|AP 5 [12] Z<|OT (H1:=[_]) (H2:=_::_) Z tE Z (Wp (x:=⟨i,r,⟨0,pa,pb,pc⟩,Af,Ar,AL,still,Bh,Ah,k,alloc,Bl,Ae,nx⟩) Am hrm hkn) Am<|Hg Z tF CE fun b1=>AP 5 [] Z<|Du (c:=false) Z (by rw[he];rfl)<|AY 4 [] Z<|Br [0,2,3,5,6,8,9,11,12,14,15,18,19,20,21,22,1,7,10,13,16,4,17,23,24,25,26] 8257517 67108882 (by kernel_rfl)<|AP 16 [1,1,1,1,1,1,1,2] Z ?_
 refine aq 0 Z Z (fun _=>(BP Z o3 (.s (.s .z)) Z (Ed Z TF (Ed Z Pe (Ia Z (BP Z Jj (.s .z) Z (Ie Z (BP Z Jj (.s .z) Z (Ie Z (BP Z Jj (.s .z) Z (Ie Z (BP Z Jj (.s .z) Z (Ie Z (BP Z Jj (.s .z) Z (Ie Z (BP Z Jj (.s .z) Z (BP Z Jj (.s .z) Z Aw))))))))))))))))) fun mp=>eY (kt:=3) Am Z Z Z Z Z ED (by decide)<|eY (kt:=3) Am Z Z Z Z Z ED (by decide)<|eY (kt:=3) Am Z Z Z Z Z ED (by decide)<|eY (kt:=3) Am Z Z Z Z Z ED (by decide)<|aw (kt:=3) Am Z Z Z Z Z ED (PT (kt:=3) Am Z Z Z Z ED (by decide) (PT (kt:=3) Am Z Z Z Z ED (by decide) (PT (kt:=3) Am Z Z Z Z ED (by decide) (PT (kt:=3) Am Z Z Z Z ED (by decide) (BP Z o3 (.s (.s .z)) Z (Ed Z TF (Ed Z Pe (Ia Z (BP Z Jj (.s .z) Z (Ie Z (BP Z Jj (.s .z) Z (Ie Z (BP Z Jj (.s .z) Z (Ie Z (BP Z Jj (.s .z) Z (Ie Z (BP Z Jj (.s .z) Z (Aj (by kernel_rfl) (Aj (by kernel_rfl) (BP Z Jj (.s .z) Z Aw))))))))))))))))))))<|NC Z<|bc (kt:=3) Z Z Z Z ED<|AP 2 [] Z ?_
 refine KQ Z xx Z (.s (.s .z)) Z (.s (.s .z)) (Aj (by kernel_rfl) (Aj (by kernel_rfl) (Aj (by kernel_rfl) (Aj (by kernel_rfl) (Aj (by kernel_rfl) (Aj (by kernel_rfl) (Aj (by kernel_rfl) (Aj (by kernel_rfl) (Aj (by kernel_rfl) (Aj (by kernel_rfl) (Aj (by kernel_rfl) (Aj (by kernel_rfl) (Aj (by kernel_rfl) (Aj (by kernel_rfl) (Aj (by kernel_rfl) (Aj (by kernel_rfl) (Aj (by kernel_rfl) (Aj (by kernel_rfl) (Aj (by kernel_rfl) (Aj (by kernel_rfl) Aw))))))))))))))))))))<|AY 2 [] Z<|T.Jc (H':=[_,_,_,_,_]) Am (Wk.Az Wk.Jd _)<|CW 9 [0,1,2] Z<|Ey 18 1 147456 (by kernel_rfl)<|AP 14 [1,1,2,1,2,1,2] Z<|bP Z Z Z Z g98 (Cn.fr Fc Am) (fun _=>Ag GG Am) (fun _=>(BP Z Jj (.s .z) Z Aw)) fun q2=>AP 2 [] Z<|KQ Z zw Z (.s (.s .z)) Z (.s (.s .z)) (Aj (by kernel_rfl) Aw)<|X.nil<|T.BJ Z fun W D h=>?_
 obtain⟨D0,g1,g2⟩:=Wk.pick [2,3,4] (by decide) D W h;obtain⟨D1,h1,g3⟩:=Wk.Az (PU hoc) [_,_] D0 W g1;have h2: ∀k,D1 k→D k:=fun k hk=>g2 k (g3 k hk)
 rw[CO] at h1;exact⟨D1,⟨rfl,rfl,_,_,_,_,_,_,_,⟨rb,rest,m,rfl,hrm,rfl,_,rfl,rfl⟩,h1⟩,h2⟩
theorem qI{rest:List Value}{pa pb pc:Int}{r:List I4}(hkn:(0:Int)≤1)(ho:x.Aq=⟨1,pa,pb,pc⟩::r)(he:Mu.Pv C.M {x with op:=⟨1,pa,pb,pc⟩,Aq:=r}=0)(hrm:x.Af.length+rest.length=m):Cv C 62 [AX d] l (Gh C d x ov rb rest m bf H6 H7 nv []) (.tuple #[]) l (J9 C d {x with op:=⟨1,pa,pb,pc⟩,Aq:=r,next:= .head}):=by
 obtain⟨i,os,⟨k0,k1,k2,k3⟩,Af,Ar,AL,still,Bh,Ah,k,alloc,Bl,Ae,nx⟩:=x;obtain rfl:os=⟨1,pa,pb,pc⟩::r:=ho;refine Ci 83 Tryz.func62 Z (Ac (Ag Am Ap) _) fun w0 D0=>dN (Ag Am Ap)<|T.Jc (H':=[_,_]) (AQ fun _=>AQ fun _=>AQ fun _=>AQ fun _=>Ba (Ac Am _)) (Wk.Az PV _)<|T.ex (fun _=>AQ fun _=>AQ fun _=>AQ fun _=>Ba (Ac Am _)) ?_
 intro ob;refine T.ex (fun _=>AQ fun _=>AQ fun _=>Ba (Ac Am _)) ?_;intro Dh;refine T.ex (fun _=>AQ fun _=>Ba (Ac Am _)) ?_;intro OD;refine T.ex (fun _=>Ba (Ac Am _)) ?_;intro oc;refine T.and (fun _=>Ac Am _) ?_;rintro⟨rfl,hoc⟩;refine T.Og Am<|AZ 2 [1] Z<|F7 Z CE fun b0=>AP 18 [32,0,0,1,0,0,1] Z<|Du (c:=false) Z (beq_eq_false_iff_ne.2 (by simp only[List.length_cons];omega))<|AY 4 [] Z<|Ey 19 4098 294912 (by kernel_rfl)<|AP 6 [0,0,0,1] Z<|Jm Z XK ⟨Int.le_refl 0,by simp only[List.length_cons];omega⟩<|fA Z Z Z ax (.s (.s (.s .z))) Wn Z<|AP 4 [0,1] Z<|xn Z Z Z Z XK (by simp) hoc<|AP 2 [] Z<|H9 Z ax Z Z (.s .z) (Nat.le_of_ble_eq_true Z) (.s .z) (fB Z Z Z XK (by simp) hoc (BP Z Jj .z Z Aw))<|AP 2 [] Z<|KQ Z Mv Z (.s .z) Z (.s .z) (Aj (by kernel_rfl) (Aj (by kernel_rfl) Aw))<|AP 5 [12] Z<|OT (H1:=[_]) (H2:=_::_) Z tE Z (Wp (x:=⟨i,r,⟨1,pa,pb,pc⟩,Af,Ar,AL,still,Bh,Ah,k,alloc,Bl,Ae,nx⟩) Am hrm hkn) Am<|Hg Z tF CE fun b1=>AP 5 [] Z<|Du (c:=false) Z (by rw[he];rfl)<|AY 4 [] Z<|Br [0,2,3,5,6,8,9,11,12,14,15,18,19,20,21,22,1,4,10,13,16,7,17,23,24,25,26] 8257405 67108994 (by kernel_rfl)<|AP 16 [1,1,1,1,1,1,1,2] Z ?_
 refine aq 1 Z Z (fun _=>(BP Z o3 (.s (.s .z)) Z (Ed Z TF (Ed Z Pe (Ia Z (BP Z Jj (.s .z) Z (Ie Z (BP Z Jj (.s .z) Z (Ie Z (BP Z Jj (.s .z) Z (Ie Z (BP Z Jj (.s .z) Z (Ie Z (BP Z Jj (.s .z) Z (Ie Z (BP Z Jj (.s .z) Z (BP Z Jj (.s .z) Z Aw))))))))))))))))) fun mp=>eY (kt:=3) Am Z Z Z Z Z ED (by decide)<|eY (kt:=3) Am Z Z Z Z Z ED (by decide)<|eY (kt:=3) Am Z Z Z Z Z ED (by decide)<|eY (kt:=3) Am Z Z Z Z Z ED (by decide)<|aw (kt:=3) Am Z Z Z Z Z ED (PT (kt:=3) Am Z Z Z Z ED (by decide) (PT (kt:=3) Am Z Z Z Z ED (by decide) (PT (kt:=3) Am Z Z Z Z ED (by decide) (PT (kt:=3) Am Z Z Z Z ED (by decide) (BP Z o3 (.s (.s .z)) Z (Ed Z TF (Ed Z Pe (Ia Z (BP Z Jj (.s .z) Z (Ie Z (BP Z Jj (.s .z) Z (Ie Z (BP Z Jj (.s .z) Z (Ie Z (BP Z Jj (.s .z) Z (Aj (by kernel_rfl) (Aj (by kernel_rfl) (Ie Z (BP Z Jj (.s .z) Z (BP Z Jj (.s .z) Z Aw))))))))))))))))))))<|NC Z<|bc (kt:=3) Z Z Z Z ED<|AP 2 [] Z ?_
 refine KQ Z xx Z (.s (.s .z)) Z (.s (.s .z)) (Aj (by kernel_rfl) (Aj (by kernel_rfl) (Aj (by kernel_rfl) (Aj (by kernel_rfl) (Aj (by kernel_rfl) (Aj (by kernel_rfl) (Aj (by kernel_rfl) (Aj (by kernel_rfl) (Aj (by kernel_rfl) (Aj (by kernel_rfl) (Aj (by kernel_rfl) (Aj (by kernel_rfl) (Aj (by kernel_rfl) (Aj (by kernel_rfl) (Aj (by kernel_rfl) (Aj (by kernel_rfl) (Aj (by kernel_rfl) (Aj (by kernel_rfl) (Aj (by kernel_rfl) (Aj (by kernel_rfl) Aw))))))))))))))))))))<|AY 2 [] Z<|T.Jc (H':=[_,_,_,_,_]) Am (Wk.Az Wk.Jd _)<|CW 10 [0,1,2] Z<|T.BJ Z fun W D h=>?_
 obtain⟨D0,g1,g2⟩:=Wk.pick [2,3,4] (by decide) D W h;obtain⟨D1,h1,g3⟩:=Wk.Az (PU hoc) [_,_] D0 W g1;have h2: ∀k,D1 k→D k:=fun k hk=>g2 k (g3 k hk)
 exact⟨D1,⟨rfl,rfl,_,_,_,_,_,_,_,⟨rb,rest,m,rfl,hrm,rfl,rfl⟩,h1⟩,h2⟩
theorem qJ{rest:List Value}{pa pb pc:Int}{r:List I4}(hkn:(0:Int)≤2)(ho:x.Aq=⟨2,pa,pb,pc⟩::r)(he:Mu.Pv C.M {x with op:=⟨2,pa,pb,pc⟩,Aq:=r}=0)(hrm:x.Af.length+rest.length=m):Cv C 62 [AX d] l (Gh C d x ov rb rest m bf H6 H7 nv []) (.tuple #[]) l (J9 C d {x with op:=⟨2,pa,pb,pc⟩,Aq:=r,next:= .head}):=by
 obtain⟨i,os,⟨k0,k1,k2,k3⟩,Af,Ar,AL,still,Bh,Ah,k,alloc,Bl,Ae,nx⟩:=x;obtain rfl:os=⟨2,pa,pb,pc⟩::r:=ho;refine Ci 83 Tryz.func62 Z (Ac (Ag Am Ap) _) fun w0 D0=>dN (Ag Am Ap)<|T.Jc (H':=[_,_]) (AQ fun _=>AQ fun _=>AQ fun _=>AQ fun _=>Ba (Ac Am _)) (Wk.Az PV _)<|T.ex (fun _=>AQ fun _=>AQ fun _=>AQ fun _=>Ba (Ac Am _)) ?_
 intro ob;refine T.ex (fun _=>AQ fun _=>AQ fun _=>Ba (Ac Am _)) ?_;intro Dh;refine T.ex (fun _=>AQ fun _=>Ba (Ac Am _)) ?_;intro OD;refine T.ex (fun _=>Ba (Ac Am _)) ?_;intro oc;refine T.and (fun _=>Ac Am _) ?_;rintro⟨rfl,hoc⟩;refine T.Og Am<|AZ 2 [1] Z<|F7 Z CE fun b0=>AP 18 [32,0,0,1,0,0,1] Z<|Du (c:=false) Z (beq_eq_false_iff_ne.2 (by simp only[List.length_cons];omega))<|AY 4 [] Z<|Ey 19 4098 294912 (by kernel_rfl)<|AP 6 [0,0,0,1] Z<|Jm Z XK ⟨Int.le_refl 0,by simp only[List.length_cons];omega⟩<|fA Z Z Z ax (.s (.s (.s .z))) Wn Z<|AP 4 [0,1] Z<|xn Z Z Z Z XK (by simp) hoc<|AP 2 [] Z<|H9 Z ax Z Z (.s .z) (Nat.le_of_ble_eq_true Z) (.s .z) (fB Z Z Z XK (by simp) hoc (BP Z Jj .z Z Aw))<|AP 2 [] Z<|KQ Z Mv Z (.s .z) Z (.s .z) (Aj (by kernel_rfl) (Aj (by kernel_rfl) Aw))<|AP 5 [12] Z<|OT (H1:=[_]) (H2:=_::_) Z tE Z (Wp (x:=⟨i,r,⟨2,pa,pb,pc⟩,Af,Ar,AL,still,Bh,Ah,k,alloc,Bl,Ae,nx⟩) Am hrm hkn) Am<|Hg Z tF CE fun b1=>AP 5 [] Z<|Du (c:=false) Z (by rw[he];rfl)<|AY 4 [] Z<|Br [0,2,3,5,6,8,9,11,12,14,15,18,19,20,21,22,1,4,7,13,16,10,17,23,24,25,26] 8256509 67109890 (by kernel_rfl)<|AP 16 [1,1,1,1,1,1,1,2] Z ?_
 refine aq 2 Z Z (fun _=>(BP Z o3 (.s (.s .z)) Z (Ed Z TF (Ed Z Pe (Ia Z (BP Z Jj (.s .z) Z (Ie Z (BP Z Jj (.s .z) Z (Ie Z (BP Z Jj (.s .z) Z (Ie Z (BP Z Jj (.s .z) Z (Ie Z (BP Z Jj (.s .z) Z (Ie Z (BP Z Jj (.s .z) Z (BP Z Jj (.s .z) Z Aw))))))))))))))))) fun mp=>eY (kt:=3) Am Z Z Z Z Z ED (by decide)<|eY (kt:=3) Am Z Z Z Z Z ED (by decide)<|eY (kt:=3) Am Z Z Z Z Z ED (by decide)<|eY (kt:=3) Am Z Z Z Z Z ED (by decide)<|aw (kt:=3) Am Z Z Z Z Z ED (PT (kt:=3) Am Z Z Z Z ED (by decide) (PT (kt:=3) Am Z Z Z Z ED (by decide) (PT (kt:=3) Am Z Z Z Z ED (by decide) (PT (kt:=3) Am Z Z Z Z ED (by decide) (BP Z o3 (.s (.s .z)) Z (Ed Z TF (Ed Z Pe (Ia Z (BP Z Jj (.s .z) Z (Ie Z (BP Z Jj (.s .z) Z (Ie Z (BP Z Jj (.s .z) Z (Aj (by kernel_rfl) (Aj (by kernel_rfl) (Ie Z (BP Z Jj (.s .z) Z (Ie Z (BP Z Jj (.s .z) Z (BP Z Jj (.s .z) Z Aw))))))))))))))))))))<|NC Z<|bc (kt:=3) Z Z Z Z ED<|AP 2 [] Z ?_
 refine KQ Z xx Z (.s (.s .z)) Z (.s (.s .z)) (Aj (by kernel_rfl) (Aj (by kernel_rfl) (Aj (by kernel_rfl) (Aj (by kernel_rfl) (Aj (by kernel_rfl) (Aj (by kernel_rfl) (Aj (by kernel_rfl) (Aj (by kernel_rfl) (Aj (by kernel_rfl) (Aj (by kernel_rfl) (Aj (by kernel_rfl) (Aj (by kernel_rfl) (Aj (by kernel_rfl) (Aj (by kernel_rfl) (Aj (by kernel_rfl) (Aj (by kernel_rfl) (Aj (by kernel_rfl) (Aj (by kernel_rfl) (Aj (by kernel_rfl) (Aj (by kernel_rfl) Aw))))))))))))))))))))<|AY 2 [] Z<|T.Jc (H':=[_,_,_,_,_]) Am (Wk.Az Wk.Jd _)<|CW 10 [0,1,2] Z<|T.BJ Z fun W D h=>?_
 obtain⟨D0,g1,g2⟩:=Wk.pick [2,3,4] (by decide) D W h;obtain⟨D1,h1,g3⟩:=Wk.Az (PU hoc) [_,_] D0 W g1;have h2: ∀k,D1 k→D k:=fun k hk=>g2 k (g3 k hk)
 exact⟨D1,⟨rfl,rfl,_,_,_,_,_,_,_,⟨rb,rest,m,rfl,hrm,rfl,rfl⟩,h1⟩,h2⟩
theorem jL{rest:List Value}{pa pb pc:Int}{r:List I4}(hkn:(0:Int)≤3)(ho:x.Aq=⟨3,pa,pb,pc⟩::r)(he:Mu.Pv C.M {x with op:=⟨3,pa,pb,pc⟩,Aq:=r}=0)(hrm:x.Af.length+rest.length=m):Cv C 62 [AX d] l (Gh C d x ov rb rest m bf H6 H7 nv []) (.tuple #[]) l (J9 C d {x with op:=⟨3,pa,pb,pc⟩,Aq:=r,next:= .Kq}):=by
 obtain⟨i,os,⟨k0,k1,k2,k3⟩,Af,Ar,AL,still,Bh,Ah,k,alloc,Bl,Ae,nx⟩:=x;obtain rfl:os=⟨3,pa,pb,pc⟩::r:=ho;refine Ci 83 Tryz.func62 Z (Ac (Ag Am Ap) _) fun w0 D0=>dN (Ag Am Ap)<|T.Jc (H':=[_,_]) (AQ fun _=>AQ fun _=>AQ fun _=>AQ fun _=>Ba (Ac Am _)) (Wk.Az PV _)<|T.ex (fun _=>AQ fun _=>AQ fun _=>AQ fun _=>Ba (Ac Am _)) ?_
 intro ob;refine T.ex (fun _=>AQ fun _=>AQ fun _=>Ba (Ac Am _)) ?_;intro Dh;refine T.ex (fun _=>AQ fun _=>Ba (Ac Am _)) ?_;intro OD;refine T.ex (fun _=>Ba (Ac Am _)) ?_;intro oc;refine T.and (fun _=>Ac Am _) ?_;rintro⟨rfl,hoc⟩;refine T.Og Am<|AZ 2 [1] Z<|F7 Z CE fun b0=>AP 18 [32,0,0,1,0,0,1] Z<|Du (c:=false) Z (beq_eq_false_iff_ne.2 (by simp only[List.length_cons];omega))<|AY 4 [] Z<|Ey 19 4098 294912 (by kernel_rfl)<|AP 6 [0,0,0,1] Z<|Jm Z XK ⟨Int.le_refl 0,by simp only[List.length_cons];omega⟩<|fA Z Z Z ax (.s (.s (.s .z))) Wn Z<|AP 4 [0,1] Z<|xn Z Z Z Z XK (by simp) hoc<|AP 2 [] Z<|H9 Z ax Z Z (.s .z) (Nat.le_of_ble_eq_true Z) (.s .z) (fB Z Z Z XK (by simp) hoc (BP Z Jj .z Z Aw))<|AP 2 [] Z<|KQ Z Mv Z (.s .z) Z (.s .z) (Aj (by kernel_rfl) (Aj (by kernel_rfl) Aw))<|AP 5 [12] Z<|OT (H1:=[_]) (H2:=_::_) Z tE Z (Wp (x:=⟨i,r,⟨3,pa,pb,pc⟩,Af,Ar,AL,still,Bh,Ah,k,alloc,Bl,Ae,nx⟩) Am hrm hkn) Am<|Hg Z tF CE fun b1=>AP 5 [] Z<|Du (c:=false) Z (by rw[he];rfl)<|AY 4 [] Z<|Br [0,2,3,5,6,8,9,11,12,14,15,18,19,20,21,22,1,4,7,10,16,13,17,23,24,25,26] 8249341 67117058 (by kernel_rfl)<|AP 16 [1,1,1,1,1,1,1,2] Z ?_
 refine aq 3 Z Z (fun _=>(BP Z o3 (.s (.s .z)) Z (Ed Z TF (Ed Z Pe (Ia Z (BP Z Jj (.s .z) Z (Ie Z (BP Z Jj (.s .z) Z (Ie Z (BP Z Jj (.s .z) Z (Ie Z (BP Z Jj (.s .z) Z (Ie Z (BP Z Jj (.s .z) Z (Ie Z (BP Z Jj (.s .z) Z (BP Z Jj (.s .z) Z Aw))))))))))))))))) fun mp=>eY (kt:=3) Am Z Z Z Z Z ED (by decide)<|eY (kt:=3) Am Z Z Z Z Z ED (by decide)<|eY (kt:=3) Am Z Z Z Z Z ED (by decide)<|eY (kt:=3) Am Z Z Z Z Z ED (by decide)<|aw (kt:=3) Am Z Z Z Z Z ED (PT (kt:=3) Am Z Z Z Z ED (by decide) (PT (kt:=3) Am Z Z Z Z ED (by decide) (PT (kt:=3) Am Z Z Z Z ED (by decide) (PT (kt:=3) Am Z Z Z Z ED (by decide) (BP Z o3 (.s (.s .z)) Z (Ed Z TF (Ed Z Pe (Ia Z (BP Z Jj (.s .z) Z (Ie Z (BP Z Jj (.s .z) Z (Aj (by kernel_rfl) (Aj (by kernel_rfl) (Ie Z (BP Z Jj (.s .z) Z (Ie Z (BP Z Jj (.s .z) Z (Ie Z (BP Z Jj (.s .z) Z (BP Z Jj (.s .z) Z Aw))))))))))))))))))))<|NC Z<|bc (kt:=3) Z Z Z Z ED<|AP 2 [] Z ?_
 refine KQ Z xx Z (.s (.s .z)) Z (.s (.s .z)) (Aj (by kernel_rfl) (Aj (by kernel_rfl) (Aj (by kernel_rfl) (Aj (by kernel_rfl) (Aj (by kernel_rfl) (Aj (by kernel_rfl) (Aj (by kernel_rfl) (Aj (by kernel_rfl) (Aj (by kernel_rfl) (Aj (by kernel_rfl) (Aj (by kernel_rfl) (Aj (by kernel_rfl) (Aj (by kernel_rfl) (Aj (by kernel_rfl) (Aj (by kernel_rfl) (Aj (by kernel_rfl) (Aj (by kernel_rfl) (Aj (by kernel_rfl) (Aj (by kernel_rfl) (Aj (by kernel_rfl) Aw))))))))))))))))))))<|AY 2 [] Z<|T.Jc (H':=[_,_,_,_,_]) Am (Wk.Az Wk.Jd _)<|CW 10 [0,1,2] Z<|T.BJ Z fun W D h=>?_
 obtain⟨D0,g1,g2⟩:=Wk.pick [2,3,4] (by decide) D W h;obtain⟨D1,h1,g3⟩:=Wk.Az (PU hoc) [_,_] D0 W g1;have h2: ∀k,D1 k→D k:=fun k hk=>g2 k (g3 k hk)
 exact⟨D1,⟨rfl,rfl,_,_,_,_,_,_,_,⟨rb,rest,m,rfl,hrm,rfl,rfl⟩,h1⟩,h2⟩
theorem jM{rest:List Value}{pa pb pc:Int}{r:List I4}(hkn:(0:Int)≤4)(ho:x.Aq=⟨4,pa,pb,pc⟩::r)(he:Mu.Pv C.M {x with op:=⟨4,pa,pb,pc⟩,Aq:=r}=0)(hrm:x.Af.length+rest.length=m):Cv C 62 [AX d] l (Gh C d x ov rb rest m bf H6 H7 nv []) (.tuple #[]) l (J9 C d {x with op:=⟨4,pa,pb,pc⟩,Aq:=r,next:= .NU}):=by
 obtain⟨i,os,⟨k0,k1,k2,k3⟩,Af,Ar,AL,still,Bh,Ah,k,alloc,Bl,Ae,nx⟩:=x;obtain rfl:os=⟨4,pa,pb,pc⟩::r:=ho;refine Ci 83 Tryz.func62 Z (Ac (Ag Am Ap) _) fun w0 D0=>dN (Ag Am Ap)<|T.Jc (H':=[_,_]) (AQ fun _=>AQ fun _=>AQ fun _=>AQ fun _=>Ba (Ac Am _)) (Wk.Az PV _)<|T.ex (fun _=>AQ fun _=>AQ fun _=>AQ fun _=>Ba (Ac Am _)) ?_
 intro ob;refine T.ex (fun _=>AQ fun _=>AQ fun _=>Ba (Ac Am _)) ?_;intro Dh;refine T.ex (fun _=>AQ fun _=>Ba (Ac Am _)) ?_;intro OD;refine T.ex (fun _=>Ba (Ac Am _)) ?_;intro oc;refine T.and (fun _=>Ac Am _) ?_;rintro⟨rfl,hoc⟩;refine T.Og Am<|AZ 2 [1] Z<|F7 Z CE fun b0=>AP 18 [32,0,0,1,0,0,1] Z<|Du (c:=false) Z (beq_eq_false_iff_ne.2 (by simp only[List.length_cons];omega))<|AY 4 [] Z<|Ey 19 4098 294912 (by kernel_rfl)<|AP 6 [0,0,0,1] Z<|Jm Z XK ⟨Int.le_refl 0,by simp only[List.length_cons];omega⟩<|fA Z Z Z ax (.s (.s (.s .z))) Wn Z<|AP 4 [0,1] Z<|xn Z Z Z Z XK (by simp) hoc<|AP 2 [] Z<|H9 Z ax Z Z (.s .z) (Nat.le_of_ble_eq_true Z) (.s .z) (fB Z Z Z XK (by simp) hoc (BP Z Jj .z Z Aw))<|AP 2 [] Z<|KQ Z Mv Z (.s .z) Z (.s .z) (Aj (by kernel_rfl) (Aj (by kernel_rfl) Aw))<|AP 5 [12] Z<|OT (H1:=[_]) (H2:=_::_) Z tE Z (Wp (x:=⟨i,r,⟨4,pa,pb,pc⟩,Af,Ar,AL,still,Bh,Ah,k,alloc,Bl,Ae,nx⟩) Am hrm hkn) Am<|Hg Z tF CE fun b1=>AP 5 [] Z<|Du (c:=false) Z (by rw[he];rfl)<|AY 4 [] Z<|Br [0,2,3,5,6,8,9,11,12,14,15,18,19,20,21,22,1,4,7,10,13,16,17,23,24,25,26] 8191997 67174402 (by kernel_rfl)<|AP 16 [1,1,1,1,1,1,1,2] Z ?_
 refine aq 4 Z Z (fun _=>(BP Z o3 (.s (.s .z)) Z (Ed Z TF (Ed Z Pe (Ia Z (BP Z Jj (.s .z) Z (Ie Z (BP Z Jj (.s .z) Z (Ie Z (BP Z Jj (.s .z) Z (Ie Z (BP Z Jj (.s .z) Z (Ie Z (BP Z Jj (.s .z) Z (Ie Z (BP Z Jj (.s .z) Z (BP Z Jj (.s .z) Z Aw))))))))))))))))) fun mp=>eY (kt:=3) Am Z Z Z Z Z ED (by decide)<|eY (kt:=3) Am Z Z Z Z Z ED (by decide)<|eY (kt:=3) Am Z Z Z Z Z ED (by decide)<|eY (kt:=3) Am Z Z Z Z Z ED (by decide)<|aw (kt:=3) Am Z Z Z Z Z ED (PT (kt:=3) Am Z Z Z Z ED (by decide) (PT (kt:=3) Am Z Z Z Z ED (by decide) (PT (kt:=3) Am Z Z Z Z ED (by decide) (PT (kt:=3) Am Z Z Z Z ED (by decide) (BP Z o3 (.s (.s .z)) Z (Ed Z TF (Ed Z Pe (Ia Z (BP Z Jj (.s .z) Z (Aj (by kernel_rfl) (Aj (by kernel_rfl) (Ie Z (BP Z Jj (.s .z) Z (Ie Z (BP Z Jj (.s .z) Z (Ie Z (BP Z Jj (.s .z) Z (Ie Z (BP Z Jj (.s .z) Z (BP Z Jj (.s .z) Z Aw))))))))))))))))))))<|NC Z<|bc (kt:=3) Z Z Z Z ED<|AP 2 [] Z ?_
 refine KQ Z xx Z (.s (.s .z)) Z (.s (.s .z)) (Aj (by kernel_rfl) (Aj (by kernel_rfl) (Aj (by kernel_rfl) (Aj (by kernel_rfl) (Aj (by kernel_rfl) (Aj (by kernel_rfl) (Aj (by kernel_rfl) (Aj (by kernel_rfl) (Aj (by kernel_rfl) (Aj (by kernel_rfl) (Aj (by kernel_rfl) (Aj (by kernel_rfl) (Aj (by kernel_rfl) (Aj (by kernel_rfl) (Aj (by kernel_rfl) (Aj (by kernel_rfl) (Aj (by kernel_rfl) (Aj (by kernel_rfl) (Aj (by kernel_rfl) (Aj (by kernel_rfl) Aw))))))))))))))))))))<|AY 2 [] Z<|T.Jc (H':=[_,_,_,_,_]) Am (Wk.Az Wk.Jd _)<|CW 10 [0,1,2] Z<|T.BJ Z fun W D h=>?_
 obtain⟨D0,g1,g2⟩:=Wk.pick [2,3,4] (by decide) D W h;obtain⟨D1,h1,g3⟩:=Wk.Az (PU hoc) [_,_] D0 W g1;have h2: ∀k,D1 k→D k:=fun k hk=>g2 k (g3 k hk)
 exact⟨D1,⟨rfl,rfl,_,_,_,_,_,_,_,⟨rb,rest,m,rfl,hrm,rfl,rfl⟩,h1⟩,h2⟩
theorem Mu.X1(h:x.Pv M=0):x.op.kind=0∨x.op.kind=1∨x.op.kind=2∨x.op.kind=3∨x.op.kind=4:=by
 unfold Mu.Pv at h
 repeat' split at h
 all_goals omega
theorem PX{rest:List Value}(hx: ∀o∈x.Aq,Np o)(hrm:x.Af.length+rest.length=m):Cv C 62 [AX d] l (Gh C d x ov rb rest m bf H6 H7 nv []) (.tuple #[]) l (J9 C d (x.BX C.M)):=by
 cases h:x.Aq with
 |nil=>
  have e:x.BX C.M={x with next:= .ES}:=by unfold Mu.BX;rw[h]
  rw[e];exact xy h hrm
 |cons o r=>
  obtain⟨kd,pa,pb,pc⟩:=o;have hb:x.BX C.M=if Mu.Pv C.M {x with op:=⟨kd,pa,pb,pc⟩,Aq:=r}≠0 then{x with op:=⟨kd,pa,pb,pc⟩,Aq:=r,next:= .fail (Mu.Pv C.M {x with op:=⟨kd,pa,pb,pc⟩,Aq:=r})}
    else if kd=0 then{x with op:=⟨kd,pa,pb,pc⟩,Aq:=r,alloc:= .new pa x.Bh,next:= .EU} else{x with op:=⟨kd,pa,pb,pc⟩,Aq:=r,next:=Mu.first {x with op:=⟨kd,pa,pb,pc⟩,Aq:=r}}:=by
   unfold Mu.BX;rw[h]
  rw[hb];have hk:0≤kd:=(hx ⟨kd,pa,pb,pc⟩ (by rw[h];simp)).1.1;by_cases he:Mu.Pv C.M {x with op:=⟨kd,pa,pb,pc⟩,Aq:=r}=0
  ·rw[if_neg (fun g=>g he)];rcases Mu.X1 he with e|e|e|e|e
   ·obtain rfl:kd=0:=e;rw[if_pos rfl];exact bU hk h he hrm
   ·obtain rfl:kd=1:=e;exact qI hk h he hrm
   ·obtain rfl:kd=2:=e;exact qJ hk h he hrm
   ·obtain rfl:kd=3:=e;exact jL hk h he hrm
   obtain rfl:kd=4:=e;exact jM hk h he hrm
  rw[if_pos he];exact yc hk h he hrm
theorem mI:Cm 112=true:=by kernel_rfl
theorem mK:Cm 113=true:=by kernel_rfl
theorem bi:Cm 149=true:=by kernel_rfl
theorem R0:Cm 151=true:=by kernel_rfl
theorem Fw:Cm 152=true:=by kernel_rfl
theorem bj:Cm 153=true:=by kernel_rfl
theorem bl:Cm 156=true:=by kernel_rfl
theorem br:Cm 157=true:=by kernel_rfl
theorem mL:Cm 178=true:=by kernel_rfl
theorem zz:Cm 52=true:=by kernel_rfl
theorem tG:Cm 62=true:=by kernel_rfl
theorem yf(h0:ts=[]):Ce (α:=Option Addr×Nat) C 151 [AX bf] l (XJ C bf ts) (fun a=> .slice a.1 ts.length a.2) l (fun _=>True) (fun _=>XJ C bf ts):=by
 refine Ci 10 Tryz.func151 Z Am fun w0 D0=>T.ex (fun _=>AQ fun _=>Ba (Ac Aa _)) ?_
 intro tv;refine T.ex (fun _=>Ba (Ac Aa _)) ?_;intro B;refine T.and (fun _=>Ac Aa _) ?_;intro hs;have hs':=hs;obtain⟨rfl,-,rfl⟩:=hs.resolve_right (fun⟨_,_,_,_,h,_⟩=>h h0);subst h0;exact Gu Aa<|AZ 18 [] Z<|CB Z zz (qE) Aa<|AY 2 [] Z<|T.BC Z fun W D h=>⟨D,⟨(none,0),rfl,trivial,rfl,_,_,hs',h⟩,fun _ hk=>hk⟩
theorem yg(h0:ts≠[])(hl:ts.length≤4):Ce (α:=Option Addr×Nat) C 151 [AX bf] l (XJ C bf ts) (fun a=> .slice a.1 ts.length a.2) l (fun _=>True) (fun _=>XJ C bf ts):=by
 refine Ci 10 Tryz.func151 Z Am fun w0 D0=>T.ex (fun _=>AQ fun _=>Ba (Ac Aa _)) ?_
 intro tv;refine T.ex (fun _=>Ba (Ac Aa _)) ?_;intro B;refine T.and (fun _=>Ac Aa _) ?_;intro hs;have hs':=hs;obtain⟨tb,rs,cm,rfl,-,rfl,-,-⟩:=hs.resolve_left (fun h=>h0 h.2.1);have hlen:0<ts.length∧ts.length≤1000000:=⟨List.length_pos_iff.2 h0,by omega⟩;refine dN Aa<|AZ 18 [0,0,16] Z<|NW (H1:=[_]) (H2:=[_]) (B:=fun(a:Nat×List Value×Nat)=>[⟨a.1,90,Gv ts++a.2.1⟩,⟨tb,90,Gv ts++rs⟩]) Z zz Z (TY (news:=Gv ts) (rest:=rs) hlen (by simp[Gv])) (fun _=>Aa) JH fun a0 ha0=>AY 2 [] Z<|T.BC Z fun W D h=>?_
 obtain⟨D1,h1,h2⟩:=Eb [0,2] (by decide) h;exact⟨D1,⟨(some _,_),rfl,trivial,rfl,_,_,hs',h1⟩,h2⟩
theorem U6(hl:ts.length≤4):Ce (α:=Option Addr×Nat) C 151 [AX bf] l (XJ C bf ts) (fun a=> .slice a.1 ts.length a.2) l (fun _=>True) (fun _=>XJ C bf ts):=by
 by_cases h0:ts=[]
 ·exact yf h0
 exact yg h0 hl
theorem Zn{rest:List Value}{lg:Bu}(hrm:x.Af.length+rest.length=m):Cv C 152 [AX d,AX q,fm 62 d] l (Az [⟨d,133,x.cs C ov (Dc rb x.Af.length m) bf H6 H7 nv⟩,Sz rb x rest] (BG (eH C q ⟨lg,bf,x.Ar⟩) (Me ov x.Aq))) (.tuple #[]) l (J9 C d {x with Bl:=lg,next:= .Dt .BX}):=by
 obtain⟨i,os,⟨k0,k1,k2,k3⟩,Af,Ar,AL,still,Bh,Ah,k,alloc,Bl,Ae,nx⟩:=x;refine Ci 14 Tryz.func152 Z (Ac (Ag CZ Ap) _) fun w0 D0=>dN (Ag CZ Ap)<|AZ 2 [3] Z<|F7 Z CE fun b0=>F7 Z CE fun b1=>AY 16 [16,1,2,16,1,2] Z<|T.BJ Z fun W D h=>?_
 obtain⟨D1,h1,h2⟩:=D6 [2,3,1,0] (by decide) h;exact⟨D1,⟨rfl,rfl,_,_,_,_,_,_,_,⟨rb,rest,m,rfl,hrm,b0,b1,_,q,_,rfl,rfl,⟨rfl,rfl⟩,rfl⟩,h1⟩,h2⟩
theorem jO{rest:List Value}{lg:Bu}(hrm:x.Af.length+rest.length=m):Cv C 152 [AX d,AX q,fm 113 d] l (Az [⟨d,133,x.cs C ov (Dc rb x.Af.length m) bf H6 H7 nv⟩,Sz rb x rest] (BG (eH C q ⟨lg,bf,x.Ar⟩) (Me ov x.Aq))) (.tuple #[]) l (J9 C d {x with Bl:=lg,next:= .Dt .DZ}):=by
 obtain⟨i,os,⟨k0,k1,k2,k3⟩,Af,Ar,AL,still,Bh,Ah,k,alloc,Bl,Ae,nx⟩:=x;refine Ci 14 Tryz.func152 Z (Ac (Ag CZ Ap) _) fun w0 D0=>dN (Ag CZ Ap)<|AZ 2 [3] Z<|F7 Z CE fun b0=>F7 Z CE fun b1=>AY 16 [16,1,2,16,1,2] Z<|T.BJ Z fun W D h=>?_
 obtain⟨D1,h1,h2⟩:=D6 [2,3,1,0] (by decide) h;exact⟨D1,⟨rfl,rfl,_,_,_,_,_,_,_,⟨rb,rest,m,rfl,hrm,b0,b1,_,q,_,rfl,rfl,⟨rfl,rfl⟩,rfl⟩,h1⟩,h2⟩
theorem Wq{rest:List Value}{lg:Bu}(hrm:x.Af.length+rest.length=m):Cv C 152 [AX d,AX q,.func (.func 149) #[] #[AX bq]] l (Az [⟨d,133,x.cs C ov (Dc rb x.Af.length m) bf H6 H7 nv⟩,Sz rb x rest,⟨bq,83,[AX d]⟩] (BG (eH C q ⟨lg,bf,x.Ar⟩) (Me ov x.Aq))) (.tuple #[]) l (J9 C d {x with Bl:=lg,next:= .Dt .F5}):=by
 obtain⟨i,os,⟨k0,k1,k2,k3⟩,Af,Ar,AL,still,Bh,Ah,k,alloc,Bl,Ae,nx⟩:=x;refine Ci 14 Tryz.func152 Z (Ac (Ag CZ Ap) _) fun w0 D0=>iJ (Ag CZ Ap)<|AZ 2 [3] Z<|F7 Z CE fun b0=>F7 Z CE fun b1=>AY 16 [16,1,2,16,1,2] Z<|T.BJ Z fun W D h=>?_
 obtain⟨D1,h1,h2⟩:=D6 [2,3,1,0,4] (by decide) h;exact⟨D1,⟨rfl,rfl,_,_,_,_,_,_,_,⟨rb,rest,m,rfl,hrm,b0,b1,_,q,_,rfl,rfl,⟨bq,rfl,rfl⟩,rfl⟩,h1⟩,h2⟩
theorem Zo{rest:List Value}{lg:Bu}(hrm:x.Af.length+rest.length=m):Cv C 152 [AX d,AX q,.func (.func 156) #[] #[AX bq]] l (Az [⟨d,133,x.cs C ov (Dc rb x.Af.length m) bf H6 H7 nv⟩,Sz rb x rest,⟨bq,83,[AX d]⟩] (BG (eH C q ⟨lg,bf,x.Ar⟩) (Me ov x.Aq))) (.tuple #[]) l (J9 C d {x with Bl:=lg,next:= .Dt .DN}):=by
 obtain⟨i,os,⟨k0,k1,k2,k3⟩,Af,Ar,AL,still,Bh,Ah,k,alloc,Bl,Ae,nx⟩:=x;refine Ci 14 Tryz.func152 Z (Ac (Ag CZ Ap) _) fun w0 D0=>iJ (Ag CZ Ap)<|AZ 2 [3] Z<|F7 Z CE fun b0=>F7 Z CE fun b1=>AY 16 [16,1,2,16,1,2] Z<|T.BJ Z fun W D h=>?_
 obtain⟨D1,h1,h2⟩:=D6 [2,3,1,0,4] (by decide) h;exact⟨D1,⟨rfl,rfl,_,_,_,_,_,_,_,⟨rb,rest,m,rfl,hrm,b0,b1,_,q,_,rfl,rfl,⟨bq,rfl,rfl⟩,rfl⟩,h1⟩,h2⟩
theorem Ws{rest:List Value}{lg:Bu}(hrm:x.Af.length+rest.length=m):Cv C 152 [AX d,AX q,.func (.func 157) #[] #[AX bq]] l (Az [⟨d,133,x.cs C ov (Dc rb x.Af.length m) bf H6 H7 nv⟩,Sz rb x rest,⟨bq,83,[AX d]⟩] (BG (eH C q ⟨lg,bf,x.Ar⟩) (Me ov x.Aq))) (.tuple #[]) l (J9 C d {x with Bl:=lg,next:= .Dt .FN}):=by
 obtain⟨i,os,⟨k0,k1,k2,k3⟩,Af,Ar,AL,still,Bh,Ah,k,alloc,Bl,Ae,nx⟩:=x;refine Ci 14 Tryz.func152 Z (Ac (Ag CZ Ap) _) fun w0 D0=>iJ (Ag CZ Ap)<|AZ 2 [3] Z<|F7 Z CE fun b0=>F7 Z CE fun b1=>AY 16 [16,1,2,16,1,2] Z<|T.BJ Z fun W D h=>?_
 obtain⟨D1,h1,h2⟩:=D6 [2,3,1,0,4] (by decide) h;exact⟨D1,⟨rfl,rfl,_,_,_,_,_,_,_,⟨rb,rest,m,rfl,hrm,b0,b1,_,q,_,rfl,rfl,⟨bq,rfl,rfl⟩,rfl⟩,h1⟩,h2⟩
theorem Fx{rest:List Value}{v c:Int}(hrm:x.Af.length+rest.length=m)(hv:C.M.CU v>0):Cv C 150 [AX d,.int .i64 v,.int .u64 c,fm 113 d] l (Gh C d x ov rb rest m bf H6 H7 nv []) (.tuple #[]) l (J9 C d {x with Bl:= .Bl v c,next:= .Dt .DZ}):=by
 obtain⟨i,os,⟨k0,k1,k2,k3⟩,Af,Ar,AL,still,Bh,Ah,k,alloc,Bl,Ae,nx⟩:=x;exact Ci 27 Tryz.func150 Z (Ac (Ag Am Ap) _) fun w0 D0=>dN (Ag Am Ap)<|AZ 8 [] Z<|CB Z C6 (Kw) (Ag Am Ap)<|Du (c:=false) Z (beq_eq_false_iff_ne.2 (by omega))<|AP 11 [640] Z<|bP Z Z Z Z mL (Cn.FD (Zh hv) Ap) (fun _=>Ag CZ Ap) CE fun q0=>NC Z<|RV (H1:=[]) (H2:=[_,_]) Z Fw Z (jO hrm) Dj Aw<|X.nil<|T.BJ Z fun W D h=>⟨D,⟨rfl,rfl,h⟩,fun _ hk=>hk⟩
theorem Fy{rest:List Value}{v c:Int}(hl:CV R')(hv:C.M.CU v=0)(hth:Cv C 113 [AX d] l (Gh C d x ov rb rest m bf H6 H7 nv []) (.tuple #[]) l R'):Cv C 150 [AX d,.int .i64 v,.int .u64 c,fm 113 d] l (Gh C d x ov rb rest m bf H6 H7 nv []) (.tuple #[]) l (R'):=by
 exact Ci 27 Tryz.func150 Z (Ac (Ag Am Ap) _) fun w0 D0=>dN (Ag Am Ap)<|AZ 8 [] Z<|CB Z C6 (Kw) (Ag Am Ap)<|Du (c:=true) Z (beq_iff_eq.2 hv)<|AP 5 [2] Z<|RV (H1:=[]) (H2:=[_,_]) Z mK Z (hth) hl Aw<|X.nil<|T.J6 Z fun W D h=>⟨D,⟨rfl,rfl,h⟩,fun _ hk=>hk⟩
theorem XM{rest:List Value}{v c:Int}(hrm:x.Af.length+rest.length=m)(hv:C.M.CU v>0):Cv C 150 [AX d,.int .i64 v,.int .u64 c,.func (.func 156) #[] #[AX bq]] l (Gh C d x ov rb rest m bf H6 H7 nv [⟨bq,83,[AX d]⟩]) (.tuple #[]) l (J9 C d {x with Bl:= .Bl v c,next:= .Dt .DN}):=by
 obtain⟨i,os,⟨k0,k1,k2,k3⟩,Af,Ar,AL,still,Bh,Ah,k,alloc,Bl,Ae,nx⟩:=x;exact Ci 27 Tryz.func150 Z (Ac (Ag Am Ap) _) fun w0 D0=>iJ (Ag Am Ap)<|AZ 8 [] Z<|CB Z C6 (Kw) (Ag Am Ap)<|Du (c:=false) Z (beq_eq_false_iff_ne.2 (by omega))<|AP 11 [640] Z<|bP Z Z Z Z mL (Cn.FD (Zh hv) Ap) (fun _=>Ag CZ Ap) CE fun q0=>NC Z<|RV (H1:=[]) (H2:=[_,_,_]) Z Fw Z (Zo hrm) Dj Aw<|X.nil<|T.BJ Z fun W D h=>⟨D,⟨rfl,rfl,h⟩,fun _ hk=>hk⟩
theorem XN{rest:List Value}{v c:Int}(hl:CV R')(hv:C.M.CU v=0)(hth:Cv C 156 [AX bq] l (Gh C d x ov rb rest m bf H6 H7 nv [⟨bq,83,[AX d]⟩]) (.tuple #[]) l R'):Cv C 150 [AX d,.int .i64 v,.int .u64 c,.func (.func 156) #[] #[AX bq]] l (Gh C d x ov rb rest m bf H6 H7 nv [⟨bq,83,[AX d]⟩]) (.tuple #[]) l (R'):=by
 exact Ci 27 Tryz.func150 Z (Ac (Ag Am Ap) _) fun w0 D0=>iJ (Ag Am Ap)<|AZ 8 [] Z<|CB Z C6 (Kw) (Ag Am Ap)<|Du (c:=true) Z (beq_iff_eq.2 hv)<|AP 5 [2] Z<|RV (H1:=[]) (H2:=[_,_,_]) Z bl Z (hth) hl Aw<|X.nil<|T.J6 Z fun W D h=>⟨D,⟨rfl,rfl,h⟩,fun _ hk=>hk⟩
theorem U7{rest:List Value}{v c:Int}(hrm:x.Af.length+rest.length=m)(hv:C.M.CU v>0):Cv C 150 [AX d,.int .i64 v,.int .u64 c,.func (.func 157) #[] #[AX bq]] l (Gh C d x ov rb rest m bf H6 H7 nv [⟨bq,83,[AX d]⟩]) (.tuple #[]) l (J9 C d {x with Bl:= .Bl v c,next:= .Dt .FN}):=by
 obtain⟨i,os,⟨k0,k1,k2,k3⟩,Af,Ar,AL,still,Bh,Ah,k,alloc,Bl,Ae,nx⟩:=x;exact Ci 27 Tryz.func150 Z (Ac (Ag Am Ap) _) fun w0 D0=>iJ (Ag Am Ap)<|AZ 8 [] Z<|CB Z C6 (Kw) (Ag Am Ap)<|Du (c:=false) Z (beq_eq_false_iff_ne.2 (by omega))<|AP 11 [640] Z<|bP Z Z Z Z mL (Cn.FD (Zh hv) Ap) (fun _=>Ag CZ Ap) CE fun q0=>NC Z<|RV (H1:=[]) (H2:=[_,_,_]) Z Fw Z (Ws hrm) Dj Aw<|X.nil<|T.BJ Z fun W D h=>⟨D,⟨rfl,rfl,h⟩,fun _ hk=>hk⟩
theorem U8{rest:List Value}{v c:Int}(hl:CV R')(hv:C.M.CU v=0)(hth:Cv C 157 [AX bq] l (Gh C d x ov rb rest m bf H6 H7 nv [⟨bq,83,[AX d]⟩]) (.tuple #[]) l R'):Cv C 150 [AX d,.int .i64 v,.int .u64 c,.func (.func 157) #[] #[AX bq]] l (Gh C d x ov rb rest m bf H6 H7 nv [⟨bq,83,[AX d]⟩]) (.tuple #[]) l (R'):=by
 exact Ci 27 Tryz.func150 Z (Ac (Ag Am Ap) _) fun w0 D0=>iJ (Ag Am Ap)<|AZ 8 [] Z<|CB Z C6 (Kw) (Ag Am Ap)<|Du (c:=true) Z (beq_iff_eq.2 hv)<|AP 5 [2] Z<|RV (H1:=[]) (H2:=[_,_,_]) Z br Z (hth) hl Aw<|X.nil<|T.J6 Z fun W D h=>⟨D,⟨rfl,rfl,h⟩,fun _ hk=>hk⟩
theorem Wu{rest:List Value}(hl:CV R')(h0:x.Ar=[])(hth:Cv C 62 [AX d] l (Gh C d x ov rb rest m bf H6 H7 nv []) (.tuple #[]) l R'):Cv C 114 [AX d,fm 62 d] l (Gh C d x ov rb rest m bf H6 H7 nv []) (.tuple #[]) l (R'):=by
 have hl4:x.Ar.length≤4:=by rw[h0];decide
 exact Ci 21 Tryz.func114 Z (Ac (Ag Am Ap) _) fun w0 D0=>dN (Ag Am Ap)<|AZ 7 [16] Z<|NW (H1:=[_,_]) (H2:=[]) (B:=fun _=>[]) Z R0 Z (Ce.FD (U6 hl4) Ap) (fun _=>(Ag Am Ap)) JH fun a0 ha0=>aV Z KH<|Du (c:=true) Z (by rw[h0];rfl)<|AP 5 [2] Z<|RV (H1:=[]) (H2:=[_,_]) Z tG Z (hth) hl Aw<|X.nil<|T.J6 Z fun W D h=>⟨D,⟨rfl,rfl,h⟩,fun _ hk=>hk⟩
theorem Wv{rest:List Value}(hrm:x.Af.length+rest.length=m)(hl4:x.Ar.length≤4)(h0:x.Ar≠[]):Cv C 114 [AX d,fm 62 d] l (Gh C d x ov rb rest m bf H6 H7 nv []) (.tuple #[]) l (J9 C d {x with Bl:= .Pq x.Ar,next:= .Dt .BX}):=by
 obtain⟨i,os,⟨k0,k1,k2,k3⟩,Af,Ar,AL,still,Bh,Ah,k,alloc,Bl,Ae,nx⟩:=x;exact Ci 21 Tryz.func114 Z (Ac (Ag Am Ap) _) fun w0 D0=>dN (Ag Am Ap)<|AZ 7 [16] Z<|NW (H1:=[_,_]) (H2:=[]) (B:=fun _=>[]) Z R0 Z (Ce.FD (U6 hl4) Ap) (fun _=>(Ag Am Ap)) JH fun a0 ha0=>aV Z KH<|Du (c:=false) Z (beq_eq_false_iff_ne.2 (by have:=List.length_pos_iff.2 h0;omega))<|AP 9 [160] Z<|bP Z Z Z Z bj (Cn.FD (TD h0 hl4) Ap) (fun _=>Ag CZ Ap) CE fun q1=>NC Z<|RV (H1:=[]) (H2:=[_,_]) Z Fw Z (Zn hrm) Dj Aw<|X.nil<|T.BJ Z fun W D h=>⟨D,⟨rfl,rfl,h⟩,fun _ hk=>hk⟩
theorem TZ{rest:List Value}(hl:CV R')(h0:x.Ar=[])(hth:Cv C 149 [AX bq] l (Gh C d x ov rb rest m bf H6 H7 nv [⟨bq,83,[AX d]⟩]) (.tuple #[]) l R'):Cv C 114 [AX d,.func (.func 149) #[] #[AX bq]] l (Gh C d x ov rb rest m bf H6 H7 nv [⟨bq,83,[AX d]⟩]) (.tuple #[]) l (R'):=by
 have hl4:x.Ar.length≤4:=by rw[h0];decide
 exact Ci 21 Tryz.func114 Z (Ac (Ag Am Ap) _) fun w0 D0=>iJ (Ag Am Ap)<|AZ 7 [16] Z<|NW (H1:=[_,_,_]) (H2:=[]) (B:=fun _=>[]) Z R0 Z (Ce.FD (U6 hl4) Ap) (fun _=>(Ag Am Ap)) JH fun a0 ha0=>aV Z KH<|Du (c:=true) Z (by rw[h0];rfl)<|AP 5 [2] Z<|RV (H1:=[]) (H2:=[_,_,_]) Z bi Z (hth) hl Aw<|X.nil<|T.J6 Z fun W D h=>⟨D,⟨rfl,rfl,h⟩,fun _ hk=>hk⟩
theorem Ua{rest:List Value}(hrm:x.Af.length+rest.length=m)(hl4:x.Ar.length≤4)(h0:x.Ar≠[]):Cv C 114 [AX d,.func (.func 149) #[] #[AX bq]] l (Gh C d x ov rb rest m bf H6 H7 nv [⟨bq,83,[AX d]⟩]) (.tuple #[]) l (J9 C d {x with Bl:= .Pq x.Ar,next:= .Dt .F5}):=by
 obtain⟨i,os,⟨k0,k1,k2,k3⟩,Af,Ar,AL,still,Bh,Ah,k,alloc,Bl,Ae,nx⟩:=x;exact Ci 21 Tryz.func114 Z (Ac (Ag Am Ap) _) fun w0 D0=>iJ (Ag Am Ap)<|AZ 7 [16] Z<|NW (H1:=[_,_,_]) (H2:=[]) (B:=fun _=>[]) Z R0 Z (Ce.FD (U6 hl4) Ap) (fun _=>(Ag Am Ap)) JH fun a0 ha0=>aV Z KH<|Du (c:=false) Z (beq_eq_false_iff_ne.2 (by have:=List.length_pos_iff.2 h0;omega))<|AP 9 [160] Z<|bP Z Z Z Z bj (Cn.FD (TD h0 hl4) Ap) (fun _=>Ag CZ Ap) CE fun q1=>NC Z<|RV (H1:=[]) (H2:=[_,_,_]) Z Fw Z (Wq hrm) Dj Aw<|X.nil<|T.BJ Z fun W D h=>⟨D,⟨rfl,rfl,h⟩,fun _ hk=>hk⟩
theorem Xv{rest:List Value}(hrm:x.Af.length+rest.length=m):Cv C 149 [AX bq] l (Gh C d x ov rb rest m bf H6 H7 nv [⟨bq,83,[AX d]⟩]) (.tuple #[]) l (J9 C d {x with next:= .Jq (Hm (3*x.Ah))}):=by
 obtain⟨i,os,⟨k0,k1,k2,k3⟩,Af,Ar,AL,still,Bh,Ah,k,alloc,Bl,Ae,nx⟩:=x;refine Ci 11 Tryz.func149 Z (Ac (Ag Am Ap) _) fun w0 D0=>iJ (Ag Am Ap)<|Ey 11 1 1152 (by kernel_rfl)<|AP 6 [2,2,2] Z<|BU Z (I9 _)<|Fd (H:=[_,_,_]) Z Z Z Z mI (Zl) (fun _ _=>(BP Z Jj (.s (.s .z)) Z Aw)) fun c0a c0b=>AP 2 [] Z<|KQ Z xx Z .z Z .z (Aj (by kernel_rfl) Aw)<|X.nil<|T.BJ Z fun W D h=>?_
 obtain⟨D1,h1,h2⟩:=D6 [0,1,3,4] (by decide) h;exact⟨D1,⟨rfl,rfl,_,_,_,_,_,_,_,⟨rb,rest,m,rfl,hrm,c0a,c0b,rfl,rfl⟩,h1⟩,h2⟩
theorem FA:Cm 114=true:=by kernel_rfl
theorem R3:Cm 150=true:=by kernel_rfl
theorem g90:Cm 90=true:=by kernel_rfl
theorem SB{rest:List Value}(hx: ∀o∈x.Aq,Np o)(hl4:x.Ar.length≤4)(hrm:x.Af.length+rest.length=m):Cv C 114 [AX d,fm 62 d] l (Gh C d x ov rb rest m bf H6 H7 nv []) (.tuple #[]) l (J9 C d (if x.Ar=[] then x.BX C.M else{x with Bl:= .Pq x.Ar,next:= .Dt .BX})):=by
 by_cases h0:x.Ar=[]
 ·rw[if_pos h0];exact Wu Dj h0 (PX hx hrm)
 rw[if_neg h0];exact Wv hrm hl4 h0
theorem yh{rest:List Value}(hl4:x.Ar.length≤4)(hrm:x.Af.length+rest.length=m):Cv C 114 [AX d,.func (.func 149) #[] #[AX bq]] l (Gh C d x ov rb rest m bf H6 H7 nv [⟨bq,83,[AX d]⟩]) (.tuple #[]) l (J9 C d x.Iw):=by
 unfold Mu.Iw;by_cases h0:x.Ar=[]
 ·rw[if_pos h0];exact TZ Dj h0 (Xv hrm)
 rw[if_neg h0];exact Ua hrm hl4 h0
theorem qK{rest:List Value}(hl4:x.Ar.length≤4)(hk:x.k=x.Af.length)(hrm:x.Af.length+rest.length=m):Cv C 113 [AX d] l (Gh C d x ov rb rest m bf H6 H7 nv []) (.tuple #[]) l (J9 C d x.Iw):=by
 obtain⟨i,os,⟨k0,k1,k2,k3⟩,Af,Ar,AL,still,Bh,Ah,k,alloc,Bl,Ae,nx⟩:=x;exact Ci 42 Tryz.func113 Z (Ac (Ag Am Ap) _) fun w0 D0=>dN (Ag Am Ap)<|AZ 2 [1] Z<|F7 Z CE fun b0=>AY 3 [] Z<|Ey 10 0 0 (by kernel_rfl)<|AP 9 [0,1,0,1] Z<|Du (c:=true) Z (beq_iff_eq.2 (by show((k:Nat):Int)=(Af.length:Int);simp only at hk;omega))<|AP 6 [4] Z<|Tm (H2:=[_,_,_]) (is:=[1,2,0]) (by decide) Z Z Z Z FA Z (yh hl4 hrm) Dj Aw<|X.nil<|T.J6 Z fun W D h=>⟨D,⟨rfl,rfl,h⟩,fun _ hk=>hk⟩
theorem wO{rest:List Value}(hlt:x.k<x.Af.length)(yj:x.Af.length≤8)(hv:C.M.CU (x.Af.getD x.k 0)>0)(hrm:x.Af.length+rest.length=m):Cv C 113 [AX d] l (Gh C d x ov rb rest m bf H6 H7 nv []) (.tuple #[]) l (J9 C d {x with k:=x.k+1,Bl:= .Bl (x.Af.getD x.k 0) x.Ah,next:= .Dt .DZ}):=by
 obtain⟨i,os,⟨k0,k1,k2,k3⟩,Af,Ar,AL,still,Bh,Ah,k,alloc,Bl,Ae,nx⟩:=x;simp only at hlt yj hv;exact Ci 42 Tryz.func113 Z (Ac (Ag Am Ap) _) fun w0 D0=>dN (Ag Am Ap)<|AZ 2 [1] Z<|F7 Z CE fun b0=>AY 3 [] Z<|Ey 10 0 0 (by kernel_rfl)<|AP 9 [0,1,0,1] Z<|Du (c:=false) Z (beq_eq_false_iff_ne.2 (by show((k:Nat):Int)≠(Af.length:Int);omega))<|AY 4 [] Z<|Ey 11 0 0 (by kernel_rfl)<|AP 8 [0,1,0,1] Z<|Jm Z JV ⟨Int.natCast_nonneg _,Int.ofNat_lt.2 hlt⟩<|JY Z o3 (.s (.s .z)) (EL hlt)<|AP 8 [128,0,1] Z<|BU (c:=((k+1:Nat):Int)) Z (by simp only[FC];rw[IntWalk.i64_in _ (by omega)];omega)<|AY 4 [1] Z<|Ey 9 0 256 (by kernel_rfl)<|AP 8 [0,0,1] Z<|Tm (H2:=[_,_]) (is:=[1,2]) (by decide) Z Z Z Z R3 Z (Fx (x:=⟨i,os,⟨k0,k1,k2,k3⟩,Af,Ar,AL,still,Bh,Ah,k+1,alloc,Bl,Ae,nx⟩) hrm hv) Dj Aw<|X.nil<|T.BJ Z fun W D h=>⟨D,⟨rfl,rfl,h⟩,fun _ hk=>hk⟩
theorem jP{rest:List Value}(hlt:x.k<x.Af.length)(yj:x.Af.length≤8)(hl:CV R')(hv:C.M.CU (x.Af.getD x.k 0)=0)(hth: ∀nv,Cv C 113 [AX d] l (Gh C d {x with k:=x.k+1} ov rb rest m bf H6 H7 nv []) (.tuple #[]) l R')(hrm:x.Af.length+rest.length=m):Cv C 113 [AX d] l (Gh C d x ov rb rest m bf H6 H7 nv []) (.tuple #[]) l (R'):=by
 obtain⟨i,os,⟨k0,k1,k2,k3⟩,Af,Ar,AL,still,Bh,Ah,k,alloc,Bl,Ae,nx⟩:=x;simp only at hlt yj hv;exact Ci 42 Tryz.func113 Z (Ac (Ag Am Ap) _) fun w0 D0=>dN (Ag Am Ap)<|AZ 2 [1] Z<|F7 Z CE fun b0=>AY 3 [] Z<|Ey 10 0 0 (by kernel_rfl)<|AP 9 [0,1,0,1] Z<|Du (c:=false) Z (beq_eq_false_iff_ne.2 (by show((k:Nat):Int)≠(Af.length:Int);omega))<|AY 4 [] Z<|Ey 11 0 0 (by kernel_rfl)<|AP 8 [0,1,0,1] Z<|Jm Z JV ⟨Int.natCast_nonneg _,Int.ofNat_lt.2 hlt⟩<|JY Z o3 (.s (.s .z)) (EL hlt)<|AP 8 [128,0,1] Z<|BU (c:=((k+1:Nat):Int)) Z (by simp only[FC];rw[IntWalk.i64_in _ (by omega)];omega)<|AY 4 [1] Z<|Ey 9 0 256 (by kernel_rfl)<|AP 8 [0,0,1] Z<|Tm (H2:=[_,_]) (is:=[1,2]) (by decide) Z Z Z Z R3 Z (Fy (x:=⟨i,os,⟨k0,k1,k2,k3⟩,Af,Ar,AL,still,Bh,Ah,k+1,alloc,Bl,Ae,nx⟩) hl hv (hth _)) hl Aw<|X.nil<|T.BJ Z fun W D h=>⟨D,⟨rfl,rfl,h⟩,fun _ hk=>hk⟩
theorem qL{C:Cx}{l:Dk}{d:Nat}(Ld: ∀v,C.M.CU v≥0): ∀(n:Nat) {x:Mu} {ov:Value} {rb:Nat} {rest:List Value} {m bf:Nat} {H6 H7 nv:Value} (hl4:x.Ar.length≤4) (hk:x.k+n=x.Af.length) (yj:x.Af.length≤8) (hrm:x.Af.length+rest.length=m),Cv C 113 [AX d] l (Gh C d x ov rb rest m bf H6 H7 nv []) (.tuple #[]) l (J9 C d (x.QV C.M n))
 |0,x,_,_,_,_,_,_,_,_,hl4,hk,yj,hrm=>qK hl4 (by omega) hrm
 |n+1,x,_,_,_,_,_,_,_,_,hl4,hk,yj,hrm=>by
  unfold Mu.QV;by_cases hv:C.M.CU (x.Af.getD x.k 0)=0
  ·rw[if_pos hv];exact jP (by omega) yj Dj hv (fun nv=>qL Ld n (x:={x with k:=x.k+1}) hl4 (by simp only;omega) yj hrm) hrm
  rw[if_neg hv];exact wO (by omega) yj (by have:=Ld (x.Af.getD x.k 0);omega) hrm
theorem ay{rest:List Value}(Ld: ∀v,C.M.CU v≥0)(hl4:x.Ar.length≤4)(hk:x.k≤x.Af.length)(yj:x.Af.length≤8)(hrm:x.Af.length+rest.length=m):Cv C 113 [AX d] l (Gh C d x ov rb rest m bf H6 H7 nv []) (.tuple #[]) l (J9 C d (x.DZ C.M)):=
 qL Ld _ hl4 (by omega) yj hrm
theorem yl{a b:Int}(h:TR .neq a b=true):a≠b:=by simpa[TR] using h
theorem yt{a b:Int}(h:TR .neq a b=false):a=b:=by simpa[TR] using h
theorem SC{i:Int}{os:List I4}{op:I4}{Af Ar:List Int}{AL still Bh:Int}{k:Nat}{alloc:Hp}{Bl:Bu}(n1: ¬(ld l 0 % 8=1∧AL≠ld l 0/8))(n2: ¬(ld l 0 % 8=2∧still≠ld l 0/8))(n3: ¬(ld l 0 % 8=3∧Bh≠ld l 0/8)):
  (⟨i,os,op,Af,Ar,AL,still,Bh,Ah,k,alloc,Bl,Ae,.ES⟩:Mu).Au M l=((if Ar=[] then(⟨i,os,op,Af,Ar,AL,still,Bh,ld l 0/8,k,alloc,Bl,Ae,.ES⟩:Mu).BX M else⟨i,os,op,Af,Ar,AL,still,Bh,ld l 0/8,k,alloc,.Pq Ar,Ae,.Dt .BX⟩),l):=by
 unfold Mu.Au;simp only;rw[if_neg n1,if_neg n2,if_neg n3];split
 ·rfl
 rfl
theorem lj{c k:Int}(h:0≤k∧k≤2):IntKind.u64.wrap (Hm (3*c)-k)=Hm (3*c-k):=by rw[I9];unfold Hm;omega
theorem jQ(hM:C.M.Ok)(hm:x.Ok C.M)(hr: ∀a,Bf (ld l a))(hn:x.next= .ES):Nl C d x l (x.Au C.M l).1 (x.Au C.M l).2:=by
 obtain⟨i,os,⟨k0,k1,k2,k3⟩,Af,Ar,AL,still,Bh,Ah,k,alloc,Bl,Ae,nx⟩:=x;obtain rfl:nx= .ES:=hn;have Ld: ∀v,C.M.CU v≥0:=fun v=>(Fg hM v).1
 have hB:=hM.CQ;have hle:=hm.le;have hl4:Ar.length≤4:=by simp only at hle;omega
 have hops:=hm.Aq;rintro ov rv bf H6 H7 nv RN ⟨rb,rest,m,rfl,hrm,rfl,rfl⟩;refine⟨90,[AX d],[],rfl,g90,?_⟩;refine Ci 87 Tryz.func90 Z (Ac (Ac (Ag Am Ap) _) _) fun w0 D0=>Gu (Ac (Ag Am Ap) _)<|T.Og (Ag Am Ap)<|AZ 7 [] Z<|CB Z li (UM) (Ag Am Ap)<|CB Z UT (EH (Ag Am Ap)) (Ag Am Ap)<|CB Z yb (YW (Ag Am Ap) (hr _)) (Ag Am Ap)<|AY 14 [16] Z<|T.block<|T.seq ?_
 by_cases p1:ld l 0 % 8=1
 ·skip;refine AZ 2 [] Z<|Du (c:=true) Z (beq_iff_eq.2 p1)<|AP 7 [] Z<|Hz Z<|AY 2 [] Z<|T.cond Z ?_ ?_
  ·intro hb1;have c1:ld l 0 % 8=1∧AL≠ld l 0/8:=⟨p1,yl hb1⟩;refine AZ 12 [16,0,288] Z<|BU Z (I9 _)<|BU (c:=Hm (3*(ld l 0/8)-2)) Z (lj (by omega))<|Fd (H:=[_,_]) Z Z Z Z mI (Zl) JH fun c0a c0b=>AY 4 [] Z<|T.Bj<|T.BJ Z fun W D h=>?_
   rw[show(⟨i,os,⟨k0,k1,k2,k3⟩,Af,Ar,AL,still,Bh,Ah,k,alloc,Bl,Ae,.ES⟩:Mu).Au C.M l=_ from if_pos c1];exact⟨D,⟨rfl,rfl,_,_,_,_,_,_,_,⟨rb,rest,m,rfl,hrm,_,_,rfl,rfl⟩,h⟩,fun _ hk=>hk⟩
  intro hb1;have n1: ¬(ld l 0 % 8=1∧AL≠ld l 0/8):=fun h=>h.2 (yt hb1)
  have n2: ¬(ld l 0 % 8=2∧still≠ld l 0/8):=fun h=>by omega
  have n3: ¬(ld l 0 % 8=3∧Bh≠ld l 0/8):=fun h=>by omega
  refine AZ 3 [] Z<|Du (c:=false) Z (beq_eq_false_iff_ne.2 (by omega))<|AP 7 [] Z<|Hz Z<|AP 6 [] Z<|Du (c:=false) Z (beq_eq_false_iff_ne.2 (by omega))<|AP 7 [] Z<|Hz Z<|AP 7 [8] Z<|RV (H1:=[]) (H2:=[_,_]) Z FA Z (SB (x:=⟨i,os,⟨k0,k1,k2,k3⟩,Af,Ar,AL,still,Bh,ld l 0/8,k,alloc,Bl,Ae,.ES⟩) hops hl4 hrm) Dj Aw<|X.nil<|T.Bj<|T.BJ Z fun W D h=>?_
  rw[SC n1 n2 n3];exact⟨D,⟨rfl,rfl,h⟩,fun _ hk=>hk⟩
 have n1: ¬(ld l 0 % 8=1∧AL≠ld l 0/8):=fun h=>p1 h.1
 refine AZ 2 [] Z<|Du (c:=false) Z (beq_eq_false_iff_ne.2 p1)<|AP 7 [] Z<|Hz Z<|AY 4 [] Z ?_;by_cases p2:ld l 0 % 8=2
 ·skip;refine AZ 2 [] Z<|Du (c:=true) Z (beq_iff_eq.2 p2)<|AP 7 [] Z<|Hz Z<|AY 2 [] Z<|T.cond Z ?_ ?_
  ·intro hb2;have c2:ld l 0 % 8=2∧still≠ld l 0/8:=⟨p2,yl hb2⟩;refine AZ 12 [16,0,288] Z<|BU Z (I9 _)<|BU (c:=Hm (3*(ld l 0/8)-1)) Z (lj (by omega))<|Fd (H:=[_,_]) Z Z Z Z mI (Zl) JH fun c1a c1b=>AY 4 [] Z<|T.Bj<|T.BJ Z fun W D h=>?_
   rw[show(⟨i,os,⟨k0,k1,k2,k3⟩,Af,Ar,AL,still,Bh,Ah,k,alloc,Bl,Ae,.ES⟩:Mu).Au C.M l=_ from(if_neg n1).trans (if_pos c2)];exact⟨D,⟨rfl,rfl,_,_,_,_,_,_,_,⟨rb,rest,m,rfl,hrm,_,_,rfl,rfl⟩,h⟩,fun _ hk=>hk⟩
  intro hb2;have n2: ¬(ld l 0 % 8=2∧still≠ld l 0/8):=fun h=>h.2 (yt hb2)
  have n3: ¬(ld l 0 % 8=3∧Bh≠ld l 0/8):=fun h=>by omega
  refine AZ 3 [] Z<|Du (c:=false) Z (beq_eq_false_iff_ne.2 (by omega))<|AP 7 [] Z<|Hz Z<|AP 7 [8] Z<|RV (H1:=[]) (H2:=[_,_]) Z FA Z (SB (x:=⟨i,os,⟨k0,k1,k2,k3⟩,Af,Ar,AL,still,Bh,ld l 0/8,k,alloc,Bl,Ae,.ES⟩) hops hl4 hrm) Dj Aw<|X.nil<|T.Bj<|T.BJ Z fun W D h=>?_
  rw[SC n1 n2 n3];exact⟨D,⟨rfl,rfl,h⟩,fun _ hk=>hk⟩
 have n2: ¬(ld l 0 % 8=2∧still≠ld l 0/8):=fun h=>p2 h.1
 refine AZ 2 [] Z<|Du (c:=false) Z (beq_eq_false_iff_ne.2 p2)<|AP 7 [] Z<|Hz Z<|AY 4 [] Z ?_;by_cases p3:ld l 0 % 8=3
 ·skip;refine AZ 2 [] Z<|Du (c:=true) Z (beq_iff_eq.2 p3)<|AP 7 [] Z<|Hz Z<|AY 2 [] Z<|T.cond Z ?_ ?_
  ·intro hb3;have c3:ld l 0 % 8=3∧Bh≠ld l 0/8:=⟨p3,yl hb3⟩;refine AZ 9 [8,0,2] Z<|RV (H1:=[]) (H2:=[_,_]) Z mK Z (ay (x:=⟨i,os,⟨k0,k1,k2,k3⟩,Af,Ar,AL,still,Bh,ld l 0/8,0,alloc,Bl,Ae,.ES⟩) Ld hl4 (Nat.zero_le _) hm.len hrm) Dj Aw<|X.nil<|T.Bj<|T.BJ Z fun W D h=>?_
   rw[show(⟨i,os,⟨k0,k1,k2,k3⟩,Af,Ar,AL,still,Bh,Ah,k,alloc,Bl,Ae,.ES⟩:Mu).Au C.M l=_ from(if_neg n1).trans ((if_neg n2).trans (if_pos c3))];exact⟨D,⟨rfl,rfl,h⟩,fun _ hk=>hk⟩
  intro hb3;have n3: ¬(ld l 0 % 8=3∧Bh≠ld l 0/8):=fun h=>h.2 (yt hb3)
  refine AZ 4 [8] Z<|RV (H1:=[]) (H2:=[_,_]) Z FA Z (SB (x:=⟨i,os,⟨k0,k1,k2,k3⟩,Af,Ar,AL,still,Bh,ld l 0/8,k,alloc,Bl,Ae,.ES⟩) hops hl4 hrm) Dj Aw<|X.nil<|T.Bj<|T.BJ Z fun W D h=>?_
  rw[SC n1 n2 n3];exact⟨D,⟨rfl,rfl,h⟩,fun _ hk=>hk⟩
 have n3: ¬(ld l 0 % 8=3∧Bh≠ld l 0/8):=fun h=>p3 h.1
 refine AZ 2 [] Z<|Du (c:=false) Z (beq_eq_false_iff_ne.2 p3)<|AP 7 [] Z<|Hz Z<|AP 7 [8] Z<|RV (H1:=[]) (H2:=[_,_]) Z FA Z (SB (x:=⟨i,os,⟨k0,k1,k2,k3⟩,Af,Ar,AL,still,Bh,ld l 0/8,k,alloc,Bl,Ae,.ES⟩) hops hl4 hrm) Dj Aw<|X.nil<|T.Bj<|T.BJ Z fun W D h=>?_
 rw[SC n1 n2 n3];exact⟨D,⟨rfl,rfl,h⟩,fun _ hk=>hk⟩
theorem γ:Cm 121=true:=by kernel_rfl
theorem ε:Cm 122=true:=by kernel_rfl
theorem bx:Cm 154=true:=by kernel_rfl
theorem mN:Cm 155=true:=by kernel_rfl
theorem κ:Cm 158=true:=by kernel_rfl
theorem ll:Cm 93=true:=by kernel_rfl
theorem g95:Cm 95=true:=by kernel_rfl
theorem g97:Cm 97=true:=by kernel_rfl
theorem z3:LU 3=some [.int .i64 0]:=by kernel_rfl
theorem az{rest:List Value}(hrm:x.Af.length+rest.length=m):Cv C 157 [AX bq] l (Gh C d x ov rb rest m bf H6 H7 nv [⟨bq,83,[AX d]⟩]) (.tuple #[]) l (J9 C d {x with next:= .Es}):=by
 obtain⟨i,os,⟨k0,k1,k2,k3⟩,Af,Ar,AL,still,Bh,Ah,k,alloc,Bl,Ae,nx⟩:=x;refine Ci 6 Tryz.func157 Z (Ac (Ag Am Ap) _) fun w0 D0=>iJ (Ag Am Ap)<|CW 8 [32,2,2] Z<|T.BJ Z fun W D h=>?_
 obtain⟨D1,h1,h2⟩:=D6 [0,1] (by decide) h;exact⟨D1,⟨rfl,rfl,_,_,_,_,_,_,_,⟨rb,rest,m,rfl,hrm,rfl,rfl⟩,h1⟩,h2⟩
theorem yu{rest:List Value}(Ld: ∀v,C.M.CU v≥0)(hrm:x.Af.length+rest.length=m):Cv C 150 [AX d,.int .i64 (x.root x.op.c),.int .u64 x.AL,.func (.func 157) #[] #[AX bq]] l (Gh C d x ov rb rest m bf H6 H7 nv [⟨bq,83,[AX d]⟩]) (.tuple #[]) l (J9 C d (x.DN C.M)):=by
 unfold Mu.DN;by_cases hv:C.M.CU (x.root x.op.c)=0
 ·rw[if_pos hv];exact U8 Dj hv (az hrm)
 rw[if_neg hv];exact U7 hrm (by have:=Ld (x.root x.op.c);omega)
theorem bg{rest:List Value}(Ld: ∀v,C.M.CU v≥0)(hrm:x.Af.length+rest.length=m):Cv C 156 [AX bq] l (Gh C d x ov rb rest m bf H6 H7 nv [⟨bq,83,[AX d]⟩]) (.tuple #[]) l (J9 C d (x.DN C.M)):=by
 obtain⟨i,os,⟨k0,k1,k2,k3⟩,Af,Ar,AL,still,Bh,Ah,k,alloc,Bl,Ae,nx⟩:=x;exact Ci 15 Tryz.func156 Z (Ac (Ag Am Ap) _) fun w0 D0=>iJ (Ag Am Ap)<|Ey 14 0 8192 (by kernel_rfl)<|AP 7 [2,2,2] Z<|OT (H1:=[]) (H2:=_::_) Z jK Z (LG (x:=⟨i,os,⟨k0,k1,k2,k3⟩,Af,Ar,AL,still,Bh,Ah,k,alloc,Bl,Ae,nx⟩) (Ag Am Ap) hrm) (Ag Am Ap)<|AP 5 [2] Z<|RV (H1:=[]) (H2:=[_,_,_]) Z R3 Z (yu (x:=⟨i,os,⟨k0,k1,k2,k3⟩,Af,Ar,AL,still,Bh,Ah,k,alloc,Bl,Ae,nx⟩) Ld hrm) Dj Aw<|X.nil<|T.BJ Z fun W D h=>⟨D,⟨rfl,rfl,h⟩,fun _ hk=>hk⟩
theorem yw{rest:List Value}{v:Int}(Ld: ∀v,C.M.CU v≥0)(hrm:x.Af.length+rest.length=m):Cv C 150 [AX d,.int .i64 v,.int .u64 x.AL,.func (.func 156) #[] #[AX bq]] l (Gh C d x ov rb rest m bf H6 H7 nv [⟨bq,83,[AX d]⟩]) (.tuple #[]) l (J9 C d (if C.M.CU v=0 then x.DN C.M else{x with Bl:= .Bl v x.AL,next:= .Dt .DN})):=by
 by_cases hv:C.M.CU v=0
 ·rw[if_pos hv];exact XN Dj hv (bg Ld hrm)
 rw[if_neg hv];exact XM hrm (by have:=Ld v;omega)
theorem mR(h:x.next= .old):x.Au M l=(if M.CU (M.KC (ld l (M.H8 (x.root x.op.a) x.op.b)))=0 then x.DN M else{x with Bl:= .Bl (M.KC (ld l (M.H8 (x.root x.op.a) x.op.b))) x.AL,next:= .Dt .DN},l):=by
 unfold Mu.Au;rw[h];simp only;split<;>rfl
theorem Zp(h: ∀v∈x.Af,EW v)(a:Int):x.root a≤4294967295:=by
 unfold Mu.root;by_cases c:a<0∨a≥x.Af.length
 ·rw[if_pos c];omega
 rw[if_neg c];have:=h _ (Nh (ts:=x.Af) (j:=a.toNat) (by omega));unfold EW at this;omega
theorem wP(hM:C.M.Ok)(hm:x.Ok C.M)(hr: ∀a,Bf (ld l a))(hn:x.next= .old):Nl C d x l (x.Au C.M l).1 (x.Au C.M l).2:=by
 obtain⟨i,os,⟨k0,k1,k2,k3⟩,Af,Ar,AL,still,Bh,Ah,k,alloc,Bl,Ae,nx⟩:=x;obtain rfl:nx= .old:=hn;have Ld: ∀v,C.M.CU v≥0:=fun v=>(Fg hM v).1
 have hB:=hM.CQ;have hle:=hm.le;have hl4:Ar.length≤4:=by simp only at hle;omega
 have hops:=hm.Aq;rintro ov rv bf H6 H7 nv RN ⟨rb,rest,m,rfl,hrm,rfl,rfl⟩;refine⟨122,[AX d],[],rfl,ε,?_⟩;refine Ci 19 Tryz.func122 Z (Ac (Ac (Ag Am Ap) _) _) fun w0 D0=>Gu (Ac (Ag Am Ap) _)<|T.Og (Ag Am Ap)<|AZ 2 [1] Z<|F7 Z CE fun b0=>AY 2 [] Z<|Ey 7 0 0 (by kernel_rfl)<|AP 3 [] Z<|OT (H1:=[_]) (H2:=_::_) Z mN Z (Zm (x:=⟨i,os,⟨k0,k1,k2,k3⟩,Af,Ar,AL,still,Bh,Ah,k,alloc,Bl,Ae,.old⟩) (Ag Am Ap) hrm hM) (Ag Am Ap)<|CB Z UT (EH (Ag Am Ap)) (Ag Am Ap)<|OT (H1:=[_]) (H2:=_::_) Z bx Z (qH (x:=⟨i,os,⟨k0,k1,k2,k3⟩,Af,Ar,AL,still,Bh,Ah,k,alloc,Bl,Ae,.old⟩) (Ag Am Ap) hrm hM (hr _)) (Ag Am Ap)<|AY 2 [] Z<|Ey 8 0 128 (by kernel_rfl)<|AP 7 [0,0,1] Z<|Tm (H2:=[_,_,_]) (is:=[1,2,0]) (by decide) Z Z Z Z R3 Z (yw (x:=⟨i,os,⟨k0,k1,k2,k3⟩,Af,Ar,AL,still,Bh,Ah,k,alloc,Bl,Ae,.old⟩) Ld hrm) Dj Aw<|X.nil<|T.BJ Z fun W D h=>?_
 rw[mR rfl];exact⟨D,⟨rfl,rfl,h⟩,fun _ hk=>hk⟩
theorem Zq(hM:C.M.Ok)(hm:x.Ok C.M)(hr: ∀a,Bf (ld l a))(hn:x.next= .Es):Nl C d x l (x.Au C.M l).1 (x.Au C.M l).2:=by
 obtain⟨i,os,⟨k0,k1,k2,k3⟩,Af,Ar,AL,still,Bh,Ah,k,alloc,Bl,Ae,nx⟩:=x;obtain rfl:nx= .Es:=hn;have Ld: ∀v,C.M.CU v≥0:=fun v=>(Fg hM v).1
 have hB:=hM.CQ;have hle:=hm.le;have hl4:Ar.length≤4:=by simp only at hle;omega
 have hops:=hm.Aq;rintro ov rv bf H6 H7 nv RN ⟨rb,rest,m,rfl,hrm,rfl,rfl⟩;refine⟨158,[AX d],[],rfl,κ,?_⟩;refine Ci 34 Tryz.func158 Z (Ac (Ac (Ag Am Ap) _) _) fun w0 D0=>Gu (Ac (Ag Am Ap) _)<|T.Og (Ag Am Ap) ?_
 have hrc:0≤Mu.root ⟨i,os,⟨k0,k1,k2,k3⟩,Af,Ar,AL,still,Bh,Ah,k,alloc,Bl,Ae,.Es⟩ k3∧Mu.root ⟨i,os,⟨k0,k1,k2,k3⟩,Af,Ar,AL,still,Bh,Ah,k,alloc,Bl,Ae,.Es⟩ k3≤4294967295:=⟨hm.wr (.inl rfl),Zp hm.Af _⟩;refine T.seq<|Ey 12 0 2048 (by kernel_rfl)<|AP 2 [] Z<|OT (H1:=[]) (H2:=_::_) Z mN Z (Zm (x:=⟨i,os,⟨k0,k1,k2,k3⟩,Af,Ar,AL,still,Bh,Ah,k,alloc,Bl,Ae,.Es⟩) (Ag Am Ap) hrm hM) (Ag Am Ap)<|AP 6 [] Z<|OT (H1:=[]) (H2:=_::_) Z jK Z (LG (x:=⟨i,os,⟨k0,k1,k2,k3⟩,Af,Ar,AL,still,Bh,Ah,k,alloc,Bl,Ae,.Es⟩) (Ag Am Ap) hrm) (Ag Am Ap)<|Ic Z FV Ej (IntWalk.u64_in _ ⟨hrc.1,Int.le_trans hrc.2 (by decide)⟩)<|Ls Z Q7 (Jw (Ag Am Ap) (show Bf _ from⟨hrc.1,Int.le_trans hrc.2 (by decide)⟩)) (Ag Am Ap) Aw<|X.nil<|Ey 18 0 131072 (by kernel_rfl)<|AP 16 [] Z<|Fp Z LW Ih Z<|Kt (H1:=[]) (H2:=_::_) (Ju:=_::_) Z xw Z (PW (Ag Am Ap)) (Ag Am Ap) Z Aw<|X.nil<|T.BJ Z fun W D h=>?_
 rw[show(⟨i,os,⟨k0,k1,k2,k3⟩,Af,Ar,AL,still,Bh,Ah,k,alloc,Bl,Ae,.Es⟩:Mu).Au C.M l=_ from rfl];exact⟨D,⟨rfl,rfl,_,_,_,_,_,_,_,⟨rb,rest,m,rfl,hrm,rfl,rfl⟩,h⟩,fun _ hk=>hk⟩
theorem FE(h:x.next= .head)(hb:x.op.b<0∨x.op.b≥ld l (M.D7 (x.root x.op.a))):x.Au M l=(x.fail 21,l):=by
 unfold Mu.Au;rw[h];exact if_pos hb
theorem FF{n:cU}(h:x.next= .head)(hb: ¬(x.op.b<0∨x.op.b≥ld l (M.D7 (x.root x.op.a))))(hn:n=if x.op.kind=2 then .old else .G5):x.Au M l=({x with next:=n},l):=by
 unfold Mu.Au;rw[h,hn];exact if_neg hb
theorem jR(hM:C.M.Ok)(hm:x.Ok C.M)(hr: ∀a,Bf (ld l a))(hn:x.next= .head):Nl C d x l (x.Au C.M l).1 (x.Au C.M l).2:=by
 obtain⟨i,os,⟨k0,k1,k2,k3⟩,Af,Ar,AL,still,Bh,Ah,k,alloc,Bl,Ae,nx⟩:=x;obtain rfl:nx= .head:=hn;have Ld: ∀v,C.M.CU v≥0:=fun v=>(Fg hM v).1
 have hB:=hM.CQ;have hle:=hm.le;have hl4:Ar.length≤4:=by simp only at hle;omega
 have hops:=hm.Aq;rintro ov rv bf H6 H7 nv RN ⟨rb,rest,m,rfl,hrm,rfl,rfl⟩;refine⟨95,[AX d],[],rfl,g95,?_⟩;refine Ci 53 Tryz.func95 Z (Ac (Ac (Ag Am Ap) _) _) fun w0 D0=>Gu (Ac (Ag Am Ap) _)<|T.Og (Ag Am Ap)<|T.seq<|Ey 15 0 0 (by kernel_rfl)<|AP 11 [] Z<|OT (H1:=[]) (H2:=_::_) Z jK Z (LG (x:=⟨i,os,⟨k0,k1,k2,k3⟩,Af,Ar,AL,still,Bh,Ah,k,alloc,Bl,Ae,.head⟩) (Ag Am Ap) hrm) (Ag Am Ap)<|CB Z kx (PH) (Ag Am Ap)<|CB Z UT (EH (Ag Am Ap)) (Ag Am Ap)<|AY 4 [] Z ?_
 by_cases hq:k2<0
 ·skip;refine AZ 6 [] Z<|Du (c:=true) Z (decide_eq_true hq)<|AP 9 [] Z<|Hz Z<|AP 5 [2] Z<|Kt (H1:=[]) (H2:=_::_) (Ju:=_::_) Z ll Z (SA (Ag Am Ap)) (Ag Am Ap) Z Aw<|X.nil<|T.J6 Z fun W D h=>?_
  rw[FE rfl (.inl hq)];exact⟨D,⟨rfl,rfl,_,_,_,_,_,_,_,⟨rb,rest,m,rfl,hrm,rfl,rfl⟩,h⟩,fun _ hk=>hk⟩
 skip;refine AZ 6 [] Z<|Du (c:=false) Z (decide_eq_false hq)<|AP 6 [] Z<|Ic Z FV Ej (IntWalk.u64_in _ (by have h3:(0≤k2∧k2≤255):=hm.op.2.2.1;exact⟨h3.1,Int.le_trans h3.2 (by decide)⟩))<|AP 2 [] Z<|Hz Z<|X.nil<|T.cond Z ?_ ?_
 ·intro hb1;refine AZ 3 [2] Z<|Kt (H1:=[]) (H2:=_::_) (Ju:=_::_) Z ll Z (SA (Ag Am Ap)) (Ag Am Ap) Z Aw<|X.nil<|T.J6 Z fun W D h=>?_
  rw[FE rfl (.inr (of_decide_eq_true hb1))];exact⟨D,⟨rfl,rfl,_,_,_,_,_,_,_,⟨rb,rest,m,rfl,hrm,rfl,rfl⟩,h⟩,fun _ hk=>hk⟩
 intro hb1;refine CW 19 [32] Z<|T.cond Z ?_ ?_
 ·intro hb2;refine CW 8 [32] Z<|T.BJ Z fun W D h=>?_
  rw[FF (n:= .old) rfl (fun g=>g.elim hq (of_decide_eq_false hb1)) (if_pos (eq_of_beq hb2)).symm];exact⟨D,⟨rfl,rfl,_,_,_,_,_,_,_,⟨rb,rest,m,rfl,hrm,rfl,rfl⟩,h⟩,fun _ hk=>hk⟩
 intro hb2;refine T.skip<|T.BJ Z fun W D h=>?_
 rw[FF (n:= .G5) rfl (fun g=>g.elim hq (of_decide_eq_false hb1)) (if_neg (ne_of_beq_false hb2)).symm];exact⟨D,⟨rfl,rfl,_,_,_,_,_,_,_,⟨rb,rest,m,rfl,hrm,rfl,rfl⟩,h⟩,fun _ hk=>hk⟩
theorem jS(hM:C.M.Ok)(hm:x.Ok C.M)(hr: ∀a,Bf (ld l a))(hn:x.next= .G5):Nl C d x l (x.Au C.M l).1 (x.Au C.M l).2:=by
 obtain⟨i,os,⟨k0,k1,k2,k3⟩,Af,Ar,AL,still,Bh,Ah,k,alloc,Bl,Ae,nx⟩:=x;obtain rfl:nx= .G5:=hn;have Ld: ∀v,C.M.CU v≥0:=fun v=>(Fg hM v).1
 have hB:=hM.CQ;have hle:=hm.le;have hl4:Ar.length≤4:=by simp only at hle;omega
 have hops:=hm.Aq;rintro ov rv bf H6 H7 nv RN ⟨rb,rest,m,rfl,hrm,rfl,rfl⟩;refine⟨121,[AX d],[],rfl,γ,?_⟩;refine Ci 35 Tryz.func121 Z (Ac (Ac (Ag Am Ap) _) _) fun w0 D0=>Gu (Ac (Ag Am Ap) _)<|T.Og (Ag Am Ap) ?_
 have hr8:Af.length<8:=hm.bQ (.inl rfl);have mS:Af.length+rest.length=m:=hrm;refine AZ 5 [] Z<|OT (H1:=[]) (H2:=_::_) Z mN Z (Zm (x:=⟨i,os,⟨k0,k1,k2,k3⟩,Af,Ar,AL,still,Bh,Ah,k,alloc,Bl,Ae,.G5⟩) (Ag Am Ap) hrm hM) (Ag Am Ap)<|CB Z UT (EH (Ag Am Ap)) (Ag Am Ap)<|OT (H1:=[]) (H2:=_::_) Z bx Z (qH (x:=⟨i,os,⟨k0,k1,k2,k3⟩,Af,Ar,AL,still,Bh,Ah,k,alloc,Bl,Ae,.G5⟩) (Ag Am Ap) hrm hM (hr _)) (Ag Am Ap)<|AP 10 [1216] Z<|Qc Z JV z3 (by decide) Z Z Z CE fun b0=>vY (Hr:=[_,_]) (cs:=Dl Af) (rest:=rest) (Ff:=[]) Z Z Z JV Z (Oi hrm).1 (Oi hrm).2 .z Z (by simp[BL]) ⟨by omega,(show Af.length+1≤1000000 by omega),by omega,by omega,(show Af.length≤m by omega)⟩ (Zk Af _) (show Af.length+1=(Af++[C.M.KC (ld l (C.M.H8 (Mu.root ⟨i,os,⟨k0,k1,k2,k3⟩,Af,Ar,AL,still,Bh,Ah,k,alloc,Bl,Ae,.G5⟩ k1) k2))]).length by simp) JH fun q1 rs cm hcm=>AY 4 [2] Z<|Ey 14 0 8192 (by kernel_rfl)<|AP 12 [2,2] Z<|Fp Z LW Ih Z<|Kt (H1:=[_,_]) (H2:=_::_) (Ju:=_::_) Z xw Z (PW (Ag Am Ap)) (Ag Am Ap) Z Aw<|X.nil<|T.BJ Z fun W D h=>?_
 rw[show(⟨i,os,⟨k0,k1,k2,k3⟩,Af,Ar,AL,still,Bh,Ah,k,alloc,Bl,Ae,.G5⟩:Mu).Au C.M l=_ from rfl];obtain⟨D1,h1,g2⟩:=Wk.pick [2,0] (by decide) D W h;exact⟨D1,⟨rfl,rfl,_,_,_,_,_,_,_,⟨q1,rs,cm,rfl,by have:=hcm.2;rw[Jo,Nat.mul_one] at this;exact this,rfl,rfl⟩,h1⟩,g2⟩
theorem wQ(hM:C.M.Ok)(hm:x.Ok C.M)(hr: ∀a,Bf (ld l a))(hn:x.next= .NU):Nl C d x l (x.Au C.M l).1 (x.Au C.M l).2:=by
 obtain⟨i,os,⟨k0,k1,k2,k3⟩,Af,Ar,AL,still,Bh,Ah,k,alloc,Bl,Ae,nx⟩:=x;obtain rfl:nx= .NU:=hn;have Ld: ∀v,C.M.CU v≥0:=fun v=>(Fg hM v).1
 have hB:=hM.CQ;have hle:=hm.le;have hl4:Ar.length≤4:=by simp only at hle;omega
 have hops:=hm.Aq;rintro ov rv bf H6 H7 nv RN ⟨rb,rest,m,rfl,hrm,rfl,rfl⟩;refine⟨97,[AX d],[],rfl,g97,?_⟩;refine Ci 32 Tryz.func97 Z (Ac (Ac (Ag Am Ap) _) _) fun w0 D0=>Gu (Ac (Ag Am Ap) _)<|T.Og (Ag Am Ap) ?_
 have hr8:Af.length<8:=hm.bQ (.inr (.inl rfl));have mS:Af.length+rest.length=m:=hrm;obtain⟨j,rfl⟩: ∃j:Nat,k1=(j:Int):=⟨k1.toNat,by have h3:(0≤k1∧k1≤255):=hm.op.2.1;omega⟩;have hlt:j<Af.length:=Int.ofNat_lt.1 (hm.NU rfl);refine T.seq<|Ey 21 31 1245184 (by kernel_rfl)<|AP 14 [] Z<|Jm Z JV ⟨Int.natCast_nonneg _,Int.ofNat_lt.2 hlt⟩<|JY Z o3 (.s .z) (EL hlt)<|Qc Z JV z3 (by decide) Z Z Z (fun _=>(BP Z XL (.s .z) Z (Ed Z mH (Ia Z (Bv Z (Bv Z Aw)))))) fun b0=>vY (Hr:=[_,_]) (cs:=Dl Af) (rest:=rest) (Ff:=[]) Z Z Z JV Z (Oi hrm).1 (Oi hrm).2 .z Z (by simp[BL]) ⟨by omega,(show Af.length+1≤1000000 by omega),by omega,by omega,(show Af.length≤m by omega)⟩ (Zk Af _) (show Af.length+1=(Af++[Af.getD j 0]).length by simp) (fun _ _=>(Aj (by kernel_rfl) (Aj (by kernel_rfl) (Aj (by kernel_rfl) (Aj (by kernel_rfl) (Bv Z Aw)))))) fun q1 rs cm hcm=>AP 2 [] Z<|KQ Z XL Z (.s (.s .z)) Z (.s (.s .z)) (Aj (by kernel_rfl) (Aj (by kernel_rfl) (Aj (by kernel_rfl) (Aj (by kernel_rfl) (Aj (by kernel_rfl) Aw)))))<|AP 8 [128,2] Z<|Fp Z LW Ih Z<|Kt (H1:=[_,_]) (H2:=_::_) (Ju:=_::_) Z xw Z (PW (Ag Am Ap)) (Ag Am Ap) Z Aw<|X.nil<|T.BJ Z fun W D h=>?_
 rw[show(⟨i,os,⟨k0,(j:Int),k2,k3⟩,Af,Ar,AL,still,Bh,Ah,k,alloc,Bl,Ae,.NU⟩:Mu).Au C.M l=_ from rfl];obtain⟨D1,h1,g2⟩:=Wk.pick [2,0] (by decide) D W h;exact⟨D1,⟨rfl,rfl,_,_,_,_,_,_,_,⟨q1,rs,cm,rfl,by have:=hcm.2;rw[Jo,Nat.mul_one] at this;exact this,rfl,rfl⟩,h1⟩,g2⟩
theorem φ:Cm 118=true:=by kernel_rfl
theorem Aa0:Cm 119=true:=by kernel_rfl
theorem Aa1:Cm 120=true:=by kernel_rfl
theorem Aa2:Cm 147=true:=by kernel_rfl
theorem FG:Cm 179=true:=by kernel_rfl
theorem FJ:Cm 180=true:=by kernel_rfl
theorem FL:Cm 181=true:=by kernel_rfl
theorem lr:Cm 60=true:=by kernel_rfl
theorem g92:Cm 92=true:=by kernel_rfl
theorem g94:Cm 94=true:=by kernel_rfl
theorem g96:Cm 96=true:=by kernel_rfl
theorem LH(hM:M.Ok){b:Bu}(h:(⟨b,0,ts⟩:II).Ok M)(hr: ∀a,Bf (ld l a)):((⟨b,0,ts⟩:II).step M l).1.Ok M:=II.Ef hM h hr
theorem Zr(hM:C.M.Ok)(hm:x.Ok C.M)(hr: ∀a,Bf (ld l a))(hn:x.next= .Dt .BX):Nl C d x l (x.Au C.M l).1 (x.Au C.M l).2:=by
 obtain⟨i,os,⟨k0,k1,k2,k3⟩,Af,Ar,AL,still,Bh,Ah,k,alloc,Bl,Ae,nx⟩:=x;obtain rfl:nx= .Dt .BX:=hn;have Ld: ∀v,C.M.CU v≥0:=fun v=>(Fg hM v).1
 have hB:=hM.CQ;have hle:=hm.le;have hl4:Ar.length≤4:=by simp only at hle;omega
 have hops:=hm.Aq;rintro ov rv bf H6 H7 nv RN ⟨rb,rest,m,rfl,hrm,b1,b2,tv,q,B,rfl,rfl,⟨rfl,rfl⟩,rfl⟩;refine⟨179,[],[AX b1,AX b2],rfl,FG,?_⟩;refine Ci 22 Tryz.func179 Z (Ac (Ac (Ag CZ Ap) _) _) fun w0 D0=>Gu (Ac (Ag CZ Ap) _)<|T.Og (Ag CZ Ap) ?_
 have hbu:(⟨Bl,bf,Ar⟩:II).Ok C.M:=II.qF (hm.Dt _ rfl);refine AZ 7 [32,2] Z<|Ls Z FJ (Cv.FD (PS (m:=⟨Bl,bf,Ar⟩) hM hbu hr) Ap) (Ag CZ Ap) Aw<|AY 3 [] Z<|Ey 9 0 256 (by kernel_rfl)<|AP 5 [2,2] Z<|CB Z FL (Cv.FD Rj Ap) (Ag CZ Ap)<|AY 8 [] Z<|T.cond Z ?_ ?_
 ·intro hb0;have FR:(Bl.step C.M Ar l).2.1.length≤4:=by have h4:=(LH hM (hm.Dt _ rfl) hr).le;have h5:(((Bl.step C.M Ar l).2.1.length:Nat):Int)≤C.M.CQ:=h4;omega
  refine T.Jc (H':=[_,_,_,_]) (Ag Am Ap) (Wk.Az (Wk.BG qG (Wk.refl _)) _)<|AZ 2 [2,3] Z<|Tm (H2:=[_,_]) (is:=[0,1]) (by decide) Z Z Z Z tG Z (PX (x:=⟨i,os,⟨k0,k1,k2,k3⟩,Af,(Bl.step C.M Ar l).2.1,AL,still,Bh,Ah,k,alloc,(Bl.step C.M Ar l).1,(Bl.step C.M Ar l).1.Ae,.Dt .BX⟩) hops hrm) Dj Aw<|X.nil<|T.BJ Z fun W D h=>?_
  rw[show(⟨i,os,⟨k0,k1,k2,k3⟩,Af,Ar,AL,still,Bh,Ah,k,alloc,Bl,Ae,.Dt .BX⟩:Mu).Au C.M l=_ from if_pos (of_decide_eq_true hb0)];exact⟨D,⟨rfl,rfl,h⟩,fun _ hk=>hk⟩
 intro hb0;refine T.skip<|T.BJ Z fun W D h=>?_
 rw[show(⟨i,os,⟨k0,k1,k2,k3⟩,Af,Ar,AL,still,Bh,Ah,k,alloc,Bl,Ae,.Dt .BX⟩:Mu).Au C.M l=_ from if_neg (of_decide_eq_false hb0)];exact⟨D,⟨rfl,rfl,_,_,_,_,_,_,_,⟨rb,rest,m,rfl,hrm,b1,b2,_,q,_,rfl,rfl,⟨rfl,rfl⟩,rfl⟩,h⟩,fun _ hk=>hk⟩
theorem jT(hM:C.M.Ok)(hm:x.Ok C.M)(hr: ∀a,Bf (ld l a))(hn:x.next= .Dt .DZ):Nl C d x l (x.Au C.M l).1 (x.Au C.M l).2:=by
 obtain⟨i,os,⟨k0,k1,k2,k3⟩,Af,Ar,AL,still,Bh,Ah,k,alloc,Bl,Ae,nx⟩:=x;obtain rfl:nx= .Dt .DZ:=hn;have Ld: ∀v,C.M.CU v≥0:=fun v=>(Fg hM v).1
 have hB:=hM.CQ;have hle:=hm.le;have hl4:Ar.length≤4:=by simp only at hle;omega
 have hops:=hm.Aq;rintro ov rv bf H6 H7 nv RN ⟨rb,rest,m,rfl,hrm,b1,b2,tv,q,B,rfl,rfl,⟨rfl,rfl⟩,rfl⟩;refine⟨179,[],[AX b1,AX b2],rfl,FG,?_⟩;refine Ci 22 Tryz.func179 Z (Ac (Ac (Ag CZ Ap) _) _) fun w0 D0=>Gu (Ac (Ag CZ Ap) _)<|T.Og (Ag CZ Ap) ?_
 have hbu:(⟨Bl,bf,Ar⟩:II).Ok C.M:=II.qF (hm.Dt _ rfl);have hk:k≤Af.length:=hm.k rfl;refine AZ 7 [32,2] Z<|Ls Z FJ (Cv.FD (PS (m:=⟨Bl,bf,Ar⟩) hM hbu hr) Ap) (Ag CZ Ap) Aw<|AY 3 [] Z<|Ey 9 0 256 (by kernel_rfl)<|AP 5 [2,2] Z<|CB Z FL (Cv.FD Rj Ap) (Ag CZ Ap)<|AY 8 [] Z<|T.cond Z ?_ ?_
 ·intro hb0;have FR:(Bl.step C.M Ar l).2.1.length≤4:=by have h4:=(LH hM (hm.Dt _ rfl) hr).le;have h5:(((Bl.step C.M Ar l).2.1.length:Nat):Int)≤C.M.CQ:=h4;omega
  refine T.Jc (H':=[_,_,_,_]) (Ag Am Ap) (Wk.Az (Wk.BG qG (Wk.refl _)) _)<|AZ 2 [2,3] Z<|Tm (H2:=[_,_]) (is:=[0,1]) (by decide) Z Z Z Z mK Z (ay (x:=⟨i,os,⟨k0,k1,k2,k3⟩,Af,(Bl.step C.M Ar l).2.1,AL,still,Bh,Ah,k,alloc,(Bl.step C.M Ar l).1,(Bl.step C.M Ar l).1.Ae,.Dt .DZ⟩) Ld FR hk hm.len hrm) Dj Aw<|X.nil<|T.BJ Z fun W D h=>?_
  rw[show(⟨i,os,⟨k0,k1,k2,k3⟩,Af,Ar,AL,still,Bh,Ah,k,alloc,Bl,Ae,.Dt .DZ⟩:Mu).Au C.M l=_ from if_pos (of_decide_eq_true hb0)];exact⟨D,⟨rfl,rfl,h⟩,fun _ hk=>hk⟩
 intro hb0;refine T.skip<|T.BJ Z fun W D h=>?_
 rw[show(⟨i,os,⟨k0,k1,k2,k3⟩,Af,Ar,AL,still,Bh,Ah,k,alloc,Bl,Ae,.Dt .DZ⟩:Mu).Au C.M l=_ from if_neg (of_decide_eq_false hb0)];exact⟨D,⟨rfl,rfl,_,_,_,_,_,_,_,⟨rb,rest,m,rfl,hrm,b1,b2,_,q,_,rfl,rfl,⟨rfl,rfl⟩,rfl⟩,h⟩,fun _ hk=>hk⟩
theorem Wx(hM:C.M.Ok)(hm:x.Ok C.M)(hr: ∀a,Bf (ld l a))(hn:x.next= .Dt .F5):Nl C d x l (x.Au C.M l).1 (x.Au C.M l).2:=by
 obtain⟨i,os,⟨k0,k1,k2,k3⟩,Af,Ar,AL,still,Bh,Ah,k,alloc,Bl,Ae,nx⟩:=x;obtain rfl:nx= .Dt .F5:=hn;have Ld: ∀v,C.M.CU v≥0:=fun v=>(Fg hM v).1
 have hB:=hM.CQ;have hle:=hm.le;have hl4:Ar.length≤4:=by simp only at hle;omega
 have hops:=hm.Aq;rintro ov rv bf H6 H7 nv RN ⟨rb,rest,m,rfl,hrm,b1,b2,tv,q,B,rfl,rfl,⟨bq,rfl,rfl⟩,rfl⟩;refine⟨179,[],[AX b1,AX b2],rfl,FG,?_⟩;refine Ci 22 Tryz.func179 Z (Ac (Ac (Ag CZ Ap) _) _) fun w0 D0=>Gu (Ac (Ag CZ Ap) _)<|T.Og (Ag CZ Ap) ?_
 have hbu:(⟨Bl,bf,Ar⟩:II).Ok C.M:=II.qF (hm.Dt _ rfl);refine AZ 7 [32,2] Z<|Ls Z FJ (Cv.FD (PS (m:=⟨Bl,bf,Ar⟩) hM hbu hr) Ap) (Ag CZ Ap) Aw<|AY 3 [] Z<|Ey 9 0 256 (by kernel_rfl)<|AP 5 [2,2] Z<|CB Z FL (Cv.FD Rj Ap) (Ag CZ Ap)<|AY 8 [] Z<|T.cond Z ?_ ?_
 ·intro hb0;have FR:(Bl.step C.M Ar l).2.1.length≤4:=by have h4:=(LH hM (hm.Dt _ rfl) hr).le;have h5:(((Bl.step C.M Ar l).2.1.length:Nat):Int)≤C.M.CQ:=h4;omega
  refine T.Jc (H':=[_,_,_,_,_]) (Ag Am Ap) (Wk.Az (Wk.BG qG (Wk.refl _)) _)<|AZ 2 [2,3] Z<|Tm (H2:=[_,_,_]) (is:=[0,1,4]) (by decide) Z Z Z Z bi Z (Xv (x:=⟨i,os,⟨k0,k1,k2,k3⟩,Af,(Bl.step C.M Ar l).2.1,AL,still,Bh,Ah,k,alloc,(Bl.step C.M Ar l).1,(Bl.step C.M Ar l).1.Ae,.Dt .F5⟩) hrm) Dj Aw<|X.nil<|T.BJ Z fun W D h=>?_
  rw[show(⟨i,os,⟨k0,k1,k2,k3⟩,Af,Ar,AL,still,Bh,Ah,k,alloc,Bl,Ae,.Dt .F5⟩:Mu).Au C.M l=_ from if_pos (of_decide_eq_true hb0)];exact⟨D,⟨rfl,rfl,h⟩,fun _ hk=>hk⟩
 intro hb0;refine T.skip<|T.BJ Z fun W D h=>?_
 rw[show(⟨i,os,⟨k0,k1,k2,k3⟩,Af,Ar,AL,still,Bh,Ah,k,alloc,Bl,Ae,.Dt .F5⟩:Mu).Au C.M l=_ from if_neg (of_decide_eq_false hb0)];exact⟨D,⟨rfl,rfl,_,_,_,_,_,_,_,⟨rb,rest,m,rfl,hrm,b1,b2,_,q,_,rfl,rfl,⟨bq,rfl,rfl⟩,rfl⟩,h⟩,fun _ hk=>hk⟩
theorem Zt(hM:C.M.Ok)(hm:x.Ok C.M)(hr: ∀a,Bf (ld l a))(hn:x.next= .Dt .DN):Nl C d x l (x.Au C.M l).1 (x.Au C.M l).2:=by
 obtain⟨i,os,⟨k0,k1,k2,k3⟩,Af,Ar,AL,still,Bh,Ah,k,alloc,Bl,Ae,nx⟩:=x;obtain rfl:nx= .Dt .DN:=hn;have Ld: ∀v,C.M.CU v≥0:=fun v=>(Fg hM v).1
 have hB:=hM.CQ;have hle:=hm.le;have hl4:Ar.length≤4:=by simp only at hle;omega
 have hops:=hm.Aq;rintro ov rv bf H6 H7 nv RN ⟨rb,rest,m,rfl,hrm,b1,b2,tv,q,B,rfl,rfl,⟨bq,rfl,rfl⟩,rfl⟩;refine⟨179,[],[AX b1,AX b2],rfl,FG,?_⟩;refine Ci 22 Tryz.func179 Z (Ac (Ac (Ag CZ Ap) _) _) fun w0 D0=>Gu (Ac (Ag CZ Ap) _)<|T.Og (Ag CZ Ap) ?_
 have hbu:(⟨Bl,bf,Ar⟩:II).Ok C.M:=II.qF (hm.Dt _ rfl);refine AZ 7 [32,2] Z<|Ls Z FJ (Cv.FD (PS (m:=⟨Bl,bf,Ar⟩) hM hbu hr) Ap) (Ag CZ Ap) Aw<|AY 3 [] Z<|Ey 9 0 256 (by kernel_rfl)<|AP 5 [2,2] Z<|CB Z FL (Cv.FD Rj Ap) (Ag CZ Ap)<|AY 8 [] Z<|T.cond Z ?_ ?_
 ·intro hb0;have FR:(Bl.step C.M Ar l).2.1.length≤4:=by have h4:=(LH hM (hm.Dt _ rfl) hr).le;have h5:(((Bl.step C.M Ar l).2.1.length:Nat):Int)≤C.M.CQ:=h4;omega
  refine T.Jc (H':=[_,_,_,_,_]) (Ag Am Ap) (Wk.Az (Wk.BG qG (Wk.refl _)) _)<|AZ 2 [2,3] Z<|Tm (H2:=[_,_,_]) (is:=[0,1,4]) (by decide) Z Z Z Z bl Z (bg (x:=⟨i,os,⟨k0,k1,k2,k3⟩,Af,(Bl.step C.M Ar l).2.1,AL,still,Bh,Ah,k,alloc,(Bl.step C.M Ar l).1,(Bl.step C.M Ar l).1.Ae,.Dt .DN⟩) Ld hrm) Dj Aw<|X.nil<|T.BJ Z fun W D h=>?_
  rw[show(⟨i,os,⟨k0,k1,k2,k3⟩,Af,Ar,AL,still,Bh,Ah,k,alloc,Bl,Ae,.Dt .DN⟩:Mu).Au C.M l=_ from if_pos (of_decide_eq_true hb0)];exact⟨D,⟨rfl,rfl,h⟩,fun _ hk=>hk⟩
 intro hb0;refine T.skip<|T.BJ Z fun W D h=>?_
 rw[show(⟨i,os,⟨k0,k1,k2,k3⟩,Af,Ar,AL,still,Bh,Ah,k,alloc,Bl,Ae,.Dt .DN⟩:Mu).Au C.M l=_ from if_neg (of_decide_eq_false hb0)];exact⟨D,⟨rfl,rfl,_,_,_,_,_,_,_,⟨rb,rest,m,rfl,hrm,b1,b2,_,q,_,rfl,rfl,⟨bq,rfl,rfl⟩,rfl⟩,h⟩,fun _ hk=>hk⟩
theorem Wy(hM:C.M.Ok)(hm:x.Ok C.M)(hr: ∀a,Bf (ld l a))(hn:x.next= .Dt .FN):Nl C d x l (x.Au C.M l).1 (x.Au C.M l).2:=by
 obtain⟨i,os,⟨k0,k1,k2,k3⟩,Af,Ar,AL,still,Bh,Ah,k,alloc,Bl,Ae,nx⟩:=x;obtain rfl:nx= .Dt .FN:=hn;have Ld: ∀v,C.M.CU v≥0:=fun v=>(Fg hM v).1
 have hB:=hM.CQ;have hle:=hm.le;have hl4:Ar.length≤4:=by simp only at hle;omega
 have hops:=hm.Aq;rintro ov rv bf H6 H7 nv RN ⟨rb,rest,m,rfl,hrm,b1,b2,tv,q,B,rfl,rfl,⟨bq,rfl,rfl⟩,rfl⟩;refine⟨179,[],[AX b1,AX b2],rfl,FG,?_⟩;refine Ci 22 Tryz.func179 Z (Ac (Ac (Ag CZ Ap) _) _) fun w0 D0=>Gu (Ac (Ag CZ Ap) _)<|T.Og (Ag CZ Ap) ?_
 have hbu:(⟨Bl,bf,Ar⟩:II).Ok C.M:=II.qF (hm.Dt _ rfl);refine AZ 7 [32,2] Z<|Ls Z FJ (Cv.FD (PS (m:=⟨Bl,bf,Ar⟩) hM hbu hr) Ap) (Ag CZ Ap) Aw<|AY 3 [] Z<|Ey 9 0 256 (by kernel_rfl)<|AP 5 [2,2] Z<|CB Z FL (Cv.FD Rj Ap) (Ag CZ Ap)<|AY 8 [] Z<|T.cond Z ?_ ?_
 ·intro hb0;have FR:(Bl.step C.M Ar l).2.1.length≤4:=by have h4:=(LH hM (hm.Dt _ rfl) hr).le;have h5:(((Bl.step C.M Ar l).2.1.length:Nat):Int)≤C.M.CQ:=h4;omega
  refine T.Jc (H':=[_,_,_,_,_]) (Ag Am Ap) (Wk.Az (Wk.BG qG (Wk.refl _)) _)<|AZ 2 [2,3] Z<|Tm (H2:=[_,_,_]) (is:=[0,1,4]) (by decide) Z Z Z Z br Z (az (x:=⟨i,os,⟨k0,k1,k2,k3⟩,Af,(Bl.step C.M Ar l).2.1,AL,still,Bh,Ah,k,alloc,(Bl.step C.M Ar l).1,(Bl.step C.M Ar l).1.Ae,.Dt .FN⟩) hrm) Dj Aw<|X.nil<|T.BJ Z fun W D h=>?_
  rw[show(⟨i,os,⟨k0,k1,k2,k3⟩,Af,Ar,AL,still,Bh,Ah,k,alloc,Bl,Ae,.Dt .FN⟩:Mu).Au C.M l=_ from if_pos (of_decide_eq_true hb0)];exact⟨D,⟨rfl,rfl,h⟩,fun _ hk=>hk⟩
 intro hb0;refine T.skip<|T.BJ Z fun W D h=>?_
 rw[show(⟨i,os,⟨k0,k1,k2,k3⟩,Af,Ar,AL,still,Bh,Ah,k,alloc,Bl,Ae,.Dt .FN⟩:Mu).Au C.M l=_ from if_neg (of_decide_eq_false hb0)];exact⟨D,⟨rfl,rfl,_,_,_,_,_,_,_,⟨rb,rest,m,rfl,hrm,b1,b2,_,q,_,rfl,rfl,⟨bq,rfl,rfl⟩,rfl⟩,h⟩,fun _ hk=>hk⟩
theorem jU{w:Int}(h:Bf w):IntKind.i64.wrap w=if w<9223372036854775808 then w else w-18446744073709551616:=by
 rw[IntKind.wrap_i64];unfold Bf at h;split<;>omega
theorem FS{i:Int}{os:List I4}{op:I4}{Af Ar:List Int}{AL still Bh:Int}{k:Nat}{alloc:Hp}{Bl:Bu}{w:Int}{tn:Int}(h:tn=if w=Hm (3*Ah) then Ah else Bh):
  (⟨i,os,op,Af,Ar,AL,still,Bh,Ah,k,alloc,Bl,Ae,.Jq w⟩:Mu).Au M l=((⟨i,os,op,Af,Ar,AL,still,tn,Ah,k,alloc,Bl,⟨14,0,if w<9223372036854775808 then w else w-18446744073709551616,0,0⟩,.Jq w⟩:Mu).BX M,put l (M.O8 i) w):=by
 subst h;rfl
theorem wR(hM:C.M.Ok)(hm:x.Ok C.M)(hr: ∀a,Bf (ld l a)){w:Int}(hn:x.next= .Jq w):Nl C d x l (x.Au C.M l).1 (x.Au C.M l).2:=by
 obtain⟨i,os,⟨k0,k1,k2,k3⟩,Af,Ar,AL,still,Bh,Ah,k,alloc,Bl,Ae,nx⟩:=x;obtain rfl:nx= .Jq w:=hn;have Ld: ∀v,C.M.CU v≥0:=fun v=>(Fg hM v).1
 have hB:=hM.CQ;have hle:=hm.le;have hl4:Ar.length≤4:=by simp only at hle;omega
 have hops:=hm.Aq;rintro ov rv bf H6 H7 nv RN ⟨rb,rest,m,rfl,hrm,b1,b2,rfl,rfl⟩;refine⟨147,[],[AX b1,AX b2],rfl,Aa2,?_⟩;refine Ci 38 Tryz.func147 Z (Ac (Ac (Ag Am Ap) _) _) fun w0 D0=>Gu (Ac (Ag Am Ap) _)<|T.Og (Ag Am Ap)<|T.seq<|Ey 12 0 2048 (by kernel_rfl)<|AP 9 [2,0,2] Z<|CB Z lr (iM) (Ag Am Ap)<|JY Z M8 (.s (.s (.s .z))) Z<|Ls Z Q7 (Jw (Ag Am Ap) (hm.Jq _ Z)) (Ag Am Ap) Aw<|AY 3 [] Z<|Ey 7 0 0 (by kernel_rfl)<|AP 5 [3,2] Z<|BU Z (I9 _)<|AY 2 [] Z<|T.cond Z ?_ ?_
 ·intro hb0;have hw:w=Hm (3*Ah):=eq_of_beq hb0;refine Ey 8 0 128 (by kernel_rfl)<|AP 13 [2,2,0,0,64,2,3] Z<|Ic Z DY Eu (jU (hm.Jq _ Z))<|Fp Z LW Ih Z<|AP 6 [0,2,2] Z<|Tm (H2:=[_,_]) (is:=[0,1]) (by decide) Z Z Z Z tG Z (PX (x:=⟨i,os,⟨k0,k1,k2,k3⟩,Af,Ar,AL,still,Ah,Ah,k,alloc,Bl,⟨14,0,if w<9223372036854775808 then w else w-18446744073709551616,0,0⟩,.Jq w⟩) hops hrm) Dj Aw<|X.nil<|T.BJ Z fun W D h=>?_
  rw[FS (tn:=Ah) ((if_pos hw).symm)];exact⟨D,⟨rfl,rfl,h⟩,fun _ hk=>hk⟩
 intro hb0;have hw: ¬w=Hm (3*Ah):=ne_of_beq_false hb0;refine AZ 5 [64,2,3] Z<|Ic Z DY Eu (jU (hm.Jq _ Z))<|Fp Z LW Ih Z<|AP 6 [0,2,2] Z<|Tm (H2:=[_,_]) (is:=[0,1]) (by decide) Z Z Z Z tG Z (PX (x:=⟨i,os,⟨k0,k1,k2,k3⟩,Af,Ar,AL,still,Bh,Ah,k,alloc,Bl,⟨14,0,if w<9223372036854775808 then w else w-18446744073709551616,0,0⟩,.Jq w⟩) hops hrm) Dj Aw<|X.nil<|T.BJ Z fun W D h=>?_
 rw[FS (tn:=Bh) ((if_neg hw).symm)];exact⟨D,⟨rfl,rfl,h⟩,fun _ hk=>hk⟩
theorem mT{i:Int}{os:List I4}{op:I4}{rs Ar:List Int}{v AL still Bh:Int}{k:Nat}{alloc:Hp}{Bl:Bu}:
  (⟨i,os,op,rs++[v],Ar,AL,still,Bh,Ah,k,alloc,Bl,Ae,.Kq⟩:Mu).Au M l=(⟨i,os,op,rs,Ar,AL,still,Bh,Ah,k,alloc,Bl,⟨11,0,0,0,0⟩,.ES⟩,l):=by
 unfold Mu.Au Mu.Ja;simp only[bT]
theorem wS(hM:C.M.Ok)(hm:x.Ok C.M)(hr: ∀a,Bf (ld l a))(hn:x.next= .Kq):Nl C d x l (x.Au C.M l).1 (x.Au C.M l).2:=by
 obtain⟨i,os,⟨k0,k1,k2,k3⟩,Af,Ar,AL,still,Bh,Ah,k,alloc,Bl,Ae,nx⟩:=x;obtain rfl:nx= .Kq:=hn;have Ld: ∀v,C.M.CU v≥0:=fun v=>(Fg hM v).1
 have hB:=hM.CQ;have hle:=hm.le;have hl4:Ar.length≤4:=by simp only at hle;omega
 have hops:=hm.Aq;rintro ov rv bf H6 H7 nv RN ⟨rb,rest,m,rfl,hrm,rfl,rfl⟩;refine⟨96,[AX d],[],rfl,g96,?_⟩;refine Ci 21 Tryz.func96 Z (Ac (Ac (Ag Am Ap) _) _) fun w0 D0=>Gu (Ac (Ag Am Ap) _)<|T.Og (Ag Am Ap) ?_
 obtain⟨rs,v,rfl⟩: ∃rs v,Af=rs++[v]:=⟨_,_,(List.dropLast_concat_getLast (hm.Kq rfl)).symm⟩;have hrs:rs.length+1≤8:=by have:=hm.len;simpa using this
 have mS:rs.length+1+rest.length=m:=by simpa using hrm
 refine T.seq<|Ey 15 0 16384 (by kernel_rfl)<|AP 10 [] Z<|BU (c:=((rs.length:Nat):Int)) Z (by simp only[FC,List.length_append,List.length_singleton];rw[IntWalk.i64_in _ (by omega)];omega)<|kq (k:=rs.length) Z Z Z Z JV ⟨Int.natCast_nonneg _,by omega,rfl⟩<|AP 6 [0,4] Z<|Fp Z LW Ih Z<|Kt (H1:=[]) (H2:=_::_) (Ju:=_::_) Z xw Z (PW (Ag Am Ap)) (Ag Am Ap) Z Aw<|X.nil<|T.BJ Z fun W D h=>?_
 rw[mT];have h':Az [_,⟨rb,3,Dl (rs++[v])++rest⟩] _ D W:=h;rw[fC] at h';exact⟨D,⟨rfl,rfl,_,_,_,_,_,_,_,⟨rb,.int .i64 v::rest,m,rfl,by simp only[List.length_cons];omega,rfl,rfl⟩,h'⟩,fun _ hk=>hk⟩
theorem jV(hM:C.M.Ok)(hm:x.Ok C.M)(hr: ∀a,Bf (ld l a)){e:Int}(hn:x.next= .fail e):Nl C d x l (x.Au C.M l).1 (x.Au C.M l).2:=by
 obtain⟨i,os,⟨k0,k1,k2,k3⟩,Af,Ar,AL,still,Bh,Ah,k,alloc,Bl,Ae,nx⟩:=x;obtain rfl:nx= .fail e:=hn;have Ld: ∀v,C.M.CU v≥0:=fun v=>(Fg hM v).1
 have hB:=hM.CQ;have hle:=hm.le;have hl4:Ar.length≤4:=by simp only at hle;omega
 have hops:=hm.Aq;rintro ov rv bf H6 H7 nv RN ⟨rb,rest,m,rfl,hrm,b1,b2,rfl,rfl⟩;refine⟨92,[],[AX b1,AX b2],rfl,g92,?_⟩;refine Ci 7 Tryz.func92 Z (Ac (Ac (Ag Am Ap) _) _) fun w0 D0=>Gu (Ac (Ag Am Ap) _)<|T.Og (Ag Am Ap)<|AZ 3 [4,2,3] Z<|Kt (H1:=[]) (H2:=_::_) (Ju:=_::_) Z ll Z (SA (Ag Am Ap)) (Ag Am Ap) Z Aw<|X.nil<|T.BJ Z fun W D h=>?_
 rw[show(⟨i,os,⟨k0,k1,k2,k3⟩,Af,Ar,AL,still,Bh,Ah,k,alloc,Bl,Ae,.fail e⟩:Mu).Au C.M l=_ from rfl];obtain⟨D1,h1,h2⟩:=D6 [0,1] (by decide) h;exact⟨D1,⟨rfl,rfl,_,_,_,_,_,_,_,⟨rb,rest,m,rfl,hrm,rfl,rfl⟩,h1⟩,h2⟩
theorem jW(hM:C.M.Ok)(hm:x.Ok C.M)(hr: ∀a,Bf (ld l a))(hn:x.next= .EU):Nl C d x l (x.Au C.M l).1 (x.Au C.M l).2:=by
 obtain⟨i,os,⟨k0,k1,k2,k3⟩,Af,Ar,AL,still,Bh,Ah,k,alloc,Bl,Ae,nx⟩:=x;obtain rfl:nx= .EU:=hn;have Ld: ∀v,C.M.CU v≥0:=fun v=>(Fg hM v).1
 have hB:=hM.CQ;have hle:=hm.le;have hl4:Ar.length≤4:=by simp only at hle;omega
 have hops:=hm.Aq;rintro ov rv bf H6 H7 nv RN ⟨rb,rest,m,rfl,hrm,rfl,q,rfl,rfl⟩;refine⟨94,[AX d],[],rfl,g94,?_⟩;refine Ci 43 Tryz.func94 Z (Ac (Ac (Ag GG (Ag Am Ap)) _) _) fun w0 D0=>Gu (Ac (Ag GG (Ag Am Ap)) _)<|T.Og (Ag GG (Ag Am Ap)) ?_
 have hr8:Af.length<8:=(hm.EU rfl).2.1;have mS:Af.length+rest.length=m:=hrm;refine AZ 8 [32] Z<|Ls Z φ (Cv.FD (xk hM (hm.EU Z).1 hr) (Ag Am Ap)) (Ag GG (Ag Am Ap)) Aw<|QO Z Z Z<|X.nil<|T.cond Z ?_ ?_
 ·intro hb0;refine T.J6 Z fun W D h=>?_
  have hn: ¬(alloc.step C.M l).1.next= .nil:=by simpa using hb0
  rw[show(⟨i,os,⟨k0,k1,k2,k3⟩,Af,Ar,AL,still,Bh,Ah,k,alloc,Bl,Ae,.EU⟩:Mu).Au C.M l=_ from if_neg hn];exact⟨D,⟨rfl,rfl,_,_,_,_,_,_,_,⟨rb,rest,m,rfl,hrm,rfl,_,rfl,rfl⟩,h⟩,fun _ hk=>hk⟩
 intro hb0;have hn0:(alloc.step C.M l).1.next= .nil:=by simpa using hb0
 refine AZ 7 [] Z<|CB Z Aa0 (Cv.FD Rm (Ag Am Ap)) (Ag GG (Ag Am Ap))<|AY 12 [] Z<|T.cond Z ?_ ?_
 ·intro hb1;refine AZ 4 [4] Z<|Kt (H1:=[]) (H2:=_::_) (Ju:=_::_) Z ll Z (SA (Ag GG (Ag Am Ap))) (Ag GG (Ag Am Ap)) Z Aw<|X.nil<|T.J6 Z fun W D h=>?_
  rw[show(⟨i,os,⟨k0,k1,k2,k3⟩,Af,Ar,AL,still,Bh,Ah,k,alloc,Bl,Ae,.EU⟩:Mu).Au C.M l=_ from(if_pos hn0).trans (if_pos (yl hb1))];obtain⟨D1,h1,h2⟩:=Wk.Az Wk.right [_,_] D W h;exact⟨D1,⟨rfl,rfl,_,_,_,_,_,_,_,⟨rb,rest,m,rfl,hrm,rfl,rfl⟩,h1⟩,h2⟩
 intro hb1;refine AZ 9 [1216] Z<|Qc Z JV z3 (by decide) Z Z Z CE fun b0=>vY (Hr:=[_,_]) (cs:=Dl Af) (rest:=rest) (Ff:=[]) Z Z Z JV Z (Oi hrm).1 (Oi hrm).2 .z Z (by simp[BL]) ⟨by omega,(show Af.length+1≤1000000 by omega),by omega,by omega,(show Af.length≤m by omega)⟩ (Zk Af _) (show Af.length+1=(Af++[(alloc.step C.M l).1.node]).length by simp) JH fun q1 rs cm hcm=>AP 10 [2,64,2] Z<|CB Z Aa1 (Cv.FD E0 (Ag Am Ap)) (Ag GG (Ag Am Ap))<|Kt (H1:=[_,_]) (H2:=_::_) (Ju:=_::_) Z xw Z (PW (Ag GG (Ag Am Ap))) (Ag GG (Ag Am Ap)) Z Aw<|X.nil<|T.BJ Z fun W D h=>?_
 rw[show(⟨i,os,⟨k0,k1,k2,k3⟩,Af,Ar,AL,still,Bh,Ah,k,alloc,Bl,Ae,.EU⟩:Mu).Au C.M l=_ from(if_pos hn0).trans (if_neg (fun h=>h (yt hb1)))];obtain⟨D0,g1,g2⟩:=Wk.pick [2,0] (by decide) D W h;obtain⟨D1,h1,g3⟩:=Wk.Az Wk.right [_,_] D0 W g1;exact⟨D1,⟨rfl,rfl,_,_,_,_,_,_,_,⟨q1,rs,cm,rfl,by have:=hcm.2;rw[Jo,Nat.mul_one] at this;exact this,rfl,rfl⟩,h1⟩,fun k hk=>g2 k (g3 k hk)⟩
theorem mU(hM:C.M.Ok)(hm:x.Ok C.M)(hr: ∀a,Bf (ld l a)):Nl C d x l (x.Au C.M l).1 (x.Au C.M l).2:=by
 cases h:x.next with
 |ES=>exact jQ hM hm hr h
 |EU=>exact jW hM hm hr h
 |Kq=>exact wS hM hm hr h
 |fail e=>exact jV hM hm hr h
 |Jq w=>exact wR hM hm hr h
 |Dt t=>
  cases t with
  |BX=>exact Zr hM hm hr h
  |DZ=>exact jT hM hm hr h
  |F5=>exact Wx hM hm hr h
  |DN=>exact Zt hM hm hr h
  |FN=>exact Wy hM hm hr h
 |head=>exact jR hM hm hr h
 |NU=>exact wQ hM hm hr h
 |G5=>exact jS hM hm hr h
 |old=>exact wP hM hm hr h
 |Es=>exact Zq hM hm hr h
theorem yx:Ec 131 (aU)=true:=by kernel_rfl
theorem R4{m m':Mu}(hrun:Nl C d {m with Ae:=BH} l m' l'):Cv C 64 [AX d,AX C.s] l (J9 C d m) (.tuple #[]) l' (J9 C d m'):=by
 refine Ci 23 Tryz.func64 Z Dj fun w0 D0=>T.ex (fun _=>AQ fun _=>AQ fun _=>AQ fun _=>AQ fun _=>Bd IU) ?_
 intro ov;refine T.ex (fun _=>AQ fun _=>AQ fun _=>AQ fun _=>Bd IU) ?_;intro rv;refine T.ex (fun _=>AQ fun _=>AQ fun _=>Bd IU) ?_;intro bf;refine T.ex (fun _=>AQ fun _=>Bd IU) ?_;intro H6;refine T.ex (fun _=>Bd IU) ?_;intro H7;refine T.MX (H:=[]) IU ?_;intro nv RN hN hl;obtain⟨KZ,fs,cs,rfl,hg,hc⟩:=hrun ov rv bf H6 H7 nv RN hN;exact AZ 10 [] Z<|zF Z Z Z Z yx<|Hz Z<|AP 6 [16] Z<|Fp Z LW Ih Z<|AP 10 [0,32] Z<|RV (H1:=[]) (H2:=[_]) Z hg Z hc Dj Aw<|X.nil<|T.BJ Z fun W D h=>⟨D,⟨rfl,rfl,h⟩,fun _ hk=>hk⟩
theorem qM{m:Mu}:Cv C 286 [AX d] l (J9 C d m) (.agg m.Ae.cells.toArray) l (J9 C d m):=by
 refine Ci 10 Tryz.func286 Z Dj fun w0 D0=>T.ex (fun _=>AQ fun _=>AQ fun _=>AQ fun _=>AQ fun _=>Bd IU) ?_
 intro ov;refine T.ex (fun _=>AQ fun _=>AQ fun _=>AQ fun _=>Bd IU) ?_;intro rv;refine T.ex (fun _=>AQ fun _=>AQ fun _=>Bd IU) ?_;intro bf;refine T.ex (fun _=>AQ fun _=>Bd IU) ?_;intro H6;refine T.ex (fun _=>Bd IU) ?_;intro H7;refine T.MX (H:=[]) IU ?_;intro nv RN hN hl;refine AZ 2 [1] Z<|Hg Z Ih CE fun b0=>AY 17 [0,16,1] Z<|T.Io Z Z Xq .z Z fun W D h=>?_
 obtain⟨D1,h1,h2⟩:=A8 h;exact⟨D1,⟨rfl,rfl,ov,rv,bf,H6,H7,nv,RN,hN,h1⟩,h2⟩
theorem Mu.G9{m:Mu}(hm:m.Ok M):({m with Ae:=BH}:Mu).Ok M:=⟨hm.Af,hm.len,hm.Aq,hm.op,hm.NM,hm.Ar,hm.le,hm.lt,hm.k,hm.EU,hm.bQ,hm.NU,hm.hd,hm.wr,hm.Dt,hm.Kq,hm.Jq⟩
theorem zf{m:Mu}(hM:C.M.Ok)(hm:m.Ok C.M)(hr: ∀a,Bf (ld l a)):Cv C 64 [AX d,AX C.s] l (J9 C d m) (.tuple #[]) (m.step C.M l).2 (J9 C d (m.step C.M l).1):=
 R4 (mU hM (Mu.G9 hm) hr)
theorem Hp.Ha{s mk:Int}(hk:Bf mk):(Hp.new s mk).Ok:=by
 have z:Bf 0:=by unfold Bf;omega
 have z2:EW 0:=by unfold EW;omega
 refine⟨?_,hk,z,z2,z2,by simp[Hp.new],by simp[Hp.new],fun _=>by simp[Hp.new],fun h=>?_⟩
 ·simp only[Hp.new];by_cases hc:Bi s≥0
  ·left;unfold Bi at hc;split at hc
   ·omega
   split at hc
   ·omega
   split at hc
   ·omega
   split at hc
   ·omega
   split at hc
   ·omega
   split at hc<;>omega
  right;rw[if_neg hc]
 simp only[Hp.new] at h;split at h<;>cases h
theorem Hp.zg{m:Hp}(hm:m.Ok)(h:EW m.node):EW (m.step M l).1.node:=by
 unfold Hp.step Hp.Au;split
 ·exact h
 ·split<;>exact h
 ·exact h
 ·split
  ·exact h
  split<;>exact h
 ·exact h
 ·exact h
 ·exact h
 exact hm.v
structure Mu.Bk (M:Bz) (x:Mu):Prop where
 Af: ∀v∈x.Af,EW v
 len:x.Af.length≤8
 Aq: ∀o∈x.Aq,Np o
 op:Np x.op
 NM:Bf x.AL∧Bf x.still∧Bf x.Bh∧Bf x.Ah
 Ar: ∀t∈x.Ar,Bf t
 lt:(x.Ar.length:Int)<M.CQ
theorem Mu.Bk.ok(h:x.Bk M)(hn:x.next= .ES∨(∃e,x.next= .fail e)∨ ∃w,x.next= .Jq w∧Bf w):x.Ok M:=by
 have lt:=h.lt;rcases hn with h1|⟨_,h1⟩|⟨_,h1,h2⟩<;>refine⟨h.Af,h.len,h.Aq,h.op,h.NM,h.Ar,by omega,fun _=>h.lt,(fun e=>?_),(fun e=>?_),(fun e=>?_),(fun e=>?_),(fun e=>?_),(fun e=>?_),(fun t e=>?_),(fun e=>?_),(fun w e=>?_)⟩<;>rw[h1] at e<;>first|(cases e;done)|(rcases e with e|e|⟨e,-⟩<;>cases e)|(rcases e with e|⟨e,-⟩<;>cases e)|(cases e;exact h2)
theorem Mu.Bk.m6(h:x.Bk M)(hn:x.next= .Kq∨x.next= .NU∨x.next= .head∨x.next= .G5∨x.next= .old∨x.next= .Es)(bQ:x.next= .G5∨x.next= .NU∨x.next= .head∧x.op.kind=1→x.Af.length<8)(NU:x.next= .NU→x.op.a<x.Af.length)(hd:x.next= .head→x.op.kind=1∨x.op.kind=2)
  (wr:RE x.next=true∨x.next= .head∧x.op.kind=2→0≤x.root x.op.c) (Kq:x.next= .Kq→x.Af≠[]):x.Ok M:=by
 have lt:=h.lt;refine⟨h.Af,h.len,h.Aq,h.op,h.NM,h.Ar,by omega,fun _=>h.lt,(fun e=>?_),(fun e=>?_),bQ,NU,hd,wr,(fun t e=>?_),Kq,(fun w e=>?_)⟩<;>rcases hn with h1|h1|h1|h1|h1|h1<;>rw[h1] at e<;>cases e
theorem Mu.U9(hM:M.Ok)(h:x.Bk M):(x.BX M).Ok M:=by
 unfold Mu.BX;split
 ·exact Mu.Bk.ok ⟨h.Af,h.len,h.Aq,h.op,h.NM,h.Ar,h.lt⟩ (.inl rfl)
 rename_i o r ho;have hr: ∀o'∈r,Np o':=fun o' h'=>h.Aq o' (by rw[ho];simp[h'])
 have ho':=h.Aq o (by rw[ho];simp);have hq:=hM.Af;have hbk: ∀n,({x with op:=o,Aq:=r,next:=n}:Mu).Bk M:=fun n=>⟨h.Af,h.len,hr,ho',h.NM,h.Ar,h.lt⟩
 split
 ·exact(hbk _).ok (.inr (.inl ⟨_,rfl⟩))
 rename_i hmay;have hmay:Mu.Pv M {x with op:=o,Aq:=r}=0:=Classical.not_not.1 hmay;have hkk:=Mu.X1 hmay;split
 ·rename_i hk;rw[Mu.be (x:={x with op:=o,Aq:=r}) hk] at hmay;have yj:x.Af.length<8:=by
   split at hmay
   ·cases hmay
   simp only at*;omega
  have lt:=h.lt;exact⟨h.Af,h.len,hr,ho',h.NM,h.Ar,by simp only;omega,fun _=>h.lt,(fun e=>nomatch e),fun _=>⟨Hp.Ha h.NM.2.2.1,yj,by unfold EW;simp[Hp.new]⟩,(fun e=>by rcases e with e|e|⟨e,-⟩<;>cases e),(fun e=>nomatch e),(fun e=>nomatch e),(fun e=>by rcases e with e|⟨e,-⟩<;>cases e),(fun t e=>nomatch e),(fun e=>nomatch e),fun w e=>nomatch e⟩
 rename_i hk;rcases hkk with e|e|e|e|e
 ·exact absurd e hk
 ·have hf:Mu.first {x with op:=o,Aq:=r}= .head:=by unfold Mu.first;rw[if_neg hk,if_pos e]
  rw[hf];rw[Mu.RR e] at hmay;refine(hbk _).m6 (.inr (.inr (.inl rfl))) (fun _=>?_) (fun g=>nomatch g) (fun _=> .inl e) (fun g=>?_) (fun g=>nomatch g)
  ·split at hmay
   ·cases hmay
   split at hmay
   ·cases hmay
   simp only at*;omega
  rcases g with g|⟨-,g⟩
  ·cases g
  have g:o.kind=2:=g;have e:o.kind=1:=e;omega
 ·have e:o.kind=2:=e;have hf:Mu.first {x with op:=o,Aq:=r}= .head:=by unfold Mu.first;rw[if_neg hk,if_neg (by simp only;omega),if_pos e]
  rw[hf];rw[Mu.RT e] at hmay;refine(hbk _).m6 (.inr (.inr (.inl rfl))) (fun g=>?_) (fun g=>nomatch g) (fun _=> .inr e) (fun g=>?_) (fun g=>nomatch g)
  ·rcases g with g|g|⟨-,g⟩
   ·cases g
   ·cases g
   have g:o.kind=1:=g;omega
  split at hmay
  ·cases hmay
  rename_i hz;have hz: ¬(Mu.root {x with op:=o,Aq:=r} o.a<1∨Mu.root {x with op:=o,Aq:=r} o.c<0):=hz;show 0≤Mu.root {x with op:=o,Aq:=r} o.c;omega
 ·have e:o.kind=3:=e;have hf:Mu.first {x with op:=o,Aq:=r}= .Kq:=by unfold Mu.first;rw[if_neg hk,if_neg (by simp only;omega),if_neg (by simp only;omega),if_pos e]
  rw[hf];rw[Mu.bh e] at hmay;refine(hbk _).m6 (.inl rfl) (fun g=>by rcases g with g|g|⟨g,-⟩<;>cases g) (fun g=>nomatch g) (fun g=>nomatch g) (fun g=>by rcases g with g|⟨g,-⟩<;>cases g) (fun _=>?_);split at hmay
  ·cases hmay
  rename_i h0;exact fun e=>h0 (by simp only at e⊢;rw[e];rfl)
 have e:o.kind=4:=e;have hf:Mu.first {x with op:=o,Aq:=r}= .NU:=by unfold Mu.first;rw[if_neg hk,if_neg (by simp only;omega),if_neg (by simp only;omega),if_neg (by simp only;omega)]
 rw[hf];rw[Mu.RW e] at hmay;refine(hbk _).m6 (.inr (.inl rfl)) (fun _=>?_) (fun _=>?_) (fun g=>nomatch g) (fun g=>by rcases g with g|⟨g,-⟩<;>cases g) (fun g=>nomatch g)
 ·split at hmay
  ·cases hmay
  split at hmay
  ·cases hmay
  simp only at*;omega
 split at hmay
 ·cases hmay
 rename_i hz;have hz: ¬Mu.root {x with op:=o,Aq:=r} o.a<0:=hz;unfold Mu.root at hz;show o.a<(x.Af.length:Int);split at hz<;>simp only at* <;>omega
theorem II.wU{v c:Int}(hv:EW v)(hc:Bf c)(ht: ∀t∈ts,Bf t)(hl:(ts.length:Int)<M.CQ):(⟨.Bl v c,0,ts⟩:II).Ok M:=
 ⟨hv,Cl.Ha hc,Pk.Su,ht,by simp only;omega,fun _=>hl,fun h=>nomatch h⟩
theorem II.qN(hM:M.Ok)(h0:ts≠[])(ht: ∀t∈ts,Bf t)(hl:(ts.length:Int)<M.CQ):(⟨.Pq ts,0,ts⟩:II).Ok M:=by
 have hB:=hM.CQ;have z:Bf 0:=by unfold Bf;omega
 have z2:EW 0:=by unfold EW;omega
 have e:Bu.Pq ts=⟨0,.new 0 0,.put ts,BH,.F9⟩:=by unfold Bu.Pq;rw[if_neg h0]
 rw[e];exact⟨z2,Cl.Ha z,Pk.wB ht (by omega),ht,by simp only;omega,(fun h=>(h rfl).elim),fun _=>h0⟩
theorem Mu.LH(h:x.Bk M){t:yV}{b:Bu}(hb:(⟨b,0,x.Ar⟩:II).Ok M)(hw:RE (.Dt t)=true→0≤x.root x.op.c)(hk:t= .DZ→x.k≤x.Af.length):({x with Bl:=b,next:= .Dt t}:Mu).Ok M:=
 ⟨h.Af,h.len,h.Aq,h.op,h.NM,h.Ar,by have:=h.lt;simp only;omega,fun _=>h.lt,(fun e=>hk (by simpa using e)),(fun e=>nomatch e),(fun e=>by rcases e with e|e|⟨e,-⟩<;>cases e),(fun e=>nomatch e),(fun e=>nomatch e),(fun e=>by rcases e with e|⟨e,-⟩;exact hw e;cases e),fun _ _=>hb,(fun e=>nomatch e),fun w e=>nomatch e⟩
theorem Mu.Va(h:x.Bk M)(hw:0≤x.root x.op.c):({x with next:= .Es}:Mu).Ok M:=
 Mu.Bk.m6 (x:={x with next:= .Es}) ⟨h.Af,h.len,h.Aq,h.op,h.NM,h.Ar,h.lt⟩ (.inr (.inr (.inr (.inr (.inr rfl))))) (fun g=>by rcases g with g|g|⟨g,-⟩<;>cases g) (fun g=>nomatch g) (fun g=>nomatch g) (fun _=>hw) (fun g=>nomatch g)
theorem Mu.fF(h:x.Bk M)(hw:0≤x.root x.op.c):(x.DN M).Ok M:=by
 unfold Mu.DN;split
 ·exact Mu.Va h hw
 exact Mu.LH h (II.wU ⟨hw,Zp h.Af _⟩ h.NM.1 h.Ar h.lt) (fun _=>hw) (fun e=>nomatch e)
theorem Mu.bV(hM:M.Ok)(h:x.Bk M):(x.Iw).Ok M:=by
 unfold Mu.Iw;split
 ·exact Mu.Bk.ok ⟨h.Af,h.len,h.Aq,h.op,h.NM,h.Ar,h.lt⟩ (.inr (.inr ⟨_,rfl,JE _⟩))
 rename_i h0;exact Mu.LH h (II.qN hM h0 h.Ar h.lt) (fun g=>nomatch g) (fun e=>nomatch e)
theorem Mu.qO{M:Bz}(hM:M.Ok): ∀(n:Nat) {x:Mu} (h:x.Bk M) (hk:x.k+n≤x.Af.length),(x.QV M n).Ok M
 |0,x,h,_=>Mu.bV hM h
 |n+1,x,h,hk=>by
  unfold Mu.QV;have hk1:x.k+1≤x.Af.length:=by omega
  have h':({x with k:=x.k+1}:Mu).Bk M:=⟨h.Af,h.len,h.Aq,h.op,h.NM,h.Ar,h.lt⟩;split
  ·exact Mu.qO hM n h' (by simp only;omega)
  refine Mu.LH h' (II.wU ?_ h.NM.2.2.2 h.Ar h.lt) (fun g=>nomatch g) (fun _=>hk1);exact h.Af _ (Nh (by omega))
theorem Mu.bn(hM:M.Ok)(h:x.Bk M)(hk:x.k≤x.Af.length):(x.DZ M).Ok M:=Mu.qO hM _ h (by omega)
theorem Zu(hM:M.Ok){w:Int}(h:Bf w):EW (M.KC w):=by
 have:=hM.nodes;unfold Bf at h;unfold Bz.KC EW;split<;>omega
theorem Mu.Ef(hM:M.Ok)(hm:x.Ok M)(hr: ∀a,Bf (ld l a)):(x.step M l).1.Ok M:=by
 have hc:Bf (ld l 0/8):=by have:=hr 0;unfold Bf at*;omega
 have hbk:(∀t,x.next≠ .Dt t)→x.Bk M:=fun h=>⟨hm.Af,hm.len,hm.Aq,hm.op,hm.NM,hm.Ar,hm.lt h⟩
 unfold Mu.step Mu.Au;split
 ·rename_i hn;have hn':x.next= .Kq:=hn;have h:=hbk (by rw[hn'];exact fun t h=>nomatch h);have hd:x.Af.dropLast.length=x.Af.length-1:=List.length_dropLast;refine Mu.Bk.ok ⟨fun v hv=>h.Af v (List.dropLast_subset _ hv),?_,h.Aq,h.op,h.NM,h.Ar,h.lt⟩ (.inl rfl);have:=h.len;simp only[Mu.Ja];omega
 ·rename_i hn;have hn':x.next= .NU:=hn;have h:=hbk (by rw[hn'];exact fun t h=>nomatch h);have h8:=hm.bQ (.inr (.inl hn'));have hda:=hm.NU hn';have ho:=hm.op;refine Mu.Bk.ok ⟨fun v hv=>?_,?_,h.Aq,h.op,h.NM,h.Ar,h.lt⟩ (.inl rfl)
  ·rcases List.mem_append.1 hv with hv|hv
   ·exact h.Af v hv
   rw[List.mem_singleton.1 hv];exact h.Af _ (Nh (by have:=ho.2.1;simp only;omega))
  simp only[Mu.Ja,List.length_append,List.length_singleton];omega
 ·rename_i e hn;have hn':x.next= .fail e:=hn;have h:=hbk (by rw[hn'];exact fun t h=>nomatch h);exact Mu.Bk.ok ⟨h.Af,h.len,h.Aq,h.op,h.NM,h.Ar,h.lt⟩ (.inl rfl)
 ·rename_i hn;have hn':x.next= .EU:=hn;have h:=hbk (by rw[hn'];exact fun t h=>nomatch h);obtain⟨h1,h2,h3⟩:=hm.EU hn';have h4:=Hp.Ef hM (l:=l) h1 hr;have h5:=Hp.zg (M:=M) (l:=l) h1 h3;split
  ·split
   ·exact Mu.Bk.ok ⟨h.Af,h.len,h.Aq,h.op,h.NM,h.Ar,h.lt⟩ (.inl rfl)
   refine Mu.Bk.ok ⟨fun v hv=>?_,?_,h.Aq,h.op,h.NM,h.Ar,h.lt⟩ (.inl rfl)
   ·rcases List.mem_append.1 hv with hv|hv
    ·exact h.Af v hv
    rw[List.mem_singleton.1 hv];exact h5
   simp only[Mu.Ja,List.length_append,List.length_singleton];omega
  exact⟨h.Af,h.len,h.Aq,h.op,h.NM,h.Ar,hm.le,fun _=>h.lt,hm.k,fun _=>⟨h4,h2,h5⟩,hm.bQ,hm.NU,hm.hd,hm.wr,hm.Dt,hm.Kq,hm.Jq⟩
 ·rename_i hn;have hn':x.next= .head:=hn;have h:=hbk (by rw[hn'];exact fun t h=>nomatch h);split
  ·exact Mu.Bk.ok ⟨h.Af,h.len,h.Aq,h.op,h.NM,h.Ar,h.lt⟩ (.inl rfl)
  by_cases hk:x.op.kind=2
  ·refine Mu.Bk.m6 ⟨h.Af,h.len,h.Aq,h.op,h.NM,h.Ar,h.lt⟩ ?_ ?_ ?_ ?_ (fun _=>hm.wr (.inr ⟨hn',hk⟩)) ?_<;>simp[hk]
  have h8:=hm.bQ (.inr (.inr ⟨hn',(hm.hd hn').resolve_right hk⟩));refine Mu.Bk.m6 ⟨h.Af,h.len,h.Aq,h.op,h.NM,h.Ar,h.lt⟩ ?_ (fun _=>h8) ?_ ?_ ?_ ?_<;>simp[hk,RE]
 ·rename_i hn;have hn':x.next= .G5:=hn;have h:=hbk (by rw[hn'];exact fun t h=>nomatch h);have h8:=hm.bQ (.inl hn');refine Mu.Bk.ok ⟨fun v hv=>?_,?_,h.Aq,h.op,h.NM,h.Ar,h.lt⟩ (.inl rfl)
  ·rcases List.mem_append.1 hv with hv|hv
   ·exact h.Af v hv
   rw[List.mem_singleton.1 hv];exact Zu hM (hr _)
  simp only[Mu.Ja,List.length_append,List.length_singleton];omega
 ·rename_i hn;have hn':x.next= .old:=hn;have h:=hbk (by rw[hn'];exact fun t h=>nomatch h);have hw:0≤x.root x.op.c:=hm.wr (.inl (by rw[hn'];rfl));have h':({x with Ae:=BH}:Mu).Bk M:=⟨h.Af,h.len,h.Aq,h.op,h.NM,h.Ar,h.lt⟩;split
  ·exact Mu.fF h' hw
  exact Mu.LH h' (II.wU (Zu hM (hr _)) h.NM.1 h.Ar h.lt) (fun _=>hw) (fun e=>nomatch e)
 ·rename_i hn;have hn':x.next= .Es:=hn;have h:=hbk (by rw[hn'];exact fun t h=>nomatch h);exact Mu.Bk.ok ⟨h.Af,h.len,h.Aq,h.op,h.NM,h.Ar,h.lt⟩ (.inl rfl)
 ·rename_i t hn;have hn':x.next= .Dt t:=hn;have h1:=hm.Dt t hn';have h2:=II.Ef hM h1 hr;have hts: ∀t∈(x.Bl.step M x.Ar l).2.1,Bf t:=h2.ts;split
  ·rename_i hnil;have hlt:((x.Bl.step M x.Ar l).2.1.length:Int)<M.CQ:=h2.lt (by
    show(x.Bl.step M x.Ar l).1.next≠ .F9;rw[show(x.Bl.step M x.Ar l).1.next= .nil from hnil];exact fun h=>nomatch h)
   have hb:({x with Bl:=(x.Bl.step M x.Ar l).1,Ar:=(x.Bl.step M x.Ar l).2.1,Ae:=(x.Bl.step M x.Ar l).1.Ae}:Mu).Bk M:=⟨hm.Af,hm.len,hm.Aq,hm.op,hm.NM,hts,hlt⟩;cases t with
   |BX=>exact Mu.U9 hM hb
   |DZ=>exact Mu.bn hM hb (hm.k hn')
   |F5=>exact Mu.Bk.ok ⟨hm.Af,hm.len,hm.Aq,hm.op,hm.NM,hts,hlt⟩ (.inr (.inr ⟨_,rfl,JE _⟩))
   |DN=>exact Mu.fF hb (hm.wr (.inl (by rw[hn'];rfl)))
   |FN=>exact Mu.Va hb (hm.wr (.inl (by rw[hn'];rfl)))
  have h3:((x.Bl.step M x.Ar l).2.1.length:Int)≤M.CQ:=h2.le;exact⟨hm.Af,hm.len,hm.Aq,hm.op,hm.NM,hts,h3,fun h=>(h t hn').elim,hm.k,(fun e=>by have e':x.next=_:=e;rw[hn'] at e';cases e'),hm.bQ,hm.NU,hm.hd,hm.wr,fun _ _=>h2,hm.Kq,hm.Jq⟩
 ·rename_i hn;have hn':x.next= .ES:=hn;have h:=hbk (by rw[hn'];exact fun t h=>nomatch h);split
  ·exact Mu.Bk.ok ⟨h.Af,h.len,h.Aq,h.op,⟨hc,h.NM.2.1,h.NM.2.2.1,hc⟩,h.Ar,h.lt⟩ (.inr (.inr ⟨_,rfl,JE _⟩))
  split
  ·exact Mu.Bk.ok ⟨h.Af,h.len,h.Aq,h.op,⟨h.NM.1,hc,h.NM.2.2.1,hc⟩,h.Ar,h.lt⟩ (.inr (.inr ⟨_,rfl,JE _⟩))
  split
  ·exact Mu.bn hM ⟨h.Af,h.len,h.Aq,h.op,⟨h.NM.1,h.NM.2.1,h.NM.2.2.1,hc⟩,h.Ar,h.lt⟩ (Nat.zero_le _)
  split
  ·exact Mu.U9 hM ⟨h.Af,h.len,h.Aq,h.op,⟨h.NM.1,h.NM.2.1,h.NM.2.2.1,hc⟩,h.Ar,h.lt⟩
  rename_i h0;exact Mu.LH (x:={x with Ae:=BH,Ah:=ld l 0/8}) ⟨h.Af,h.len,h.Aq,h.op,⟨h.NM.1,h.NM.2.1,h.NM.2.2.1,hc⟩,h.Ar,h.lt⟩ (II.qN hM h0 h.Ar h.lt) (fun g=>nomatch g) (fun e=>nomatch e)
 rename_i w hn;have hn':x.next= .Jq w:=hn;have h:=hbk (by rw[hn'];exact fun t h=>nomatch h);refine Mu.U9 hM ⟨h.Af,h.len,h.Aq,h.op,⟨h.NM.1,h.NM.2.1,?_,h.NM.2.2.2⟩,h.Ar,h.lt⟩;simp only;split
 ·exact h.NM.2.2.2
 exact h.NM.2.2.1
theorem Mu.D8(hm:x.Ok M)(hr:Nc l):Nc (x.step M l).2:=by
 unfold Mu.step Mu.Au;split
 ·exact hr
 ·exact hr
 ·exact hr
 ·rename_i hn;have h1:=Hp.D8 (M:=M) (hm.EU hn).1 hr;split
  ·split<;>exact h1
  exact h1
 ·split<;>exact hr
 ·exact hr
 ·split<;>exact hr
 ·rename_i hn;have hn':x.next= .Es:=hn;exact hr.put ⟨hm.wr (.inl (by rw[hn'];rfl)),Int.le_trans (Zp hm.Af _) (by decide)⟩
 ·rename_i t hn;have h1:=II.D8 (hm.Dt t hn) hr;split<;>exact h1
 ·split
  ·exact hr
  split
  ·exact hr
  split
  ·exact hr
  split<;>exact hr
 rename_i w hn;exact hr.put (hm.Jq w hn)
theorem bz{len:Nat}(h:Y5 t et len=true):Tryz.prog.underlying t=some (.array len et):=by
 unfold Y5 at h;split at h
 ·rename_i n e hu;simp only[Bool.and_eq_true,beq_iff_eq] at h;rw[hu,h.1,h.2]
 cases h
theorem wV{len:Nat}(ht:Y5 t et len=true)(h1:one et=true)(hz:LU t=some zs)(hok:JG (Md 1 len 0) zs.length pv=true)(w:World):
  (Instr.build t pv.toArray).run Tryz.prog w= .ok (.agg (Oa (Md 1 len 0) zs pv).toArray) w:=by
 have hu:=bz ht;obtain⟨inf,z,hi,hz1,hc⟩:=vW hz;have hu':(underlying t).run Tryz.prog w= .ok (.array len et) w:=by unfold underlying;simp[go_sem,hu]
 have hzc:(zeroValue t).run Tryz.prog w= .ok z w:=by unfold zeroValue typeInfo;simp[go_sem,hi,hz1]
 have hsz:=(Jg h1 w).2;have hf:=V8 (O9:=Md 1 len 0) (place:=fun i=>some (i*1,1)) (fun i x hx=>by rw[Y2 hx,Nat.zero_add]) pv zs hok;have hcz:z.cells=zs.toArray:=by rw[←hc]
 unfold Instr.build;simp only[Sem.run_bind,hu',Result.andThen_ok,hsz,hzc,hcz,hf,Sem.run_pure]
theorem R5{len off:Nat}{i:Int}(ht:Y5 t et len=true)(h1:one et=true)(h0:0≤i∧i<len)(w:World):
  (Instr.indexAt t (.pointer (some ⟨b,off,none⟩)) (.int k i)).run Tryz.prog w= .ok (.pointer (some ⟨b,off+i.toNat,none⟩)) w:=by
 have hu:=bz ht;have hu':(underlying t).run Tryz.prog w= .ok (.array len et) w:=by unfold underlying;simp[go_sem,hu]
 have hsz:=(Jg h1 w).2;have ha:(asIntOf (.int k i)).run Tryz.prog w= .ok (k,i) w:=by simp[asIntOf,go_sem]
 have hs:(Instr.sureAddr (.pointer (some ⟨b,off,none⟩))).run Tryz.prog w= .ok ⟨b,off,none⟩ w:=by simp[Instr.sureAddr,go_sem]
 unfold Instr.indexAt;simp only[Sem.run_bind,ha,Result.andThen_ok,hu',hs,Sem.run_pure,h0,and_self,if_true,hsz,Nat.mul_one,IM]
section
variable{R:BB}
variable{lo:Nat→Bool}{d:Option Nat}{gd:Option (Nat×Bool)}{x:Operand}
theorem cb{len:Nat}(ho:Aq[i]?=some ⟨d,.build t parts,ty,ps,af,gd⟩)(Dy:(ef i,BA Aq ⟨d,.build t parts,ty,ps,af,gd⟩ e)=(false,true))(hp:oG e parts.toList=some pv)(ht:Y5 t et len=true)(h1:one et=true)(hz:LU t=some zs)(hok:JG (Md 1 len 0) zs.length pv=true)
  (h:X Tryz.prog Aq lo ef K rr S (bif lo i then(i,.agg (Oa (Md 1 len 0) zs pv).toArray)::U else U) (Dz d (.agg (Oa (Md 1 len 0) zs pv).toArray) e)):X Tryz.prog Aq lo ef K (i::rr) S U e:=have⟨hef,hw⟩:=Fb Dy;
 FB ho hef hw (fun w _=>by
  have h2:(parts.map fun(p:Nat×Operand)=>(p.1,ev e p.2))=pv.toArray:=by
   cases parts with
   |mk l=>
    rw[←RU hp];simp
  refine N8 (m:=Instr.build t (parts.map fun(p:Nat×Operand)=>(p.1,ev e p.2))) rfl ?_;rw[h2];exact wV ht h1 hz hok w) h
theorem OU{len off:Nat}{j:Int}(G7:(Aq[i]?,(ef i,BA Aq ⟨d,.indexAddr t x y,ty,ps,af,gd⟩ e),EF e x,EF e y)=(some ⟨d,.indexAddr t x y,ty,ps,af,gd⟩,(false,true),some (.pointer (some ⟨b,off,none⟩)),some (.int k j)))(ht:Y5 t et len=true)(h1:one et=true)(h0:0≤j∧j<len)
  (h:X Tryz.prog Aq lo ef K rr S (bif lo i then(i,.pointer (some ⟨b,off+j.toNat,none⟩))::U else U) (Dz d (.pointer (some ⟨b,off+j.toNat,none⟩)) e)):X Tryz.prog Aq lo ef K (i::rr) S U e:=have⟨ho,Dy,hx,hy⟩:=MR G7;have⟨hef,hw⟩:=Fb Dy;
 FB ho hef hw (fun w _=>N8 (m:=Instr.indexAt t (ev e x) (ev e y)) rfl (by rw[CY hx,CY hy];exact R5 ht h1 h0 w)) h
end
theorem zh: ∀{H1:List Bk} {b:Nat} {cs:List Value} {H2:List Bk},In b cs H2→In b cs (H1++H2)
 |[],_,_,_,h=>h
 |_::_,_,_,_,h=> .s (zh h)
theorem Wk.front(H B:List Bk)(R:BB):Wk (Mo.Az (H++B) R) (Mo.Az H R):=by
 rw[J5];exact Wk.Az (Wk.drop B R) H
def De.cs(C:Cx)(x:De):List Value:=[AX C.m,.int .i64 x.Be,.int .u64 x.Ah,.int .i64 x.Bg,.int .i64 x.Ae.kind,.int .i64 x.Ae.Di,.int .i64 x.Ae.a,.int .i64 x.Ae.b,.int .i64 x.Ae.c]
def IY(C:Cx)(d:Nat)(x:De):BB:=Az [⟨d,117,x.cs C⟩] Cj
theorem BZ{x:De}:CV (IY C d x):=Ac Aa _
structure De.Ok (M:Bz) (x:De):Prop where
 Be:x.Be<14
 Ah:Bf x.Ah
 Bg:0≤x.Bg∧x.Bg≤4
 lt:x.Be=1∨x.Be=3∨x.Be=5→x.Bg<M.Ak
theorem F1{R:BB}(hl:CV R){x:Int}(hx:0≤x∧x≤18446744073709551615):Cv C 102 [.int .u64 x,.int .i64 3] l R (.tuple #[.int .u64 (x/8),.int .u64 (x % 8)]) l R:=Cv.vI hl fun w _=>Xn w x hx
theorem F3{a:Int}(w:World):(binOp .shl t (.int .u64 a) (.int .u64 3)).run Tryz.prog w= .ok (.int .u64 (Hm (a*8))) w:=by
 have:IntKind.u64.wrap (a*8)=Hm (a*8):=IntKind.wrap_u64 _;rw[←this];simp[binOp,go_sem]
theorem m7{a b c:Int}(h:bits .or .u64 a b=c)(w:World):(binOp .or t (.int .u64 a) (.int .u64 b)).run Tryz.prog w= .ok (.int .u64 c) w:=by
 subst h;simp[binOp,go_sem]
theorem Pg{x:Operand}{a b:Int}{j:IntKind}(w:World):(eqGuard op t x y (.int j a) (.int k b)).run Tryz.prog w= .ok () w:=by
 cases op<;>rfl
theorem zi{a:Nat}(w:World):(binOp .rem t (.int .i64 ((a:Nat):Int)) (.int .i64 14)).run Tryz.prog w= .ok (.int .i64 ((a % 14:Nat):Int)) w:=by
 have h:((a:Nat):Int).tmod 14=((a % 14:Nat):Int):=by rw[Int.tmod_eq_emod_of_nonneg (by omega)];omega
 rw[←h];exact OA (by decide) w
theorem F4{a:Int}(w:World):(binOp .rem t (.int .i64 a) (.int .i64 2)).run Tryz.prog w= .ok (.int .i64 (a.tmod 2)) w:=OA (by decide) w
theorem X2{a:Int}:(a.tmod 2==0)=decide (a % 2=0):=by
 have h1:=Int.emod_two_eq a;have h2:=Int.tmod_two_eq a;have h3:=Int.mul_tdiv_add_tmod a 2;by_cases h:a % 2=0
 ·rw[decide_eq_true h,beq_iff_eq];omega
 rw[decide_eq_false h,beq_eq_false_iff_ne];omega
theorem De.X9{x:De}:x.KD M least l=({x with Bg:=(x.KD M least l).1.Bg,Be:=(x.KD M least l).1.Be},l):=by
 unfold De.KD;split
 ·rfl
 split<;>rfl
def wW(d:Nat)(q:Nat→Nat):List Bk:=
 [⟨q 0,75,[AX d]⟩,⟨q 1,3,[.int .i64 2]⟩,⟨q 2,75,[AX d]⟩,⟨q 3,3,[.int .i64 3]⟩,⟨q 4,75,[AX d]⟩,⟨q 5,3,[.int .i64 4]⟩,⟨q 6,75,[AX d]⟩,⟨q 7,3,[.int .i64 8]⟩,⟨q 8,75,[AX d]⟩,⟨q 9,3,[.int .i64 9]⟩,⟨q 10,75,[AX d]⟩,⟨q 11,3,[.int .i64 5]⟩,⟨q 12,75,[AX d]⟩,⟨q 13,3,[.int .i64 0]⟩]
abbrev jX(f a b:Nat):Value:= .func (.func f) #[] #[AX a,AX b]
def DeV(d:Nat)(q:Nat→Nat):List Value:=
 [fm 125 d,fm 126 d,jX 162 (q 0) (q 1),fm 128 d,jX 162 (q 2) (q 3),fm 129 d,jX 162 (q 4) (q 5),jX 164 (q 6) (q 7),jX 164 (q 8) (q 9),fm 131 d,fm 132 d,jX 162 (q 10) (q 11),fm 133 d,jX 162 (q 12) (q 13)]
theorem Ub:Y5 172 171 14=true:=by kernel_rfl
theorem cd:Pm 24 2 6=true:=by kernel_rfl
theorem Aa3:Cm 102=true:=by kernel_rfl
theorem zk:Cm 127=true:=by kernel_rfl
theorem cg:Cm 130=true:=by kernel_rfl
theorem m8:Cm 161=true:=by kernel_rfl
theorem zl:Cm 162=true:=by kernel_rfl
theorem Aa4:Cm 163=true:=by kernel_rfl
theorem Aa5:Bq 172 14=true:=by kernel_rfl
theorem Uc:one 171=true:=by kernel_rfl
theorem m9:one 75=true:=by kernel_rfl
theorem ci:aX 24 2 3=true:=by kernel_rfl
theorem jY:Ec 177 (Qp .u64)=true:=by kernel_rfl
theorem Tn:LU 172=some [.nilFunc,.nilFunc,.nilFunc,.nilFunc,.nilFunc,.nilFunc,.nilFunc,.nilFunc,.nilFunc,.nilFunc,.nilFunc,.nilFunc,.nilFunc,.nilFunc]:=by kernel_rfl
theorem Zv{c p:Int}(hp:0≤p∧p≤7):0≤EZ c p∧EZ c p≤18446744073709551615:=by unfold EZ Hm;omega
theorem cj{x:De}(h:ld l (M.O8 x.Bg)<least):x.KD M least l=(x,l):=if_pos h
theorem cq{x:De}(h: ¬ld l (M.O8 x.Bg)<least)(h2:x.Bg+1<M.Ak):x.KD M least l=({x with Bg:=x.Bg+1},l):=(if_neg h).trans (if_pos h2)
theorem cw{x:De}(h: ¬ld l (M.O8 x.Bg)<least)(h2: ¬x.Bg+1<M.Ak):x.KD M least l=({x with Bg:=x.Bg+1,Be:=x.Be+1},l):=(if_neg h).trans (if_neg h2)
theorem wX{c p:Int}(hp:0≤p∧p≤7):Cv C 163 [.int .u64 c,.int .i64 p] l Cj (.int .u64 (EZ c p)) l Cj:=by
 have h3:bits .or .u64 (Hm (c*8)) (p % 8)=EZ c p:=by
  rw[show p % 8=p by omega];exact or3 (Hm (c*8)) p (JE _) (by unfold Hm;omega) hp
 exact Ci 17 Tryz.func163 Z Aa fun w0 D0=>AZ 7 [] Z<|Ic Z jY Ej (IntWalk.u64_in p (by omega))<|CB Z Aa3 (F1 Aa (by omega)) Aa<|AP 9 [] Z<|Le Z Pg F3<|NC Z<|Le Z Pg (m7 (c:=EZ c p) h3)<|AY 2 [] Z<|T.BC Z fun W D h=>⟨D,⟨rfl,rfl,h⟩,fun _ hk=>hk⟩
theorem MC{p:Int}:Cc C 127 [AX d,.int .i64 p] l (fun a b=>jX 162 a b) (fun a b=>[⟨a,75,[AX d]⟩,⟨b,3,[.int .i64 p]⟩]):=by
 refine Ci 6 Tryz.func127 Z Aa fun w0 D0=>AZ 2 [3] Z<|F7 Z CE fun b0=>F7 Z CE fun b1=>AY 7 [] Z<|T.BC Z fun W D h=>?_
 obtain⟨D1,h1,h2⟩:=D6 [1,0] (by decide) h;exact⟨D1,⟨b0,b1,rfl,rfl,h1⟩,h2⟩
theorem Xw{p:Int}:Cc C 130 [AX d,.int .i64 p] l (fun a b=>jX 164 a b) (fun a b=>[⟨a,75,[AX d]⟩,⟨b,3,[.int .i64 p]⟩]):=by
 refine Ci 6 Tryz.func130 Z Aa fun w0 D0=>AZ 2 [3] Z<|F7 Z CE fun b0=>F7 Z CE fun b1=>AY 7 [] Z<|T.BC Z fun W D h=>?_
 obtain⟨D1,h1,h2⟩:=D6 [1,0] (by decide) h;exact⟨D1,⟨b0,b1,rfl,rfl,h1⟩,h2⟩
theorem SE{x:De}{R:BB}{a:Nat}{ph:Int}(hl:CV R)(hA:In a [AX d] Hx)(hB:In b [.int .i64 ph] Hx)(hp:0≤ph∧ph≤7)(hd:x.Be<14)(hc:Bf x.Ah):Cv C 162 [AX C.s,.int .i64 dr,AX a,AX b] l (Az (⟨d,117,x.cs C⟩::Hx) R) (.int .i64 (((x.Be+1) % 14:Nat):Int)) (put l 0 (EZ x.Ah ph)) (Az (⟨d,117,({x with Bg:=0,Ae:=⟨7,0,ph,if x.Ah<9223372036854775808 then x.Ah else x.Ah-18446744073709551616,0⟩}:De).cs C⟩::Hx) R):=by
 obtain⟨Be,Ah,Bg,Ae⟩:=x;simp only at hd hc;exact Ci 39 Tryz.func162 Z (Ac hl _) fun w0 D0=>VY hl<|CW 5 [] Z<|Ey 13 0 4096 (by kernel_rfl)<|NC Z<|JY Z m9 (.s hA) Z<|AP 3 [] Z<|CB Z li (UM) hl<|JY Z m9 (.s hA) Z<|AP 3 [] Z<|JY Z o3 (.s hB) Z<|CB Z Aa4 (Cv.frame hl (wX hp)) hl<|Ls Z Q7 (Jw hl (Zv hp)) hl Aw<|AY 2 [] Z<|Ey 11 0 1024 (by kernel_rfl)<|JY Z m9 (.s hA) Z<|JY Z o3 (.s hB) Z<|JY Z m9 (.s hA) Z<|AP 3 [] Z<|Ic Z DY Eu (jU hc)<|Fp Z LW Ih Z<|AP 6 [0,8] Z<|JY Z m9 (.s hA) Z<|AP 6 [] Z<|JY Z m9 (.s hA) Z<|AP 3 [] Z<|BU (c:=((Be+1:Nat):Int)) Z (by simp only[FC];rw[IntWalk.i64_in _ (by omega)];omega)<|Le Z Pg zi<|AY 2 [] Z<|T.BC Z fun W D h=>⟨D,⟨rfl,rfl,h⟩,fun _ hk=>hk⟩
theorem qP{x:De}{R:BB}{a dC:Nat}(hl:CV R)(hA:In a [AX d] Hx)(hB:In b [.int .i64 ((dC:Nat):Int)] Hx):Cv C 164 [AX C.s,.int .i64 dr,AX a,AX b] l (Az (⟨d,117,x.cs C⟩::Hx) R) (.int .i64 (((x.count dC l).1.Be:Nat):Int)) l (Az (⟨d,117,x.cs C⟩::Hx) R):=by
 refine Ci 16 Tryz.func164 Z (Ac hl _) fun w0 D0=>VY hl<|AZ 8 [] Z<|JY Z m9 (.s hA) Z<|AP 3 [] Z<|CB Z CN (UN) hl<|CB Z UT (EH hl) hl<|AY 2 [] Z<|T.cond Z ?_ ?_
 ·intro hb0;refine CW 4 [] Z<|T.BC Z fun W D h=>?_
  rw[show(De.count _ dC l).1.Be=_ from if_pos (yl hb0)];exact⟨D,⟨rfl,rfl,h⟩,fun _ hk=>hk⟩
 intro hb0;refine AZ 3 [] Z<|JY Z o3 (.s hB) Z<|AY 2 [] Z<|T.BC Z fun W D h=>?_
 rw[show(De.count _ dC l).1.Be=_ from if_neg (fun h=>h (yt hb0))];exact⟨D,⟨rfl,rfl,h⟩,fun _ hk=>hk⟩
theorem jZ{x:De}{R:BB}{dr:Int}(hl:CV R)(ht:0≤x.Bg∧x.Bg≤4)(hd:x.Be<14):Cv C 161 [AX d,AX C.s,.int .u64 least] l (Az (⟨d,117,x.cs C⟩::Hx) R) (.int .i64 (((x.KD C.M least l).1.Be:Nat):Int)) l (Az (⟨d,117,({x with Bg:=(x.KD C.M least l).1.Bg}:De).cs C⟩::Hx) R):=by
 obtain⟨Be,Ah,Bg,Ae⟩:=x;simp only at ht hd;refine Ci 51 Tryz.func161 Z (Ac hl _) fun w0 D0=>VY hl<|CW 6 [] Z<|Ey 13 0 0 (by kernel_rfl)<|AP 9 [] Z<|CB Z lr (iM) hl<|CB Z UT (EH hl) hl<|AY 3 [] Z<|T.cond Z ?_ ?_
 ·intro hb0;refine CW 8 [] Z<|T.BC Z fun W D h=>?_
  rw[cj (of_decide_eq_true hb0)];exact⟨D,⟨rfl,rfl,h⟩,fun _ hk=>hk⟩
 intro hb0;refine AZ 7 [128] Z<|BU (c:=Bg+1) Z (EG (show -9223372036854775808≤Bg+1∧Bg+1≤9223372036854775807 by omega))<|AY 6 [] Z<|Ey 11 0 0 (by kernel_rfl)<|AP 8 [] Z<|CB Z V3 (GN hl) hl<|Bp Z Z Z cd ci o3 Z<|AY 2 [] Z<|T.cond Z ?_ ?_
 ·intro hb1;refine CW 8 [] Z<|T.BC Z fun W D h=>?_
  rw[cq (of_decide_eq_false hb0) (of_decide_eq_true hb1)];exact⟨D,⟨rfl,rfl,h⟩,fun _ hk=>hk⟩
 intro hb1;refine AZ 7 [] Z<|BU (c:=((Be+1:Nat):Int)) Z (by simp only[FC];rw[IntWalk.i64_in _ (by omega)];omega)<|AY 2 [] Z<|T.BC Z fun W D h=>?_
 rw[cw (of_decide_eq_false hb0) (of_decide_eq_false hb1)];exact⟨D,⟨rfl,rfl,h⟩,fun _ hk=>hk⟩
theorem nE{x:De}{R:BB}(hl:CV R)(ht:0≤x.Bg∧x.Bg≤4)(hd:x.Be<14):Cv C 126 [AX d,AX C.s,.int .i64 dr] l (Az (⟨d,117,x.cs C⟩::Hx) R) (.int .i64 (((x.KD C.M (Hm (3*x.Ah-2)) l).1.Be:Nat):Int)) l (Az (⟨d,117,({x with Bg:=(x.KD C.M (Hm (3*x.Ah-2)) l).1.Bg}:De).cs C⟩::Hx) R):=by
 obtain⟨Be,Ah,Bg,Ae⟩:=x;simp only at ht hd;exact Ci 16 Tryz.func126 Z (Ac hl _) fun w0 D0=>VY hl<|AZ 12 [0,256] Z<|BU Z (I9 _)<|BU (c:=Hm (3*Ah-2)) Z (lj (by omega))<|Kt (H1:=[]) (H2:=_::_) (Ju:=_::_) Z m8 Z (jZ (dr:=dr) (x:=⟨Be,Ah,Bg,Ae⟩) hl ht hd) hl Z Aw<|AY 2 [] Z<|T.BC Z fun W D h=>⟨D,⟨rfl,rfl,h⟩,fun _ hk=>hk⟩
theorem zo{x:De}{R:BB}(hl:CV R)(ht:0≤x.Bg∧x.Bg≤4)(hd:x.Be<14):Cv C 128 [AX d,AX C.s,.int .i64 dr] l (Az (⟨d,117,x.cs C⟩::Hx) R) (.int .i64 (((x.KD C.M (Hm (3*x.Ah-1)) l).1.Be:Nat):Int)) l (Az (⟨d,117,({x with Bg:=(x.KD C.M (Hm (3*x.Ah-1)) l).1.Bg}:De).cs C⟩::Hx) R):=by
 obtain⟨Be,Ah,Bg,Ae⟩:=x;simp only at ht hd;exact Ci 16 Tryz.func128 Z (Ac hl _) fun w0 D0=>VY hl<|AZ 12 [0,256] Z<|BU Z (I9 _)<|BU (c:=Hm (3*Ah-1)) Z (lj (by omega))<|Kt (H1:=[]) (H2:=_::_) (Ju:=_::_) Z m8 Z (jZ (dr:=dr) (x:=⟨Be,Ah,Bg,Ae⟩) hl ht hd) hl Z Aw<|AY 2 [] Z<|T.BC Z fun W D h=>⟨D,⟨rfl,rfl,h⟩,fun _ hk=>hk⟩
theorem R6{x:De}{R:BB}(hl:CV R)(ht:0≤x.Bg∧x.Bg≤4)(hd:x.Be<14):Cv C 129 [AX d,AX C.s,.int .i64 dr] l (Az (⟨d,117,x.cs C⟩::Hx) R) (.int .i64 (((x.KD C.M (Hm (3*x.Ah)) l).1.Be:Nat):Int)) l (Az (⟨d,117,({x with Bg:=(x.KD C.M (Hm (3*x.Ah)) l).1.Bg}:De).cs C⟩::Hx) R):=by
 obtain⟨Be,Ah,Bg,Ae⟩:=x;simp only at ht hd;exact Ci 15 Tryz.func129 Z (Ac hl _) fun w0 D0=>VY hl<|AZ 12 [0,128] Z<|BU Z (I9 _)<|Kt (H1:=[]) (H2:=_::_) (Ju:=_::_) Z m8 Z (jZ (dr:=dr) (x:=⟨Be,Ah,Bg,Ae⟩) hl ht hd) hl Z Aw<|AY 2 [] Z<|T.BC Z fun W D h=>⟨D,⟨rfl,rfl,h⟩,fun _ hk=>hk⟩
theorem bW{x:De}{R:BB}(hl:CV R):Cv C 131 [AX d,AX C.s,.int .i64 dr] l (Az (⟨d,117,x.cs C⟩::Hx) R) (.int .i64 10) (put l 2 (pair (NR x.Ah) 0)) (Az (⟨d,117,x.cs C⟩::Hx) R):=by
 exact Ci 20 Tryz.func131 Z (Ac hl _) fun w0 D0=>VY hl<|CW 5 [] Z<|Ey 13 0 4096 (by kernel_rfl)<|AP 5 [] Z<|CB Z kB (YT) hl<|AP 4 [] Z<|Ic Z FP Eu (RX _)<|CB Z iX (UR (Kv _) (by omega)) hl<|Ls Z Q7 (Jw hl (Oz (Kv _) (by omega))) hl Aw<|AY 5 [] Z<|T.BC Z fun W D h=>⟨D,⟨rfl,rfl,h⟩,fun _ hk=>hk⟩
theorem kC{x:De}{R:BB}(hl:CV R):Cv C 132 [AX d,AX C.s,.int .i64 dr] l (Az (⟨d,117,x.cs C⟩::Hx) R) (.int .i64 11) (put l 3 0) (Az (⟨d,117,x.cs C⟩::Hx) R):=by
 exact Ci 14 Tryz.func132 Z (Ac hl _) fun w0 D0=>VY hl<|AZ 11 [0,64] Z<|CB Z kI (iL) hl<|Ls Z Q7 (Jw hl (by omega)) hl Aw<|AY 5 [] Z<|T.BC Z fun W D h=>⟨D,⟨rfl,rfl,h⟩,fun _ hk=>hk⟩
theorem nF{x:De}{R:BB}(hl:CV R)(hM:C.M.Ok)(hp:0≤C.M.parts∧C.M.parts≤100000):Cv C 133 [AX d,AX C.s,.int .i64 dr] l (Az (⟨d,117,x.cs C⟩::Hx) R) (.int .i64 (((if ld l 3≠C.M.parts then 12 else 13:Nat):Nat):Int)) l (Az (⟨d,117,x.cs C⟩::Hx) R):=by
 refine Ci 21 Tryz.func133 Z (Ac hl _) fun w0 D0=>VY hl<|CW 6 [] Z<|Ey 14 0 0 (by kernel_rfl)<|AP 5 [] Z<|CB Z kI (iL) hl<|CB Z UT (EH hl) hl<|AP 4 [] Z<|CB Z gN (YV) hl<|Ic Z FV Ej (Oh (by omega))<|AY 2 [] Z<|T.cond Z ?_ ?_
 ·intro hb0;refine CW 4 [] Z<|T.BC Z fun W D h=>?_
  rw[if_pos (yl hb0)];exact⟨D,⟨rfl,rfl,h⟩,fun _ hk=>hk⟩
 intro hb0;refine CW 5 [] Z<|T.BC Z fun W D h=>?_
 rw[if_neg (fun h=>h (yt hb0))];exact⟨D,⟨rfl,rfl,h⟩,fun _ hk=>hk⟩
theorem R7{x:De}{R:BB}(hl:CV R)(hd:x.Be=0):Cv C 125 [AX d,AX C.s,.int .i64 dr] l (Az (⟨d,117,x.cs C⟩::Hx) R) (.int .i64 ((((⟨0,x.Ah,x.Bg,x.Ae⟩:De).Au C.M l dr).1.Be:Nat):Int)) ((⟨0,x.Ah,x.Bg,x.Ae⟩:De).Au C.M l dr).2 (Az (⟨d,117,({((⟨0,x.Ah,x.Bg,x.Ae⟩:De).Au C.M l dr).1 with Be:=0}:De).cs C⟩::Hx) R):=by
 obtain⟨Be,Ah,Bg,Ae⟩:=x;obtain rfl:Be=0:=hd;refine Ci 22 Tryz.func125 Z (Ac hl _) fun w0 D0=>VY hl<|AZ 8 [] Z<|Le Z Pg F4<|AY 2 [] Z<|T.cond Z ?_ ?_
 ·intro hb0;refine CW 4 [] Z<|T.BC Z fun W D h=>?_
  rw[show(⟨0,Ah,Bg,Ae⟩:De).Au C.M l dr=_ from if_pos (of_decide_eq_true (X2.symm.trans hb0))];exact⟨D,⟨rfl,rfl,h⟩,fun _ hk=>hk⟩
 intro hb0;refine AZ 7 [128] Z<|BU Z (I9 _)<|AP 7 [0,18] Z<|Fd (H:=_::Hx) Z Z Z Z zk (MC) JH fun c0a c0b=>AP 2 [] Z<|Kt (H1:=[]) (H2:=_::_) (Ju:=_::_) Z zl Z (SE (x:=⟨0,Hm (Ah+1),Bg,Ae⟩) (Hx:=Hx++[⟨c0a,75,[AX d]⟩,⟨c0b,3,[.int .i64 1]⟩]) hl (zh .z) (zh (.s .z)) (by omega) (by simp) (JE _)) hl Z Aw<|AY 2 [] Z<|T.BC Z fun W D h=>?_
 rw[show(⟨0,Ah,Bg,Ae⟩:De).Au C.M l dr=_ from if_neg (of_decide_eq_false (X2.symm.trans hb0))];obtain⟨D1,h1,h2⟩:=Wk.front (_::Hx) _ _ D W h;exact⟨D1,⟨rfl,rfl,h1⟩,h2⟩
theorem GH:Ce (α:=Nat→Nat) C 99 [AX d] l Cj (fun q=> .agg (DeV d q).toArray) l (fun _=>True) (fun q=>Az (wW d q) Cj):=by
 refine Ci 32 Tryz.func99 Z Aa fun w0 D0=>AZ 2 [1] Z<|Hg Z Tn CE fun b0=>AP 8 [679649824] Z<|Fd (H:=[_]) Z Z Z Z zk (MC) JH fun c1a c1b=>AP 3 [] Z<|Fd (H:=[_,_,_]) Z Z Z Z zk (MC) JH fun c2a c2b=>AP 3 [] Z<|Fd (H:=[_,_,_,_,_]) Z Z Z Z zk (MC) JH fun c3a c3b=>NC Z<|Fd (H:=[_,_,_,_,_,_,_]) Z Z Z Z cg (Xw) JH fun c4a c4b=>NC Z<|Fd (H:=[_,_,_,_,_,_,_,_,_]) Z Z Z Z cg (Xw) JH fun c5a c5b=>AP 5 [] Z<|Fd (H:=[_,_,_,_,_,_,_,_,_,_,_]) Z Z Z Z zk (MC) JH fun c6a c6b=>AP 3 [] Z<|Fd (H:=[_,_,_,_,_,_,_,_,_,_,_,_,_]) Z Z Z Z zk (MC) JH fun c7a c7b=>cb Z Z Z Ub Uc Tn Z<|AY 2 [] Z<|T.Io Z Z Aa5 .z Z fun W D h=>?_
 obtain⟨D1,h1,h2⟩:=A8 h;exact⟨D1,⟨fun n=>[c1a,c1b,c2a,c2b,c3a,c3b,c4a,c4b,c5a,c5b,c6a,c6b,c7a,c7b].getD n 0,rfl,trivial,rfl,h1⟩,h2⟩
theorem Aa6:Cm 125=true:=by kernel_rfl
theorem Aa7:Cm 126=true:=by kernel_rfl
theorem Aa8:Cm 128=true:=by kernel_rfl
theorem Aa9:Cm 129=true:=by kernel_rfl
theorem AaA:Cm 131=true:=by kernel_rfl
theorem AaB:Cm 132=true:=by kernel_rfl
theorem AaC:Cm 133=true:=by kernel_rfl
theorem cx:Cm 164=true:=by kernel_rfl
theorem df:Cm 99=true:=by kernel_rfl
theorem AaD:Jv 117 [(0,1),(1,1),(2,1),(3,1),(4,5)]=true:=by kernel_rfl
theorem AaE:LU 117=some [.pointer none,.int .i64 0,.int .u64 0,.int .i64 0,.int .i64 0,.int .i64 0,.int .i64 0,.int .i64 0,.int .i64 0]:=by kernel_rfl
theorem R8{Bg:Int}:(⟨0,Ah,Bg,BH⟩:De).Au M l dr=({({((⟨0,Ah,Bg,BH⟩:De).Au M l dr).1 with Be:=0}:De) with Be:=((⟨0,Ah,Bg,BH⟩:De).Au M l dr).1.Be},((⟨0,Ah,Bg,BH⟩:De).Au M l dr).2):=rfl
theorem nL{Bg:Int}:(⟨12,Ah,Bg,BH⟩:De).Au M l dr=(⟨if ld l 3≠M.parts then 12 else 13,Ah,Bg,BH⟩,l):=by
 show(if ld l 3≠M.parts then _ else _)=_;split<;>rfl
theorem Ga{Bg:Int}(hM:C.M.Ok)(hp:0≤C.M.parts∧C.M.parts≤100000)(hc:Bf Ah)(ht:0≤Bg∧Bg≤4):Cv C 65 [AX d,AX C.s,.int .i64 dr] l (IY C d ⟨0,Ah,Bg,Ae⟩) (.tuple #[]) ((⟨0,Ah,Bg,BH⟩:De).Au C.M l dr).2 (IY C d ((⟨0,Ah,Bg,BH⟩:De).Au C.M l dr).1):=by
 refine Ci 34 Tryz.func65 Z BZ fun w0 D0=>Gu Aa<|AZ 11 [] Z<|Hz Z<|AP 6 [16] Z<|Fp Z LW Ih Z<|AP 7 [0,14] Z<|NW (H1:=[_]) (H2:=[]) (B:=wW d) Z df Z (GH) (fun _=>Aa) JH fun a0 ha0=>Hg Z Tn CE fun b1=>AP 8 [0,4608,1] Z<|OU Z Ub Uc (show 0≤((0:Nat):Int)∧((0:Nat):Int)<((14:Nat):Int) by decide)<|AP 3 [] Z<|Kt (H1:=[_]) (H2:=_::_) (Ju:=_::_) Z Aa6 Z (R7 (x:=(⟨0,Ah,Bg,BH⟩:De)) Aa Z) Aa Z Aw<|AY 4 [1] Z<|T.BJ Z fun W D h=>?_
 obtain⟨D1,h1,h2⟩:=Eb [1] (by decide) h;rw[R8];exact⟨D1,⟨rfl,rfl,h1⟩,h2⟩
theorem Gb{Bg:Int}(hM:C.M.Ok)(hp:0≤C.M.parts∧C.M.parts≤100000)(hc:Bf Ah)(ht:0≤Bg∧Bg≤4):Cv C 65 [AX d,AX C.s,.int .i64 dr] l (IY C d ⟨1,Ah,Bg,Ae⟩) (.tuple #[]) ((⟨1,Ah,Bg,BH⟩:De).Au C.M l dr).2 (IY C d ((⟨1,Ah,Bg,BH⟩:De).Au C.M l dr).1):=by
 refine Ci 34 Tryz.func65 Z BZ fun w0 D0=>Gu Aa<|AZ 11 [] Z<|Hz Z<|AP 6 [16] Z<|Fp Z LW Ih Z<|AP 7 [0,14] Z<|NW (H1:=[_]) (H2:=[]) (B:=wW d) Z df Z (GH) (fun _=>Aa) JH fun a0 ha0=>Hg Z Tn CE fun b1=>AP 8 [0,4608,1] Z<|OU Z Ub Uc (show 0≤((1:Nat):Int)∧((1:Nat):Int)<((14:Nat):Int) by decide)<|AP 3 [] Z<|Kt (H1:=[_]) (H2:=_::_) (Ju:=_::_) Z Aa7 Z (nE (x:=(⟨1,Ah,Bg,BH⟩:De)) Aa ht (by simp)) Aa Z Aw<|AY 4 [1] Z<|T.BJ Z fun W D h=>?_
 rw[show(⟨1,Ah,Bg,BH⟩:De).Au C.M l dr=_ from De.X9 (x:=(⟨1,Ah,Bg,BH⟩:De)) (least:=Hm (3*Ah-2))];obtain⟨D1,h1,h2⟩:=Eb [1] (by decide) h;exact⟨D1,⟨rfl,rfl,h1⟩,h2⟩
theorem Gc{Bg:Int}(hM:C.M.Ok)(hp:0≤C.M.parts∧C.M.parts≤100000)(hc:Bf Ah)(ht:0≤Bg∧Bg≤4):Cv C 65 [AX d,AX C.s,.int .i64 dr] l (IY C d ⟨2,Ah,Bg,Ae⟩) (.tuple #[]) ((⟨2,Ah,Bg,BH⟩:De).Au C.M l dr).2 (IY C d ((⟨2,Ah,Bg,BH⟩:De).Au C.M l dr).1):=by
 refine Ci 34 Tryz.func65 Z BZ fun w0 D0=>Gu Aa<|AZ 11 [] Z<|Hz Z<|AP 6 [16] Z<|Fp Z LW Ih Z<|AP 7 [0,14] Z<|NW (H1:=[_]) (H2:=[]) (B:=wW d) Z df Z (GH) (fun _=>Aa) JH fun a0 ha0=>Hg Z Tn CE fun b1=>AP 8 [0,4608,1] Z<|OU Z Ub Uc (show 0≤((2:Nat):Int)∧((2:Nat):Int)<((14:Nat):Int) by decide)<|AP 3 [] Z<|Kt (H1:=[_]) (H2:=_::_) (Ju:=_::_) Z zl Z (SE (x:=(⟨2,Ah,Bg,BH⟩:De)) (ph:=2) Aa .z (.s .z) (by omega) (by simp) hc) Aa Z Aw<|AY 4 [1] Z<|T.BJ Z fun W D h=>?_
 obtain⟨D1,h1,h2⟩:=Eb [1] (by decide) h;exact⟨D1,⟨rfl,rfl,h1⟩,h2⟩
theorem Ge{Bg:Int}(hM:C.M.Ok)(hp:0≤C.M.parts∧C.M.parts≤100000)(hc:Bf Ah)(ht:0≤Bg∧Bg≤4):Cv C 65 [AX d,AX C.s,.int .i64 dr] l (IY C d ⟨3,Ah,Bg,Ae⟩) (.tuple #[]) ((⟨3,Ah,Bg,BH⟩:De).Au C.M l dr).2 (IY C d ((⟨3,Ah,Bg,BH⟩:De).Au C.M l dr).1):=by
 refine Ci 34 Tryz.func65 Z BZ fun w0 D0=>Gu Aa<|AZ 11 [] Z<|Hz Z<|AP 6 [16] Z<|Fp Z LW Ih Z<|AP 7 [0,14] Z<|NW (H1:=[_]) (H2:=[]) (B:=wW d) Z df Z (GH) (fun _=>Aa) JH fun a0 ha0=>Hg Z Tn CE fun b1=>AP 8 [0,4608,1] Z<|OU Z Ub Uc (show 0≤((3:Nat):Int)∧((3:Nat):Int)<((14:Nat):Int) by decide)<|AP 3 [] Z<|Kt (H1:=[_]) (H2:=_::_) (Ju:=_::_) Z Aa8 Z (zo (x:=(⟨3,Ah,Bg,BH⟩:De)) Aa ht (by simp)) Aa Z Aw<|AY 4 [1] Z<|T.BJ Z fun W D h=>?_
 rw[show(⟨3,Ah,Bg,BH⟩:De).Au C.M l dr=_ from De.X9 (x:=(⟨3,Ah,Bg,BH⟩:De)) (least:=Hm (3*Ah-1))];obtain⟨D1,h1,h2⟩:=Eb [1] (by decide) h;exact⟨D1,⟨rfl,rfl,h1⟩,h2⟩
theorem Gk{Bg:Int}(hM:C.M.Ok)(hp:0≤C.M.parts∧C.M.parts≤100000)(hc:Bf Ah)(ht:0≤Bg∧Bg≤4):Cv C 65 [AX d,AX C.s,.int .i64 dr] l (IY C d ⟨4,Ah,Bg,Ae⟩) (.tuple #[]) ((⟨4,Ah,Bg,BH⟩:De).Au C.M l dr).2 (IY C d ((⟨4,Ah,Bg,BH⟩:De).Au C.M l dr).1):=by
 refine Ci 34 Tryz.func65 Z BZ fun w0 D0=>Gu Aa<|AZ 11 [] Z<|Hz Z<|AP 6 [16] Z<|Fp Z LW Ih Z<|AP 7 [0,14] Z<|NW (H1:=[_]) (H2:=[]) (B:=wW d) Z df Z (GH) (fun _=>Aa) JH fun a0 ha0=>Hg Z Tn CE fun b1=>AP 8 [0,4608,1] Z<|OU Z Ub Uc (show 0≤((4:Nat):Int)∧((4:Nat):Int)<((14:Nat):Int) by decide)<|AP 3 [] Z<|Kt (H1:=[_]) (H2:=_::_) (Ju:=_::_) Z zl Z (SE (x:=(⟨4,Ah,Bg,BH⟩:De)) (ph:=3) Aa (.s (.s .z)) (.s (.s (.s .z))) (by omega) (by simp) hc) Aa Z Aw<|AY 4 [1] Z<|T.BJ Z fun W D h=>?_
 obtain⟨D1,h1,h2⟩:=Eb [1] (by decide) h;exact⟨D1,⟨rfl,rfl,h1⟩,h2⟩
theorem GB{Bg:Int}(hM:C.M.Ok)(hp:0≤C.M.parts∧C.M.parts≤100000)(hc:Bf Ah)(ht:0≤Bg∧Bg≤4):Cv C 65 [AX d,AX C.s,.int .i64 dr] l (IY C d ⟨5,Ah,Bg,Ae⟩) (.tuple #[]) ((⟨5,Ah,Bg,BH⟩:De).Au C.M l dr).2 (IY C d ((⟨5,Ah,Bg,BH⟩:De).Au C.M l dr).1):=by
 refine Ci 34 Tryz.func65 Z BZ fun w0 D0=>Gu Aa<|AZ 11 [] Z<|Hz Z<|AP 6 [16] Z<|Fp Z LW Ih Z<|AP 7 [0,14] Z<|NW (H1:=[_]) (H2:=[]) (B:=wW d) Z df Z (GH) (fun _=>Aa) JH fun a0 ha0=>Hg Z Tn CE fun b1=>AP 8 [0,4608,1] Z<|OU Z Ub Uc (show 0≤((5:Nat):Int)∧((5:Nat):Int)<((14:Nat):Int) by decide)<|AP 3 [] Z<|Kt (H1:=[_]) (H2:=_::_) (Ju:=_::_) Z Aa9 Z (R6 (x:=(⟨5,Ah,Bg,BH⟩:De)) Aa ht (by simp)) Aa Z Aw<|AY 4 [1] Z<|T.BJ Z fun W D h=>?_
 rw[show(⟨5,Ah,Bg,BH⟩:De).Au C.M l dr=_ from De.X9 (x:=(⟨5,Ah,Bg,BH⟩:De)) (least:=Hm (3*Ah))];obtain⟨D1,h1,h2⟩:=Eb [1] (by decide) h;exact⟨D1,⟨rfl,rfl,h1⟩,h2⟩
theorem GC{Bg:Int}(hM:C.M.Ok)(hp:0≤C.M.parts∧C.M.parts≤100000)(hc:Bf Ah)(ht:0≤Bg∧Bg≤4):Cv C 65 [AX d,AX C.s,.int .i64 dr] l (IY C d ⟨6,Ah,Bg,Ae⟩) (.tuple #[]) ((⟨6,Ah,Bg,BH⟩:De).Au C.M l dr).2 (IY C d ((⟨6,Ah,Bg,BH⟩:De).Au C.M l dr).1):=by
 refine Ci 34 Tryz.func65 Z BZ fun w0 D0=>Gu Aa<|AZ 11 [] Z<|Hz Z<|AP 6 [16] Z<|Fp Z LW Ih Z<|AP 7 [0,14] Z<|NW (H1:=[_]) (H2:=[]) (B:=wW d) Z df Z (GH) (fun _=>Aa) JH fun a0 ha0=>Hg Z Tn CE fun b1=>AP 8 [0,4608,1] Z<|OU Z Ub Uc (show 0≤((6:Nat):Int)∧((6:Nat):Int)<((14:Nat):Int) by decide)<|AP 3 [] Z<|Kt (H1:=[_]) (H2:=_::_) (Ju:=_::_) Z zl Z (SE (x:=(⟨6,Ah,Bg,BH⟩:De)) (ph:=4) Aa (.s (.s (.s (.s .z)))) (.s (.s (.s (.s (.s .z))))) (by omega) (by simp) hc) Aa Z Aw<|AY 4 [1] Z<|T.BJ Z fun W D h=>?_
 obtain⟨D1,h1,h2⟩:=Eb [1] (by decide) h;exact⟨D1,⟨rfl,rfl,h1⟩,h2⟩
theorem GD{Bg:Int}(hM:C.M.Ok)(hp:0≤C.M.parts∧C.M.parts≤100000)(hc:Bf Ah)(ht:0≤Bg∧Bg≤4):Cv C 65 [AX d,AX C.s,.int .i64 dr] l (IY C d ⟨7,Ah,Bg,Ae⟩) (.tuple #[]) ((⟨7,Ah,Bg,BH⟩:De).Au C.M l dr).2 (IY C d ((⟨7,Ah,Bg,BH⟩:De).Au C.M l dr).1):=by
 refine Ci 34 Tryz.func65 Z BZ fun w0 D0=>Gu Aa<|AZ 11 [] Z<|Hz Z<|AP 6 [16] Z<|Fp Z LW Ih Z<|AP 7 [0,14] Z<|NW (H1:=[_]) (H2:=[]) (B:=wW d) Z df Z (GH) (fun _=>Aa) JH fun a0 ha0=>Hg Z Tn CE fun b1=>AP 8 [0,4608,1] Z<|OU Z Ub Uc (show 0≤((7:Nat):Int)∧((7:Nat):Int)<((14:Nat):Int) by decide)<|AP 3 [] Z<|Kt (H1:=[_]) (H2:=_::_) (Ju:=_::_) Z cx Z (qP (x:=(⟨7,Ah,Bg,BH⟩:De)) (dC:=8) Aa (.s (.s (.s (.s (.s (.s .z)))))) (.s (.s (.s (.s (.s (.s (.s .z)))))))) Aa Z Aw<|AY 4 [1] Z<|T.BJ Z fun W D h=>?_
 obtain⟨D1,h1,h2⟩:=Eb [1] (by decide) h;exact⟨D1,⟨rfl,rfl,h1⟩,h2⟩
theorem GF{Bg:Int}(hM:C.M.Ok)(hp:0≤C.M.parts∧C.M.parts≤100000)(hc:Bf Ah)(ht:0≤Bg∧Bg≤4):Cv C 65 [AX d,AX C.s,.int .i64 dr] l (IY C d ⟨8,Ah,Bg,Ae⟩) (.tuple #[]) ((⟨8,Ah,Bg,BH⟩:De).Au C.M l dr).2 (IY C d ((⟨8,Ah,Bg,BH⟩:De).Au C.M l dr).1):=by
 refine Ci 34 Tryz.func65 Z BZ fun w0 D0=>Gu Aa<|AZ 11 [] Z<|Hz Z<|AP 6 [16] Z<|Fp Z LW Ih Z<|AP 7 [0,14] Z<|NW (H1:=[_]) (H2:=[]) (B:=wW d) Z df Z (GH) (fun _=>Aa) JH fun a0 ha0=>Hg Z Tn CE fun b1=>AP 8 [0,4608,1] Z<|OU Z Ub Uc (show 0≤((8:Nat):Int)∧((8:Nat):Int)<((14:Nat):Int) by decide)<|AP 3 [] Z<|Kt (H1:=[_]) (H2:=_::_) (Ju:=_::_) Z cx Z (qP (x:=(⟨8,Ah,Bg,BH⟩:De)) (dC:=9) Aa (.s (.s (.s (.s (.s (.s (.s (.s .z)))))))) (.s (.s (.s (.s (.s (.s (.s (.s (.s .z)))))))))) Aa Z Aw<|AY 4 [1] Z<|T.BJ Z fun W D h=>?_
 obtain⟨D1,h1,h2⟩:=Eb [1] (by decide) h;exact⟨D1,⟨rfl,rfl,h1⟩,h2⟩
theorem GJ{Bg:Int}(hM:C.M.Ok)(hp:0≤C.M.parts∧C.M.parts≤100000)(hc:Bf Ah)(ht:0≤Bg∧Bg≤4):Cv C 65 [AX d,AX C.s,.int .i64 dr] l (IY C d ⟨9,Ah,Bg,Ae⟩) (.tuple #[]) ((⟨9,Ah,Bg,BH⟩:De).Au C.M l dr).2 (IY C d ((⟨9,Ah,Bg,BH⟩:De).Au C.M l dr).1):=by
 refine Ci 34 Tryz.func65 Z BZ fun w0 D0=>Gu Aa<|AZ 11 [] Z<|Hz Z<|AP 6 [16] Z<|Fp Z LW Ih Z<|AP 7 [0,14] Z<|NW (H1:=[_]) (H2:=[]) (B:=wW d) Z df Z (GH) (fun _=>Aa) JH fun a0 ha0=>Hg Z Tn CE fun b1=>AP 8 [0,4608,1] Z<|OU Z Ub Uc (show 0≤((9:Nat):Int)∧((9:Nat):Int)<((14:Nat):Int) by decide)<|AP 3 [] Z<|Kt (H1:=[_]) (H2:=_::_) (Ju:=_::_) Z AaA Z (bW (x:=(⟨9,Ah,Bg,BH⟩:De)) Aa) Aa Z Aw<|AY 4 [1] Z<|T.BJ Z fun W D h=>?_
 obtain⟨D1,h1,h2⟩:=Eb [1] (by decide) h;exact⟨D1,⟨rfl,rfl,h1⟩,h2⟩
theorem zq{Bg:Int}(hM:C.M.Ok)(hp:0≤C.M.parts∧C.M.parts≤100000)(hc:Bf Ah)(ht:0≤Bg∧Bg≤4):Cv C 65 [AX d,AX C.s,.int .i64 dr] l (IY C d ⟨10,Ah,Bg,Ae⟩) (.tuple #[]) ((⟨10,Ah,Bg,BH⟩:De).Au C.M l dr).2 (IY C d ((⟨10,Ah,Bg,BH⟩:De).Au C.M l dr).1):=by
 refine Ci 34 Tryz.func65 Z BZ fun w0 D0=>Gu Aa<|AZ 11 [] Z<|Hz Z<|AP 6 [16] Z<|Fp Z LW Ih Z<|AP 7 [0,14] Z<|NW (H1:=[_]) (H2:=[]) (B:=wW d) Z df Z (GH) (fun _=>Aa) JH fun a0 ha0=>Hg Z Tn CE fun b1=>AP 8 [0,4608,1] Z<|OU Z Ub Uc (show 0≤((10:Nat):Int)∧((10:Nat):Int)<((14:Nat):Int) by decide)<|AP 3 [] Z<|Kt (H1:=[_]) (H2:=_::_) (Ju:=_::_) Z AaB Z (kC (x:=(⟨10,Ah,Bg,BH⟩:De)) Aa) Aa Z Aw<|AY 4 [1] Z<|T.BJ Z fun W D h=>?_
 obtain⟨D1,h1,h2⟩:=Eb [1] (by decide) h;exact⟨D1,⟨rfl,rfl,h1⟩,h2⟩
theorem zt{Bg:Int}(hM:C.M.Ok)(hp:0≤C.M.parts∧C.M.parts≤100000)(hc:Bf Ah)(ht:0≤Bg∧Bg≤4):Cv C 65 [AX d,AX C.s,.int .i64 dr] l (IY C d ⟨11,Ah,Bg,Ae⟩) (.tuple #[]) ((⟨11,Ah,Bg,BH⟩:De).Au C.M l dr).2 (IY C d ((⟨11,Ah,Bg,BH⟩:De).Au C.M l dr).1):=by
 refine Ci 34 Tryz.func65 Z BZ fun w0 D0=>Gu Aa<|AZ 11 [] Z<|Hz Z<|AP 6 [16] Z<|Fp Z LW Ih Z<|AP 7 [0,14] Z<|NW (H1:=[_]) (H2:=[]) (B:=wW d) Z df Z (GH) (fun _=>Aa) JH fun a0 ha0=>Hg Z Tn CE fun b1=>AP 8 [0,4608,1] Z<|OU Z Ub Uc (show 0≤((11:Nat):Int)∧((11:Nat):Int)<((14:Nat):Int) by decide)<|AP 3 [] Z<|Kt (H1:=[_]) (H2:=_::_) (Ju:=_::_) Z zl Z (SE (x:=(⟨11,Ah,Bg,BH⟩:De)) (ph:=5) Aa (.s (.s (.s (.s (.s (.s (.s (.s (.s (.s .z)))))))))) (.s (.s (.s (.s (.s (.s (.s (.s (.s (.s (.s .z))))))))))) (by omega) (by simp) hc) Aa Z Aw<|AY 4 [1] Z<|T.BJ Z fun W D h=>?_
 obtain⟨D1,h1,h2⟩:=Eb [1] (by decide) h;exact⟨D1,⟨rfl,rfl,h1⟩,h2⟩
theorem zu{Bg:Int}(hM:C.M.Ok)(hp:0≤C.M.parts∧C.M.parts≤100000)(hc:Bf Ah)(ht:0≤Bg∧Bg≤4):Cv C 65 [AX d,AX C.s,.int .i64 dr] l (IY C d ⟨12,Ah,Bg,Ae⟩) (.tuple #[]) ((⟨12,Ah,Bg,BH⟩:De).Au C.M l dr).2 (IY C d ((⟨12,Ah,Bg,BH⟩:De).Au C.M l dr).1):=by
 refine Ci 34 Tryz.func65 Z BZ fun w0 D0=>Gu Aa<|AZ 11 [] Z<|Hz Z<|AP 6 [16] Z<|Fp Z LW Ih Z<|AP 7 [0,14] Z<|NW (H1:=[_]) (H2:=[]) (B:=wW d) Z df Z (GH) (fun _=>Aa) JH fun a0 ha0=>Hg Z Tn CE fun b1=>AP 8 [0,4608,1] Z<|OU Z Ub Uc (show 0≤((12:Nat):Int)∧((12:Nat):Int)<((14:Nat):Int) by decide)<|AP 3 [] Z<|Kt (H1:=[_]) (H2:=_::_) (Ju:=_::_) Z AaC Z (nF (x:=(⟨12,Ah,Bg,BH⟩:De)) Aa hM hp) Aa Z Aw<|AY 4 [1] Z<|T.BJ Z fun W D h=>?_
 rw[nL];obtain⟨D1,h1,h2⟩:=Eb [1] (by decide) h;exact⟨D1,⟨rfl,rfl,h1⟩,h2⟩
theorem zx{Bg:Int}(hM:C.M.Ok)(hp:0≤C.M.parts∧C.M.parts≤100000)(hc:Bf Ah)(ht:0≤Bg∧Bg≤4):Cv C 65 [AX d,AX C.s,.int .i64 dr] l (IY C d ⟨13,Ah,Bg,Ae⟩) (.tuple #[]) ((⟨13,Ah,Bg,BH⟩:De).Au C.M l dr).2 (IY C d ((⟨13,Ah,Bg,BH⟩:De).Au C.M l dr).1):=by
 refine Ci 34 Tryz.func65 Z BZ fun w0 D0=>Gu Aa<|AZ 11 [] Z<|Hz Z<|AP 6 [16] Z<|Fp Z LW Ih Z<|AP 7 [0,14] Z<|NW (H1:=[_]) (H2:=[]) (B:=wW d) Z df Z (GH) (fun _=>Aa) JH fun a0 ha0=>Hg Z Tn CE fun b1=>AP 8 [0,4608,1] Z<|OU Z Ub Uc (show 0≤((13:Nat):Int)∧((13:Nat):Int)<((14:Nat):Int) by decide)<|AP 3 [] Z<|Kt (H1:=[_]) (H2:=_::_) (Ju:=_::_) Z zl Z (SE (x:=(⟨13,Ah,Bg,BH⟩:De)) (ph:=0) Aa (.s (.s (.s (.s (.s (.s (.s (.s (.s (.s (.s (.s .z)))))))))))) (.s (.s (.s (.s (.s (.s (.s (.s (.s (.s (.s (.s (.s .z))))))))))))) (by omega) (by simp) hc) Aa Z Aw<|AY 4 [1] Z<|T.BJ Z fun W D h=>?_
 obtain⟨D1,h1,h2⟩:=Eb [1] (by decide) h;exact⟨D1,⟨rfl,rfl,h1⟩,h2⟩
theorem zy{x:De}(hM:C.M.Ok)(hp:0≤C.M.parts∧C.M.parts≤100000)(hx:x.Ok C.M):Cv C 65 [AX d,AX C.s,.int .i64 dr] l (IY C d x) (.tuple #[]) (x.step C.M l dr).2 (IY C d (x.step C.M l dr).1):=by
 obtain⟨k,Ah,Bg,Ae⟩:=x;have hc:=hx.Ah;have ht:=hx.Bg;have hk:=hx.Be;simp only at hc ht hk
 match k,hk with
 |0,_=>exact Ga hM hp hc ht
 |1,_=>exact Gb hM hp hc ht
 |2,_=>exact Gc hM hp hc ht
 |3,_=>exact Ge hM hp hc ht
 |4,_=>exact Gk hM hp hc ht
 |5,_=>exact GB hM hp hc ht
 |6,_=>exact GC hM hp hc ht
 |7,_=>exact GD hM hp hc ht
 |8,_=>exact GF hM hp hc ht
 |9,_=>exact GJ hM hp hc ht
 |10,_=>exact zq hM hp hc ht
 |11,_=>exact zt hM hp hc ht
 |12,_=>exact zu hM hp hc ht
 |13,_=>exact zx hM hp hc ht
theorem qQ{m:De}:Cv C 283 [AX d] l (IY C d m) (.agg m.Ae.cells.toArray) l (IY C d m):=by
 refine Ci 10 Tryz.func283 Z BZ fun w0 D0=>Gu Aa<|AZ 2 [1] Z<|Hg Z Ih CE fun b0=>AY 17 [0,16,1] Z<|T.Io Z Z Xq .z Z fun W D h=>?_
 obtain⟨D1,h1,h2⟩:=A8 h;exact⟨D1,⟨rfl,rfl,h1⟩,h2⟩
theorem De.Ha:De.new.Ok M:=⟨by simp[De.new],by unfold Bf;simp[De.new],by simp[De.new],by simp[De.new]⟩
theorem De.SG(hM:M.Ok){x:De}{p:Int}(hc:Bf x.Ah):(x.Ti p l).1.Ok M:=by
 have:=hM.Ak;exact⟨Nat.mod_lt _ (by decide),hc,by simp[De.Ti],fun _=>by simp only[De.Ti];omega⟩
theorem De.kD(hM:M.Ok){x:De}{p:Int}(hx:x.Ok M)(hd:x.Be=1∨x.Be=3∨x.Be=5):(x.KD M p l).1.Ok M:=by
 have h1:=hM.Ak;have h2:=hx.Bg;have h3:=hx.lt hd;unfold De.KD;split
 ·exact hx
 split
 ·exact⟨hx.Be,hx.Ah,by simp only;omega,fun _=>by simp only;omega⟩
 exact⟨by simp only;omega,hx.Ah,by simp only;omega,fun h=>by simp only at h;omega⟩
theorem De.Ef(hM:M.Ok){x:De}(hx:x.Ok M):(x.step M l dr).1.Ok M:=by
 have h0:({x with Ae:=BH}:De).Ok M:=⟨hx.Be,hx.Ah,hx.Bg,hx.lt⟩;have set: ∀k,k<14→ ¬(k=1∨k=3∨k=5)→({x with Ae:=BH,Be:=k}:De).Ok M:=fun k h h'=>⟨h,hx.Ah,hx.Bg,fun h2=>(h' h2).elim⟩
 unfold De.step De.Au;split
 ·split
  ·exact h0
  exact De.SG hM (JE _)
 ·rename_i h;exact De.kD hM h0 (.inl h)
 ·exact De.SG hM hx.Ah
 ·rename_i h;exact De.kD hM h0 (.inr (.inl h))
 ·exact De.SG hM hx.Ah
 ·rename_i h;exact De.kD hM h0 (.inr (.inr h))
 ·exact De.SG hM hx.Ah
 ·unfold De.count;split<;>exact set _ (by decide) (by decide)
 ·unfold De.count;split<;>exact set _ (by decide) (by decide)
 ·exact set _ (by decide) (by decide)
 ·exact set _ (by decide) (by decide)
 ·exact De.SG hM hx.Ah
 ·split
  ·exact h0
  exact set _ (by decide) (by decide)
 ·exact De.SG hM hx.Ah
 exact h0
theorem De.D8{x:De}(hx:x.Ok M)(hr:Nc l):Nc (x.step M l dr).2:=by
 have ht: ∀(y:De) (p:Int),0≤p∧p≤7→Nc (y.Ti p l).2:=fun y p hp=>hr.put (Zv hp)
 have hs: ∀(y:De) (p:Int),(y.KD M p l).2=l:=fun y p=>by rw[De.X9]
 unfold De.step De.Au;split
 ·split
  ·exact hr
  exact ht _ _ (by omega)
 ·rw[hs];exact hr
 ·exact ht _ _ (by omega)
 ·rw[hs];exact hr
 ·exact ht _ _ (by omega)
 ·rw[hs];exact hr
 ·exact ht _ _ (by omega)
 ·exact hr
 ·exact hr
 ·exact hr.put (Oz (Kv _) (by omega))
 ·exact hr.put (by unfold Bf;omega)
 ·exact ht _ _ (by omega)
 ·split<;>exact hr
 ·exact ht _ _ (by omega)
 exact hr
def Tq:List BB→BB
 |[]=>Cj
 |R::L=>BG R (Tq L)
theorem Rl: ∀{L:List BB},(∀R∈L,CV R)→CV (Tq L)
 |[],_=>Aa
 |R::L,h=>Ag (h R (by simp)) (Rl fun R' h'=>h R' (by simp[h']))
theorem Vb: ∀{L:List BB} {i:Nat} {R:BB},L[i]?=some R→Tq L=BG R (Tq (L.eraseIdx i))
 |[],_,_,h=>by simp at h
 |X::L,0,R,h=>by
  obtain rfl:X=R:=by simpa using h
  rfl
 |X::L,i+1,R,h=>by
  have h':L[i]?=some R:=by simpa using h
  show BG X (Tq L)=BG R (BG X (Tq (L.eraseIdx i)));rw[Vb h',←CO,←CO,D9 X R]
theorem Zw: ∀(L L':List BB),Tq (L++L')=BG (Tq L) (Tq L')
 |[],L'=>(Gl _).symm
 |X::L,L'=>by
  show BG X (Tq (L++L'))=BG (BG X (Tq L)) (Tq L');rw[Zw L L',CO]
theorem Vd(L:List α)(i:Nat)(x:α):(L.set i x).eraseIdx i=L.eraseIdx i:=by
 induction L generalizing i with
 |nil=>rfl
 |cons a L ih=>cases i with
  |zero=>rfl
  |succ i=>simp[ih]
def Rn(qs:List Nat):List Value:=qs.map AX
theorem Ve{rs:List Value}(h:j<qs.length):Qb (Rn qs++rs) (0+(j:Int).toNat*1)=some (AX (qs.getD j 0)):=by
 rw[FO];unfold Rn;rw[show 0+(j:Int).toNat*1=j by omega,List.getElem?_append_left (by simpa using h)];simp[h]
def PY:List Ev→List Value
 |[]=>[]
 |e::r=>e.cells++PY r
theorem OE: ∀(l:List Ev),(PY l).length=l.length*5
 |[]=>rfl
 |e::r=>by simp[PY,Ev.cells,OE r];omega
theorem Vf: ∀(l:List Ev) (e:Ev),PY l++e.cells=PY (l++[e])
 |[],e=>by simp[PY]
 |x::r,e=>by
  show x.cells++PY r++e.cells=x.cells++PY (r++[e]);rw[←Vf r e,List.append_assoc]
abbrev GO(mb:Nat)(qs:List Nat)(rm:List Value):Bk:=⟨mb,81,Rn qs++rm⟩
abbrev GP(ub:Nat)(us:List Nat)(ru:List Value):Bk:=⟨ub,83,Rn us++ru⟩
abbrev GQ(C:Cx)(p:Nat)(mb nm cm ub nu cu db:Nat)(lv:Value):Bk:=⟨p,80,[AX C.m,AX C.s,Dc mb nm cm,Dc ub nu cu,AX db,lv]⟩
def AaF(lv:Value)(Bl:List Ev)(B:List Bk):Prop:=
 (lv= .slice none 0 0∧Bl=[]∧B=[])∨ ∃b rest c,lv=Dc b Bl.length c∧Bl≠[]∧Bl.length≤c∧(PY Bl).length+List.length rest=c*5∧B=[⟨b,33,PY Bl++rest⟩]
def Ig(C:Cx)(qs:List Nat)(ms:List Mk):BB:=Tq (List.zipWith (Uj C) qs ms)
def Iz(C:Cx)(us:List Nat)(ms:List Mu):BB:=Tq (List.zipWith (J9 C) us ms)
theorem Dv{ms:List Mk}:CV (Ig C qs ms):=Rl fun R h=>by
 obtain⟨i,hi,rfl⟩:=List.mem_iff_getElem.1 h;rw[List.getElem_zipWith];exact HY
theorem DF{us:List Nat}{ms:List Mu}:CV (Iz C us ms):=Rl fun R h=>by
 obtain⟨i,hi,rfl⟩:=List.mem_iff_getElem.1 h;rw[List.getElem_zipWith];exact Dj
theorem GS{ms:List Mk}(hl:qs.length=ms.length)(hi:i<ms.length)(m':Mk):
  ∃F,CV F∧Ig C qs ms=BG (Uj C (qs.getD i 0) (ms.getD i OO)) F∧Ig C qs (ms.set i m')=BG (Uj C (qs.getD i 0) m') F:=by
 refine⟨Tq ((List.zipWith (Uj C) qs ms).eraseIdx i),Rl (fun R h=>?_),Vb ?_,?_⟩
 ·obtain⟨j,hj,rfl⟩:=List.mem_iff_getElem.1 (List.mem_of_mem_eraseIdx h);rw[List.getElem_zipWith];exact HY
 ·rw[List.getElem?_zipWith,List.getElem?_eq_getElem (by omega:i<qs.length),List.getElem?_eq_getElem hi];simp[List.getD,List.getElem?_eq_getElem (by omega:i<qs.length),List.getElem?_eq_getElem hi]
 have e:List.zipWith (Uj C) qs (ms.set i m')=(List.zipWith (Uj C) qs ms).set i (Uj C (qs.getD i 0) m'):=by
  apply List.ext_getElem?;intro j;rw[List.getElem?_zipWith,List.getElem?_set,List.getElem?_set,List.getElem?_zipWith];by_cases h:i=j
  ·subst h;simp[List.getD,List.getElem?_eq_getElem (by omega:i<qs.length),hi,hl]
  simp[h]
 unfold Ig;rw[e,Vb (i:=i) (R:=Uj C (qs.getD i 0) m') (by rw[List.getElem?_set_self (by simp;omega)]),Vd]
theorem GW{ms:List Mu}(hl:qs.length=ms.length)(hi:i<ms.length)(m':Mu):
  ∃F,CV F∧Iz C qs ms=BG (J9 C (qs.getD i 0) (ms.getD i TM)) F∧Iz C qs (ms.set i m')=BG (J9 C (qs.getD i 0) m') F:=by
 refine⟨Tq ((List.zipWith (J9 C) qs ms).eraseIdx i),Rl (fun R h=>?_),Vb ?_,?_⟩
 ·obtain⟨j,hj,rfl⟩:=List.mem_iff_getElem.1 (List.mem_of_mem_eraseIdx h);rw[List.getElem_zipWith];exact Dj
 ·rw[List.getElem?_zipWith,List.getElem?_eq_getElem (by omega:i<qs.length),List.getElem?_eq_getElem hi];simp[List.getD,List.getElem?_eq_getElem (by omega:i<qs.length),List.getElem?_eq_getElem hi]
 have e:List.zipWith (J9 C) qs (ms.set i m')=(List.zipWith (J9 C) qs ms).set i (J9 C (qs.getD i 0) m'):=by
  apply List.ext_getElem?;intro j;rw[List.getElem?_zipWith,List.getElem?_set,List.getElem?_set,List.getElem?_zipWith];by_cases h:i=j
  ·subst h;simp[List.getD,List.getElem?_eq_getElem (by omega:i<qs.length),hi,hl]
  simp[h]
 unfold Iz;rw[e,Vb (i:=i) (R:=J9 C (qs.getD i 0) m') (by rw[List.getElem?_set_self (by simp;omega)]),Vd]
structure WoA where
 qs:List Nat
 us:List Nat
 mb:Nat
 rm:List Value
 cm:Nat
 ub:Nat
 ru:List Value
 cu:Nat
 db:Nat
 lv:Value
 B:List Bk
structure WoA.Ok (a:WoA) (W:Wo):Prop where
 q:a.qs.length=W.Ai.length
 u:a.us.length=W.Ak.length
 m:a.qs.length+a.rm.length=a.cm
 n:a.us.length+a.ru.length=a.cu
 Bl:AaF a.lv W.Bl a.B
def JZ(C:Cx)(p:Nat)(W:Wo):BB:=fun D w=> ∃a:WoA,a.Ok W∧
 Az (GQ C p a.mb a.qs.length a.cm a.ub a.us.length a.cu a.db a.lv::GO a.mb a.qs a.rm::GP a.ub a.us a.ru::a.B) (BG (Ig C a.qs W.Ai) (BG (Iz C a.us W.Ak) (IY C a.db W.Ik))) D w
theorem BF{p:Nat}:CV (JZ C p W):=AQ fun _=>Ba (Ac (Ag Dv (Ag DF BZ)) _)
structure Wo.Ok (M:Bz) (W:Wo):Prop where
 uD:Nc W.l
 Lp: ∀m∈W.Ai,m.Ok M
 wY: ∀m∈W.Ak,m.Ok M
 Ik:W.Ik.Ok M
theorem SH{α:Type}{P:α→Prop}{l:List α}{d:α}(h: ∀x∈l,P x)(hi:i<l.length):P (l.getD i d):=by
 rw[List.getD_eq_getElem?_getD,List.getElem?_eq_getElem hi];exact h _ (List.getElem_mem hi)
theorem G0{α:Type}{P:α→Prop}{l:List α}{y:α}(h: ∀x∈l,P x)(hy:P y): ∀x∈l.set i y,P x:=fun x hx=>by
 rcases List.mem_or_eq_of_mem_set hx with h1|rfl
 ·exact h x h1
 exact hy
theorem Wo.G1(hM:M.Ok)(h:W.Ok M)(Di:Nat)(dr:Int):(W.EC M Di dr).1.Ok M:=by
 unfold Wo.EC;split
 ·rename_i hi;have hm:=SH (d:=OO) h.Lp hi;exact⟨Mk.D8 hm h.uD,G0 h.Lp (Mk.Ef hM hm h.uD.ld),h.wY,h.Ik⟩
 split
 ·rename_i h1 h2;have hm:=SH (d:=TM) h.wY (show Di-W.Ai.length<W.Ak.length by omega);exact⟨Mu.D8 hm h.uD,h.Lp,G0 h.wY (Mu.Ef hM hm h.uD.ld),h.Ik⟩
 exact⟨De.D8 h.Ik h.uD,h.Lp,h.wY,De.Ef hM h.Ik⟩
theorem Wo.Ef(hM:M.Ok)(h:W.Ok M)(Di:Nat)(dr:Int):(W.step M Di dr).1.Ok M:=by
 have h1:=Wo.G1 hM h Di dr;unfold Wo.step;split
 ·exact h1
 exact⟨h1.uD,h1.Lp,h1.wY,h1.Ik⟩
theorem dh (q : Nat) (w : World) : (method (Tryz.prog.types.size + Made.depth) 81 (AX q) "Event").run Tryz.prog w = .ok (285, AX q) w := by kernel_rfl
theorem di (q : Nat) (w : World) : (method (Tryz.prog.types.size + Made.depth) 83 (AX q) "Event").run Tryz.prog w = .ok (286, AX q) w := by kernel_rfl
theorem dm (q : Nat) (w : World) : (method (Tryz.prog.types.size + Made.depth) 75 (AX q) "Event").run Tryz.prog w = .ok (283, AX q) w := by kernel_rfl
theorem Wo.Nq(h:i<W.Ai.length):W.EC M i dr=({W with l:=((W.Ai.getD i OO).step M W.l dr).2,Ai:=W.Ai.set i ((W.Ai.getD i OO).step M W.l dr).1},((W.Ai.getD i OO).step M W.l dr).1.Ae):=if_pos h
theorem Wo.Nr(h:j<W.Ak.length):W.EC M (W.Ai.length+j) dr=({W with l:=((W.Ak.getD j TM).step M W.l).2,Ak:=W.Ak.set j ((W.Ak.getD j TM).step M W.l).1},((W.Ak.getD j TM).step M W.l).1.Ae):=by
 have e:W.Ai.length+j-W.Ai.length=j:=by omega
 unfold Wo.EC;rw[if_neg (by omega),if_pos (by omega),e]
theorem Wo.Ns:W.EC M (W.Ai.length+W.Ak.length) dr=({W with l:=(W.Ik.step M W.l dr).2,Ik:=(W.Ik.step M W.l dr).1},(W.Ik.step M W.l dr).1.Ae):=by
 unfold Wo.EC;rw[if_neg (by omega),if_neg (by omega)]
theorem Wo.Oj{Di:Nat}(h:(W.EC M Di dr).2.kind=0):W.step M Di dr=((W.EC M Di dr).1,BH):=if_pos h
theorem Wo.Ol{Di:Nat}(h: ¬(W.EC M Di dr).2.kind=0):W.step M Di dr=({(W.EC M Di dr).1 with Bl:=(W.EC M Di dr).1.Bl++[{(W.EC M Di dr).2 with Di:=Di}]},{(W.EC M Di dr).2 with Di:=Di}):=if_neg h
theorem Ya(A B F G:BB):BG A (BG (BG B F) G)=BG B (BG F (BG A G)):=by
 rw[CO,←CO A,D9 A B,CO,←CO A,D9 A F,CO]
theorem G3:Pm 80 2 2=true:=by kernel_rfl
theorem G4:Pm 80 3 3=true:=by kernel_rfl
theorem g63:Cm 63=true:=by kernel_rfl
theorem g64:Cm 64=true:=by kernel_rfl
theorem g65:Cm 65=true:=by kernel_rfl
theorem lw:one 77=true:=by kernel_rfl
theorem lx:one 78=true:=by kernel_rfl
theorem o81:one 81=true:=by kernel_rfl
theorem ly:Ip 77 81 1=true:=by kernel_rfl
theorem lz:Ip 78 83 1=true:=by kernel_rfl
theorem kE:Ec 75 (MZ)=true:=by kernel_rfl
theorem kF:Ec 81 (MZ)=true:=by kernel_rfl
theorem kG:Ec 83 (MZ)=true:=by kernel_rfl
theorem Om{R:BB}(hl:CV R){us:List Nat}{mb cm ub cu db p:Nat}{rm ru:List Value}{lv:Value}(hq:qs.length≤4)(hu:us.length≤4):Cv C 9 [AX p] l (Az (GQ C p mb qs.length cm ub us.length cu db lv::GO mb qs rm::GP ub us ru::Hx) R) (.int .i64 ((qs.length:Int)+us.length+1)) l (Az (GQ C p mb qs.length cm ub us.length cu db lv::GO mb qs rm::GP ub us ru::Hx) R):=by
 exact Ci 17 Tryz.func9 Z (Ac hl _) fun w0 D0=>T.conv (fun w h=>Sy.opens (H2:=_::_::_::Hx) h hl)<|CW 13 [] Z<|Ey 13 0 0 (by kernel_rfl)<|AP 10 [] Z<|BU (c:=((qs.length:Int)+us.length)) Z (EG (show -9223372036854775808≤((qs.length:Int)+us.length)∧((qs.length:Int)+us.length)≤9223372036854775807 by omega))<|BU (c:=((qs.length:Int)+us.length+1)) Z (EG (show -9223372036854775808≤((qs.length:Int)+us.length+1)∧((qs.length:Int)+us.length+1)≤9223372036854775807 by omega))<|AY 2 [] Z<|T.BC Z fun W D h=>⟨D,⟨rfl,rfl,h⟩,fun _ hk=>hk⟩
theorem fG(hF:CV F){us:List Nat}{mb cm ub cu db p:Nat}{rm ru:List Value}{lv:Value}{m:Mk}(hi:i<qs.length)(hm:m.Ok C.M)(hM:C.M.Ok)(hq:qs.length≤4)(hu:us.length≤4)(hr: ∀a,Bf (ld l a)):Cv C 29 [AX p,.agg #[.int .i64 (((i:Nat):Int)),.int .i64 dr]] l (Az (GQ C p mb qs.length cm ub us.length cu db lv::GO mb qs rm::GP ub us ru::Hx) (BG (Uj C (qs.getD i 0) m) F)) (.iface 81 (AX (qs.getD i 0))) ((m.step C.M l dr).2) (Az (GQ C p mb qs.length cm ub us.length cu db lv::GO mb qs rm::GP ub us ru::Hx) (BG (Uj C (qs.getD i 0) (m.step C.M l dr).1) F)):=by
 have hl:CV (BG (Uj C (qs.getD i 0) m) F):=Ag HY hF;refine Ci 85 Tryz.func29 Z (Ac hl _) fun w0 D0=>T.conv (fun w h=>Sy.opens (H2:=_::_::_::Hx) h hl)<|AZ 2 [1] Z<|F7 Z CE fun b0=>AY 3 [] Z<|Ey 9 0 0 (by kernel_rfl)<|AP 7 [0,1] Z<|BU (c:=((i:Nat):Int)-(qs.length:Int)) Z (EG (show -9223372036854775808≤((i:Nat):Int)-(qs.length:Int)∧((i:Nat):Int)-(qs.length:Int)≤9223372036854775807 by omega))<|AY 3 [] Z<|T.block<|AZ 3 [] Z<|Du (c:=true) Z (decide_eq_true (by omega))<|AY 4 [] Z<|Ey 15 0 16384 (by kernel_rfl)<|AP 6 [1] Z<|Jm Z ly ⟨Int.natCast_nonneg _,Int.ofNat_lt.2 hi⟩<|JY Z o81 (.s (.s .z)) (Ve hi)<|AP 6 [1] Z<|Ls Z g63 (Cv.FD (xe hM hm hr) hF) (Ag HY hF) Aw<|AY 2 [] Z<|Ey 10 0 0 (by kernel_rfl)<|AP 6 [1] Z<|Jm Z ly ⟨Int.natCast_nonneg _,Int.ofNat_lt.2 hi⟩<|JY Z o81 (.s (.s .z)) (Ve hi)<|eE Z Z Z kF<|AY 2 [] Z<|T.J8<|TE.CJ<|TE.BC rfl fun W D h=>?_
 obtain⟨D1,h1,h2⟩:=A8 h;exact⟨D1,⟨rfl,rfl,h1⟩,h2⟩
theorem fH(hF:CV F){us:List Nat}{mb cm ub cu db p:Nat}{rm ru:List Value}{lv:Value}(hw:Di=((qs.length+j:Nat):Int)){m:Mu}(hj:j<us.length)(hm:m.Ok C.M)(hM:C.M.Ok)(hq:qs.length≤4)(hu:us.length≤4)(hr: ∀a,Bf (ld l a)):Cv C 29 [AX p,.agg #[.int .i64 (Di),.int .i64 dr]] l (Az (GQ C p mb qs.length cm ub us.length cu db lv::GO mb qs rm::GP ub us ru::Hx) (BG (J9 C (us.getD j 0) m) F)) (.iface 83 (AX (us.getD j 0))) ((m.step C.M l).2) (Az (GQ C p mb qs.length cm ub us.length cu db lv::GO mb qs rm::GP ub us ru::Hx) (BG (J9 C (us.getD j 0) (m.step C.M l).1) F)):=by
 have hl:CV (BG (J9 C (us.getD j 0) m) F):=Ag Dj hF;refine Ci 85 Tryz.func29 Z (Ac hl _) fun w0 D0=>T.conv (fun w h=>Sy.opens (H2:=_::_::_::Hx) h hl)<|AZ 2 [1] Z<|F7 Z CE fun b0=>AY 3 [] Z<|Ey 9 0 0 (by kernel_rfl)<|AP 7 [0,1] Z<|BU (c:=((j:Nat):Int)) Z (by subst hw;simp only[FC];rw[IntWalk.i64_in _ (by omega)];omega)<|AY 3 [] Z<|T.block<|AZ 3 [] Z<|Du (c:=false) Z (decide_eq_false (show¬((j:Nat):Int)<0 by omega))<|AP 11 [0,1] Z<|Du (c:=true) Z (decide_eq_true (show((j:Nat):Int)<((us.length:Nat):Int) by omega))<|AY 4 [] Z<|Ey 12 0 2048 (by kernel_rfl)<|AP 5 [1] Z<|Jm Z lz ⟨Int.natCast_nonneg _,Int.ofNat_lt.2 hj⟩<|JY Z Jj (.s (.s (.s .z))) (Ve hj)<|AP 4 [1] Z<|Ls Z g64 (Cv.FD (zf hM hm hr) hF) (Ag Dj hF) Aw<|AP 8 [0,1] Z<|Jm Z lz ⟨Int.natCast_nonneg _,Int.ofNat_lt.2 hj⟩<|JY Z Jj (.s (.s (.s .z))) (Ve hj)<|eE Z Z Z kG<|AY 2 [] Z<|T.J8<|TE.CJ<|TE.BC rfl fun W D h=>?_
 obtain⟨D1,h1,h2⟩:=A8 h;exact⟨D1,⟨rfl,rfl,h1⟩,h2⟩
theorem fJ(hF:CV F){us:List Nat}{mb cm ub cu db p:Nat}{rm ru:List Value}{lv:Value}(hw:Di=((qs.length+us.length:Nat):Int)){x:De}(hp:0≤C.M.parts∧C.M.parts≤100000)(hm:x.Ok C.M)(hM:C.M.Ok)(hq:qs.length≤4)(hu:us.length≤4)(hr: ∀a,Bf (ld l a)):Cv C 29 [AX p,.agg #[.int .i64 (Di),.int .i64 dr]] l (Az (GQ C p mb qs.length cm ub us.length cu db lv::GO mb qs rm::GP ub us ru::Hx) (BG (IY C db x) F)) (.iface 75 (AX db)) ((x.step C.M l dr).2) (Az (GQ C p mb qs.length cm ub us.length cu db lv::GO mb qs rm::GP ub us ru::Hx) (BG (IY C db (x.step C.M l dr).1) F)):=by
 have hl:CV (BG (IY C db x) F):=Ag BZ hF;refine Ci 85 Tryz.func29 Z (Ac hl _) fun w0 D0=>T.conv (fun w h=>Sy.opens (H2:=_::_::_::Hx) h hl)<|AZ 2 [1] Z<|F7 Z CE fun b0=>AY 3 [] Z<|Ey 9 0 0 (by kernel_rfl)<|AP 7 [0,1] Z<|BU (c:=((us.length:Nat):Int)) Z (by subst hw;simp only[FC];rw[IntWalk.i64_in _ (by omega)];omega)<|AY 3 [] Z<|T.block<|AZ 3 [] Z<|Du (c:=false) Z (decide_eq_false (show¬((us.length:Nat):Int)<0 by omega))<|AP 11 [0,1] Z<|Du (c:=false) Z (decide_eq_false (show¬((us.length:Nat):Int)<((us.length:Nat):Int) by omega))<|AY 4 [] Z<|T.Bj<|T.seq<|Ey 11 0 1024 (by kernel_rfl)<|AP 10 [1,1] Z<|Ls Z g65 (Cv.FD (zy hM hp hm) hF) (Ag BZ hF) Aw<|AP 7 [0,1] Z<|eE Z Z Z kE<|AY 2 [] Z<|T.BC Z fun W D h=>?_
 obtain⟨D1,h1,h2⟩:=A8 h;exact⟨D1,⟨rfl,rfl,h1⟩,h2⟩
theorem dw:Pm 33 0 0=true:=by kernel_rfl
theorem Ys:Pm 33 1 1=true:=by kernel_rfl
theorem QH:Pm 80 5 5=true:=by kernel_rfl
theorem cz:Cm 285=true:=by kernel_rfl
theorem tI:Cm 29=true:=by kernel_rfl
theorem g9:Cm 9=true:=by kernel_rfl
theorem m38:Bq 38 2=true:=by kernel_rfl
theorem mP:one 53=true:=by kernel_rfl
theorem Α{p:Nat}(hi:i<W.Ai.length)(hM:C.M.Ok)(hp:0≤C.M.parts∧C.M.parts≤100000)(hW:W.Ok C.M)(hl4:W.Ai.length≤4∧W.Ak.length≤4)(hll:W.Bl.length<900000)(NP:W.Bl=[]):
  Cv C 8 [AX p,.agg #[.int .i64 (((i:Nat):Int)),.int .i64 dr]] W.l (JZ C p W) (.agg (W.step C.M i dr).2.cells.toArray) (W.step C.M i dr).1.l (JZ C p (W.step C.M i dr).1):=by
 refine Ci 39 Tryz.func8 Z BF fun w0 D0=>T.ex (fun _=>Ba (Ac (Ag Dv (Ag DF BZ)) _)) ?_
 rintro⟨qs,us,mb,rm,cm,ub,ru,cu,db,lv,LB⟩;refine T.and (fun _=>Ac (Ag Dv (Ag DF BZ)) _) ?_;intro ha;have hq0:qs.length=W.Ai.length:=ha.q;have hu0:us.length=W.Ak.length:=ha.u;have hqm:qs.length+rm.length=cm:=ha.m;have hun:us.length+ru.length=cu:=ha.n;have Β:=ha.Bl;have hq4:qs.length≤4:=by omega
 have mQ:us.length≤4:=by omega
 obtain⟨rfl,h00,rfl⟩:=ha.Bl.resolve_right (fun⟨_,_,_,_,h,_⟩=>h NP);obtain⟨F0,Uk,f1,f2⟩:=GS (C:=C) (qs:=qs) (ms:=W.Ai) hq0 hi ((W.Ai.getD i OO).step C.M W.l dr).1;have Hb:BG (Ig C qs W.Ai) (BG (Iz C us W.Ak) (IY C db W.Ik))=BG (Uj C (qs.getD i 0) (W.Ai.getD i OO)) (BG F0 (BG (Iz C us W.Ak) (IY C db W.Ik))):=by rw[f1,CO]
 have qR:BG (Uj C (qs.getD i 0) ((W.Ai.getD i OO).step C.M W.l dr).1) (BG F0 (BG (Iz C us W.Ak) (IY C db W.Ik)))=BG (Ig C qs (W.Ai.set i ((W.Ai.getD i OO).step C.M W.l dr).1)) (BG (Iz C us W.Ak) (IY C db W.Ik)):=by rw[f2,CO]
 have hF:CV (BG F0 (BG (Iz C us W.Ak) (IY C db W.Ik))):=Ag Uk (Ag DF BZ);have hm:=SH (d:=OO) hW.Lp hi;generalize BG F0 (BG (Iz C us W.Ak) (IY C db W.Ik))=F at*
 have hiq:i<qs.length:=by omega
 refine iJ (Ag Dv (Ag DF BZ))<|T.Jc (H':=[_,_,_]) (R':=BG (Uj C (qs.getD i 0) (W.Ai.getD i OO)) F) (Ag HY hF) (by rw[Hb];exact Wk.refl _)<|AZ 2 [3] Z<|F7 Z CE fun b0=>Hg Z Ih CE fun b1=>AY 3 [] Z<|Ey 10 0 0 (by kernel_rfl)<|AP 2 [1] Z<|Du (c:=false) Z (decide_eq_false (show¬((i:Nat):Int)<0 by omega))<|AP 4 [1] Z<|OT (H1:=[_,_]) (H2:=_::_) Z g9 Z (Om (Ag HY hF) hq4 mQ) (Ag HY hF)<|Du (c:=false) Z (decide_eq_false (show¬((i:Nat):Int)≥((qs.length:Int)+us.length+1) by omega))<|Hz Z<|AP 7 [60,1] Z<|Kt (H1:=[_,_]) (H2:=_::_) (Ju:=_::_) Z tI Z (fG (i:=i) hF hiq hm hM hq4 mQ hW.uD.ld) (Ag HY hF) Z Aw<|CH Z Z Z Z cz (fun w=>dh _ w) (Cv.FD pK hF) (Ag HY hF) Aw<|Hg Z Ih CE fun b2=>AY 9 [] Z<|T.cond Z ?_ ?_
 ·intro hb0;refine AZ 2 [2] Z<|Fp Z LW Ih Z<|AY 2 [1] Z<|T.Io Z Z Xq (.s .z) Z fun W_ D h=>?_
  have hk:((W.Ai.getD i OO).step C.M W.l dr).1.Ae.kind=0:=eq_of_beq hb0;rw[Wo.Oj (by rw[Wo.Nq hi];exact hk),Wo.Nq hi];obtain⟨D1,h1,h2⟩:=Wk.drop [_,_,_] _ D W_ h;rw[qR] at h1;exact⟨D1,⟨rfl,rfl,⟨⟨qs,us,mb,rm,cm,ub,ru,cu,db,_,_⟩,⟨by rw[List.length_set];exact hq0,hu0,hqm,hun,Β⟩,h1⟩⟩,h2⟩
 intro hb0;refine CW 9 [8,2] Z<|Ey 11 31 1216 (by kernel_rfl)<|AP 6 [3] Z<|Qc Z Wl Ih (by decide) Z Z Z (fun _=>(BP Z mP (.s (.s (.s (.s .z)))) Z (Ed Z QH (Ia Z (Bv Z (Bv Z Aw)))))) fun b3=>CF (cs:=Ev.cells {((W.Ai.getD i OO).step C.M W.l dr).1.Ae with Di:=i}) (rest:=[]) Z Z Z Wl .z (by omega) Z (fun _ _=>(BP Z mP (.s (.s (.s (.s (.s .z))))) Z (Ed Z QH (Ia Z (Bv Z (Bv Z Aw)))))) fun q1 rs eu hcm=>AP 2 [] Z<|KQ Z mP Z (.s (.s (.s (.s (.s .z))))) Z (.s (.s (.s (.s (.s .z))))) (Aj (by kernel_rfl) (Aj (by kernel_rfl) (Aj (by kernel_rfl) (Aj (by kernel_rfl) (Aj (by kernel_rfl) Aw)))))<|AY 6 [2,2,3] Z<|T.Io Z Z Xq (.s (.s (.s .z))) Z fun W_ D h=>?_
 have hk: ¬((W.Ai.getD i OO).step C.M W.l dr).1.Ae.kind=0:=ne_of_beq_false hb0;rw[Wo.Ol (by rw[Wo.Nq hi];exact hk),Wo.Nq hi];obtain⟨D1,h1,h2⟩:=Wk.pick [5,6,7,0] (by decide) D W_ h;rw[qR] at h1;exact⟨D1,⟨rfl,rfl,⟨⟨qs,us,mb,rm,cm,ub,ru,cu,db,Dc q1 1 eu,[⟨q1,33,Ev.cells {((W.Ai.getD i OO).step C.M W.l dr).1.Ae with Di:=i}++rs⟩]⟩,⟨by rw[List.length_set];exact hq0,hu0,hqm,hun,.inr ⟨q1,rs,eu,by rw[h00];rfl,by simp,by rw[h00];exact hcm.1,by rw[h00];exact hcm.2,by rw[h00];rfl⟩⟩,h1⟩⟩,h2⟩
theorem Γ{p:Nat}(hi:i<W.Ai.length)(hM:C.M.Ok)(hp:0≤C.M.parts∧C.M.parts≤100000)(hW:W.Ok C.M)(hl4:W.Ai.length≤4∧W.Ak.length≤4)(hll:W.Bl.length<900000)(NP:W.Bl≠[]):
  Cv C 8 [AX p,.agg #[.int .i64 (((i:Nat):Int)),.int .i64 dr]] W.l (JZ C p W) (.agg (W.step C.M i dr).2.cells.toArray) (W.step C.M i dr).1.l (JZ C p (W.step C.M i dr).1):=by
 refine Ci 39 Tryz.func8 Z BF fun w0 D0=>T.ex (fun _=>Ba (Ac (Ag Dv (Ag DF BZ)) _)) ?_
 rintro⟨qs,us,mb,rm,cm,ub,ru,cu,db,lv,LB⟩;refine T.and (fun _=>Ac (Ag Dv (Ag DF BZ)) _) ?_;intro ha;have hq0:qs.length=W.Ai.length:=ha.q;have hu0:us.length=W.Ak.length:=ha.u;have hqm:qs.length+rm.length=cm:=ha.m;have hun:us.length+ru.length=cu:=ha.n;have Β:=ha.Bl;have hq4:qs.length≤4:=by omega
 have mQ:us.length≤4:=by omega
 obtain⟨lb,Vg,lc,rfl,hne,hlc,hlr,rfl⟩:=ha.Bl.resolve_left (fun h=>NP h.2.1);obtain⟨F0,Uk,f1,f2⟩:=GS (C:=C) (qs:=qs) (ms:=W.Ai) hq0 hi ((W.Ai.getD i OO).step C.M W.l dr).1;have Hb:BG (Ig C qs W.Ai) (BG (Iz C us W.Ak) (IY C db W.Ik))=BG (Uj C (qs.getD i 0) (W.Ai.getD i OO)) (BG F0 (BG (Iz C us W.Ak) (IY C db W.Ik))):=by rw[f1,CO]
 have qR:BG (Uj C (qs.getD i 0) ((W.Ai.getD i OO).step C.M W.l dr).1) (BG F0 (BG (Iz C us W.Ak) (IY C db W.Ik)))=BG (Ig C qs (W.Ai.set i ((W.Ai.getD i OO).step C.M W.l dr).1)) (BG (Iz C us W.Ak) (IY C db W.Ik)):=by rw[f2,CO]
 have hF:CV (BG F0 (BG (Iz C us W.Ak) (IY C db W.Ik))):=Ag Uk (Ag DF BZ);have hm:=SH (d:=OO) hW.Lp hi;generalize BG F0 (BG (Iz C us W.Ak) (IY C db W.Ik))=F at*
 have hiq:i<qs.length:=by omega
 refine T.conv (fun w h=>Sy.opens (H2:=[_,_,_,_]) h (Ag Dv (Ag DF BZ)))<|T.Jc (H':=[_,_,_,_]) (R':=BG (Uj C (qs.getD i 0) (W.Ai.getD i OO)) F) (Ag HY hF) (by rw[Hb];exact Wk.refl _)<|AZ 2 [3] Z<|F7 Z CE fun b0=>Hg Z Ih CE fun b1=>AY 3 [] Z<|Ey 10 0 0 (by kernel_rfl)<|AP 2 [1] Z<|Du (c:=false) Z (decide_eq_false (show¬((i:Nat):Int)<0 by omega))<|AP 4 [1] Z<|OT (H1:=[_,_]) (H2:=_::_) Z g9 Z (Om (Ag HY hF) hq4 mQ) (Ag HY hF)<|Du (c:=false) Z (decide_eq_false (show¬((i:Nat):Int)≥((qs.length:Int)+us.length+1) by omega))<|Hz Z<|AP 7 [60,1] Z<|Kt (H1:=[_,_]) (H2:=_::_) (Ju:=_::_) Z tI Z (fG (i:=i) hF hiq hm hM hq4 mQ hW.uD.ld) (Ag HY hF) Z Aw<|CH Z Z Z Z cz (fun w=>dh _ w) (Cv.FD pK hF) (Ag HY hF) Aw<|Hg Z Ih CE fun b2=>AY 9 [] Z<|T.cond Z ?_ ?_
 ·intro hb0;refine AZ 2 [2] Z<|Fp Z LW Ih Z<|AY 2 [1] Z<|T.Io Z Z Xq (.s .z) Z fun W_ D h=>?_
  have hk:((W.Ai.getD i OO).step C.M W.l dr).1.Ae.kind=0:=eq_of_beq hb0;rw[Wo.Oj (by rw[Wo.Nq hi];exact hk),Wo.Nq hi];obtain⟨D1,h1,h2⟩:=Wk.drop [_,_,_] _ D W_ h;rw[qR] at h1;exact⟨D1,⟨rfl,rfl,⟨⟨qs,us,mb,rm,cm,ub,ru,cu,db,_,_⟩,⟨by rw[List.length_set];exact hq0,hu0,hqm,hun,Β⟩,h1⟩⟩,h2⟩
 intro hb0;refine CW 9 [8,2] Z<|Ey 11 31 1216 (by kernel_rfl)<|AP 6 [3] Z<|Qc Z Wl Ih (by decide) Z Z Z (fun _=>(BP Z mP (.s (.s (.s (.s .z)))) Z (Ed Z QH (Ia Z (Bv Z (Bv Z Aw)))))) fun b3=>vY (Hr:=[_,_,_,_,_,_,_]) (news:=Ev.cells {((W.Ai.getD i OO).step C.M W.l dr).1.Ae with Di:=i}) (cs:=PY W.Bl) (rest:=Vg) (Ff:=[]) (cn:=PY (W.Bl++[{((W.Ai.getD i OO).step C.M W.l dr).1.Ae with Di:=i}])) (kn:=(W.Bl++[{((W.Ai.getD i OO).step C.M W.l dr).1.Ae with Di:=i}]).length) Z Z Z Wl Z (OE _) hlr .z Z (by simp[BL,Ev.cells]) ⟨by omega,by omega,by omega,by omega,hlc⟩ (Vf W.Bl {((W.Ai.getD i OO).step C.M W.l dr).1.Ae with Di:=i}) (by simp) (fun _ _=>(BP Z mP (.s (.s (.s (.s (.s .z))))) Z (Ed Z QH (Ia Z (Bv Z (Bv Z Aw)))))) fun q1 rs eu hcm=>AP 2 [] Z<|KQ Z mP Z (.s (.s (.s (.s (.s .z))))) Z (.s (.s (.s (.s (.s .z))))) (Aj (by kernel_rfl) (Aj (by kernel_rfl) (Aj (by kernel_rfl) (Aj (by kernel_rfl) (Aj (by kernel_rfl) Aw)))))<|AY 6 [2,2,3] Z<|T.Io Z Z Xq (.s (.s (.s .z))) Z fun W_ D h=>?_
 have hk: ¬((W.Ai.getD i OO).step C.M W.l dr).1.Ae.kind=0:=ne_of_beq_false hb0;rw[Wo.Ol (by rw[Wo.Nq hi];exact hk),Wo.Nq hi];obtain⟨D1,h1,h2⟩:=Wk.pick [5,6,7,0] (by decide) D W_ h;rw[qR] at h1;exact⟨D1,⟨rfl,rfl,⟨⟨qs,us,mb,rm,cm,ub,ru,cu,db,_,_⟩,⟨by rw[List.length_set];exact hq0,hu0,hqm,hun,.inr ⟨q1,rs,eu,rfl,by simp,hcm.1,hcm.2,rfl⟩⟩,h1⟩⟩,h2⟩
theorem da:Cm 286=true:=by kernel_rfl
theorem Δ{p:Nat}(hj:j<W.Ak.length)(hM:C.M.Ok)(hp:0≤C.M.parts∧C.M.parts≤100000)(hW:W.Ok C.M)(hl4:W.Ai.length≤4∧W.Ak.length≤4)(hll:W.Bl.length<900000)(NP:W.Bl=[]):
  Cv C 8 [AX p,.agg #[.int .i64 (((W.Ai.length+j:Nat):Int)),.int .i64 dr]] W.l (JZ C p W) (.agg (W.step C.M (W.Ai.length+j) dr).2.cells.toArray) (W.step C.M (W.Ai.length+j) dr).1.l (JZ C p (W.step C.M (W.Ai.length+j) dr).1):=by
 refine Ci 39 Tryz.func8 Z BF fun w0 D0=>T.ex (fun _=>Ba (Ac (Ag Dv (Ag DF BZ)) _)) ?_
 rintro⟨qs,us,mb,rm,cm,ub,ru,cu,db,lv,LB⟩;refine T.and (fun _=>Ac (Ag Dv (Ag DF BZ)) _) ?_;intro ha;have hq0:qs.length=W.Ai.length:=ha.q;have hu0:us.length=W.Ak.length:=ha.u;have hqm:qs.length+rm.length=cm:=ha.m;have hun:us.length+ru.length=cu:=ha.n;have Β:=ha.Bl;have hq4:qs.length≤4:=by omega
 have mQ:us.length≤4:=by omega
 obtain⟨rfl,h00,rfl⟩:=ha.Bl.resolve_right (fun⟨_,_,_,_,h,_⟩=>h NP);obtain⟨F0,Uk,f1,f2⟩:=GW (C:=C) (qs:=us) (ms:=W.Ak) hu0 hj ((W.Ak.getD j TM).step C.M W.l).1;have Hb:BG (Ig C qs W.Ai) (BG (Iz C us W.Ak) (IY C db W.Ik))=BG (J9 C (us.getD j 0) (W.Ak.getD j TM)) (BG F0 (BG (Ig C qs W.Ai) (IY C db W.Ik))):=by rw[f1];exact Ya _ _ _ _
 have qR:BG (J9 C (us.getD j 0) ((W.Ak.getD j TM).step C.M W.l).1) (BG F0 (BG (Ig C qs W.Ai) (IY C db W.Ik)))=BG (Ig C qs W.Ai) (BG (Iz C us (W.Ak.set j ((W.Ak.getD j TM).step C.M W.l).1)) (IY C db W.Ik)):=by rw[f2];exact(Ya _ _ _ _).symm
 have hF:CV (BG F0 (BG (Ig C qs W.Ai) (IY C db W.Ik))):=Ag Uk (Ag Dv BZ);have hm:=SH (d:=TM) hW.wY hj;generalize BG F0 (BG (Ig C qs W.Ai) (IY C db W.Ik))=F at*
 have hjq:j<us.length:=by omega
 refine iJ (Ag Dv (Ag DF BZ))<|T.Jc (H':=[_,_,_]) (R':=BG (J9 C (us.getD j 0) (W.Ak.getD j TM)) F) (Ag Dj hF) (by rw[Hb];exact Wk.refl _)<|AZ 2 [3] Z<|F7 Z CE fun b0=>Hg Z Ih CE fun b1=>AY 3 [] Z<|Ey 10 0 0 (by kernel_rfl)<|AP 2 [1] Z<|Du (c:=false) Z (decide_eq_false (show¬((W.Ai.length+j:Nat):Int)<0 by omega))<|AP 4 [1] Z<|OT (H1:=[_,_]) (H2:=_::_) Z g9 Z (Om (Ag Dj hF) hq4 mQ) (Ag Dj hF)<|Du (c:=false) Z (decide_eq_false (show¬((W.Ai.length+j:Nat):Int)≥((qs.length:Int)+us.length+1) by omega))<|Hz Z<|AP 7 [60,1] Z<|Kt (H1:=[_,_]) (H2:=_::_) (Ju:=_::_) Z tI Z (fH (j:=j) hF (by rw[hq0]) hjq hm hM hq4 mQ hW.uD.ld) (Ag Dj hF) Z Aw<|CH Z Z Z Z da (fun w=>di _ w) (Cv.FD qM hF) (Ag Dj hF) Aw<|Hg Z Ih CE fun b2=>AY 9 [] Z<|T.cond Z ?_ ?_
 ·intro hb0;refine AZ 2 [2] Z<|Fp Z LW Ih Z<|AY 2 [1] Z<|T.Io Z Z Xq (.s .z) Z fun W_ D h=>?_
  have hk:((W.Ak.getD j TM).step C.M W.l).1.Ae.kind=0:=eq_of_beq hb0;rw[Wo.Oj (by rw[Wo.Nr hj];exact hk),Wo.Nr hj];obtain⟨D1,h1,h2⟩:=Wk.drop [_,_,_] _ D W_ h;rw[qR] at h1;exact⟨D1,⟨rfl,rfl,⟨⟨qs,us,mb,rm,cm,ub,ru,cu,db,_,_⟩,⟨hq0,by rw[List.length_set];exact hu0,hqm,hun,Β⟩,h1⟩⟩,h2⟩
 intro hb0;refine CW 9 [8,2] Z<|Ey 11 31 1216 (by kernel_rfl)<|AP 6 [3] Z<|Qc Z Wl Ih (by decide) Z Z Z (fun _=>(BP Z mP (.s (.s (.s (.s .z)))) Z (Ed Z QH (Ia Z (Bv Z (Bv Z Aw)))))) fun b3=>CF (cs:=Ev.cells {((W.Ak.getD j TM).step C.M W.l).1.Ae with Di:=(W.Ai.length+j)}) (rest:=[]) Z Z Z Wl .z (by omega) Z (fun _ _=>(BP Z mP (.s (.s (.s (.s (.s .z))))) Z (Ed Z QH (Ia Z (Bv Z (Bv Z Aw)))))) fun q1 rs eu hcm=>AP 2 [] Z<|KQ Z mP Z (.s (.s (.s (.s (.s .z))))) Z (.s (.s (.s (.s (.s .z))))) (Aj (by kernel_rfl) (Aj (by kernel_rfl) (Aj (by kernel_rfl) (Aj (by kernel_rfl) (Aj (by kernel_rfl) Aw)))))<|AY 6 [2,2,3] Z<|T.Io Z Z Xq (.s (.s (.s .z))) Z fun W_ D h=>?_
 have hk: ¬((W.Ak.getD j TM).step C.M W.l).1.Ae.kind=0:=ne_of_beq_false hb0;rw[Wo.Ol (by rw[Wo.Nr hj];exact hk),Wo.Nr hj];obtain⟨D1,h1,h2⟩:=Wk.pick [5,6,7,0] (by decide) D W_ h;rw[qR] at h1;exact⟨D1,⟨rfl,rfl,⟨⟨qs,us,mb,rm,cm,ub,ru,cu,db,Dc q1 1 eu,[⟨q1,33,Ev.cells {((W.Ak.getD j TM).step C.M W.l).1.Ae with Di:=(W.Ai.length+j)}++rs⟩]⟩,⟨hq0,by rw[List.length_set];exact hu0,hqm,hun,.inr ⟨q1,rs,eu,by rw[h00];rfl,by simp,by rw[h00];exact hcm.1,by rw[h00];exact hcm.2,by rw[h00];rfl⟩⟩,h1⟩⟩,h2⟩
theorem Ε{p:Nat}(hj:j<W.Ak.length)(hM:C.M.Ok)(hp:0≤C.M.parts∧C.M.parts≤100000)(hW:W.Ok C.M)(hl4:W.Ai.length≤4∧W.Ak.length≤4)(hll:W.Bl.length<900000)(NP:W.Bl≠[]):
  Cv C 8 [AX p,.agg #[.int .i64 (((W.Ai.length+j:Nat):Int)),.int .i64 dr]] W.l (JZ C p W) (.agg (W.step C.M (W.Ai.length+j) dr).2.cells.toArray) (W.step C.M (W.Ai.length+j) dr).1.l (JZ C p (W.step C.M (W.Ai.length+j) dr).1):=by
 refine Ci 39 Tryz.func8 Z BF fun w0 D0=>T.ex (fun _=>Ba (Ac (Ag Dv (Ag DF BZ)) _)) ?_
 rintro⟨qs,us,mb,rm,cm,ub,ru,cu,db,lv,LB⟩;refine T.and (fun _=>Ac (Ag Dv (Ag DF BZ)) _) ?_;intro ha;have hq0:qs.length=W.Ai.length:=ha.q;have hu0:us.length=W.Ak.length:=ha.u;have hqm:qs.length+rm.length=cm:=ha.m;have hun:us.length+ru.length=cu:=ha.n;have Β:=ha.Bl;have hq4:qs.length≤4:=by omega
 have mQ:us.length≤4:=by omega
 obtain⟨lb,Vg,lc,rfl,hne,hlc,hlr,rfl⟩:=ha.Bl.resolve_left (fun h=>NP h.2.1);obtain⟨F0,Uk,f1,f2⟩:=GW (C:=C) (qs:=us) (ms:=W.Ak) hu0 hj ((W.Ak.getD j TM).step C.M W.l).1;have Hb:BG (Ig C qs W.Ai) (BG (Iz C us W.Ak) (IY C db W.Ik))=BG (J9 C (us.getD j 0) (W.Ak.getD j TM)) (BG F0 (BG (Ig C qs W.Ai) (IY C db W.Ik))):=by rw[f1];exact Ya _ _ _ _
 have qR:BG (J9 C (us.getD j 0) ((W.Ak.getD j TM).step C.M W.l).1) (BG F0 (BG (Ig C qs W.Ai) (IY C db W.Ik)))=BG (Ig C qs W.Ai) (BG (Iz C us (W.Ak.set j ((W.Ak.getD j TM).step C.M W.l).1)) (IY C db W.Ik)):=by rw[f2];exact(Ya _ _ _ _).symm
 have hF:CV (BG F0 (BG (Ig C qs W.Ai) (IY C db W.Ik))):=Ag Uk (Ag Dv BZ);have hm:=SH (d:=TM) hW.wY hj;generalize BG F0 (BG (Ig C qs W.Ai) (IY C db W.Ik))=F at*
 have hjq:j<us.length:=by omega
 refine T.conv (fun w h=>Sy.opens (H2:=[_,_,_,_]) h (Ag Dv (Ag DF BZ)))<|T.Jc (H':=[_,_,_,_]) (R':=BG (J9 C (us.getD j 0) (W.Ak.getD j TM)) F) (Ag Dj hF) (by rw[Hb];exact Wk.refl _)<|AZ 2 [3] Z<|F7 Z CE fun b0=>Hg Z Ih CE fun b1=>AY 3 [] Z<|Ey 10 0 0 (by kernel_rfl)<|AP 2 [1] Z<|Du (c:=false) Z (decide_eq_false (show¬((W.Ai.length+j:Nat):Int)<0 by omega))<|AP 4 [1] Z<|OT (H1:=[_,_]) (H2:=_::_) Z g9 Z (Om (Ag Dj hF) hq4 mQ) (Ag Dj hF)<|Du (c:=false) Z (decide_eq_false (show¬((W.Ai.length+j:Nat):Int)≥((qs.length:Int)+us.length+1) by omega))<|Hz Z<|AP 7 [60,1] Z<|Kt (H1:=[_,_]) (H2:=_::_) (Ju:=_::_) Z tI Z (fH (j:=j) hF (by rw[hq0]) hjq hm hM hq4 mQ hW.uD.ld) (Ag Dj hF) Z Aw<|CH Z Z Z Z da (fun w=>di _ w) (Cv.FD qM hF) (Ag Dj hF) Aw<|Hg Z Ih CE fun b2=>AY 9 [] Z<|T.cond Z ?_ ?_
 ·intro hb0;refine AZ 2 [2] Z<|Fp Z LW Ih Z<|AY 2 [1] Z<|T.Io Z Z Xq (.s .z) Z fun W_ D h=>?_
  have hk:((W.Ak.getD j TM).step C.M W.l).1.Ae.kind=0:=eq_of_beq hb0;rw[Wo.Oj (by rw[Wo.Nr hj];exact hk),Wo.Nr hj];obtain⟨D1,h1,h2⟩:=Wk.drop [_,_,_] _ D W_ h;rw[qR] at h1;exact⟨D1,⟨rfl,rfl,⟨⟨qs,us,mb,rm,cm,ub,ru,cu,db,_,_⟩,⟨hq0,by rw[List.length_set];exact hu0,hqm,hun,Β⟩,h1⟩⟩,h2⟩
 intro hb0;refine CW 9 [8,2] Z<|Ey 11 31 1216 (by kernel_rfl)<|AP 6 [3] Z<|Qc Z Wl Ih (by decide) Z Z Z (fun _=>(BP Z mP (.s (.s (.s (.s .z)))) Z (Ed Z QH (Ia Z (Bv Z (Bv Z Aw)))))) fun b3=>vY (Hr:=[_,_,_,_,_,_,_]) (news:=Ev.cells {((W.Ak.getD j TM).step C.M W.l).1.Ae with Di:=(W.Ai.length+j)}) (cs:=PY W.Bl) (rest:=Vg) (Ff:=[]) (cn:=PY (W.Bl++[{((W.Ak.getD j TM).step C.M W.l).1.Ae with Di:=(W.Ai.length+j)}])) (kn:=(W.Bl++[{((W.Ak.getD j TM).step C.M W.l).1.Ae with Di:=(W.Ai.length+j)}]).length) Z Z Z Wl Z (OE _) hlr .z Z (by simp[BL,Ev.cells]) ⟨by omega,by omega,by omega,by omega,hlc⟩ (Vf W.Bl {((W.Ak.getD j TM).step C.M W.l).1.Ae with Di:=(W.Ai.length+j)}) (by simp) (fun _ _=>(BP Z mP (.s (.s (.s (.s (.s .z))))) Z (Ed Z QH (Ia Z (Bv Z (Bv Z Aw)))))) fun q1 rs eu hcm=>AP 2 [] Z<|KQ Z mP Z (.s (.s (.s (.s (.s .z))))) Z (.s (.s (.s (.s (.s .z))))) (Aj (by kernel_rfl) (Aj (by kernel_rfl) (Aj (by kernel_rfl) (Aj (by kernel_rfl) (Aj (by kernel_rfl) Aw)))))<|AY 6 [2,2,3] Z<|T.Io Z Z Xq (.s (.s (.s .z))) Z fun W_ D h=>?_
 have hk: ¬((W.Ak.getD j TM).step C.M W.l).1.Ae.kind=0:=ne_of_beq_false hb0;rw[Wo.Ol (by rw[Wo.Nr hj];exact hk),Wo.Nr hj];obtain⟨D1,h1,h2⟩:=Wk.pick [5,6,7,0] (by decide) D W_ h;rw[qR] at h1;exact⟨D1,⟨rfl,rfl,⟨⟨qs,us,mb,rm,cm,ub,ru,cu,db,_,_⟩,⟨hq0,by rw[List.length_set];exact hu0,hqm,hun,.inr ⟨q1,rs,eu,rfl,by simp,hcm.1,hcm.2,rfl⟩⟩,h1⟩⟩,h2⟩
theorem dc:Cm 283=true:=by kernel_rfl
theorem Ζ{p:Nat}(hM:C.M.Ok)(hp:0≤C.M.parts∧C.M.parts≤100000)(hW:W.Ok C.M)(hl4:W.Ai.length≤4∧W.Ak.length≤4)(hll:W.Bl.length<900000)(NP:W.Bl=[]):
  Cv C 8 [AX p,.agg #[.int .i64 (((W.Ai.length+W.Ak.length:Nat):Int)),.int .i64 dr]] W.l (JZ C p W) (.agg (W.step C.M (W.Ai.length+W.Ak.length) dr).2.cells.toArray) (W.step C.M (W.Ai.length+W.Ak.length) dr).1.l (JZ C p (W.step C.M (W.Ai.length+W.Ak.length) dr).1):=by
 refine Ci 39 Tryz.func8 Z BF fun w0 D0=>T.ex (fun _=>Ba (Ac (Ag Dv (Ag DF BZ)) _)) ?_
 rintro⟨qs,us,mb,rm,cm,ub,ru,cu,db,lv,LB⟩;refine T.and (fun _=>Ac (Ag Dv (Ag DF BZ)) _) ?_;intro ha;have hq0:qs.length=W.Ai.length:=ha.q;have hu0:us.length=W.Ak.length:=ha.u;have hqm:qs.length+rm.length=cm:=ha.m;have hun:us.length+ru.length=cu:=ha.n;have Β:=ha.Bl;have hq4:qs.length≤4:=by omega
 have mQ:us.length≤4:=by omega
 obtain⟨rfl,h00,rfl⟩:=ha.Bl.resolve_right (fun⟨_,_,_,_,h,_⟩=>h NP);have Hb:BG (Ig C qs W.Ai) (BG (Iz C us W.Ak) (IY C db W.Ik))=BG (IY C db W.Ik) (BG (Ig C qs W.Ai) (Iz C us W.Ak)):=by rw[←CO,D9]
 have qR:BG (IY C db (W.Ik.step C.M W.l dr).1) (BG (Ig C qs W.Ai) (Iz C us W.Ak))=BG (Ig C qs W.Ai) (BG (Iz C us W.Ak) (IY C db (W.Ik.step C.M W.l dr).1)):=by rw[D9,CO]
 have hF:CV (BG (Ig C qs W.Ai) (Iz C us W.Ak)):=Ag Dv DF;have hm:=hW.Ik;generalize BG (Ig C qs W.Ai) (Iz C us W.Ak)=F at*
 refine iJ (Ag Dv (Ag DF BZ))<|T.Jc (H':=[_,_,_]) (R':=BG (IY C db W.Ik) F) (Ag BZ hF) (by rw[Hb];exact Wk.refl _)<|AZ 2 [3] Z<|F7 Z CE fun b0=>Hg Z Ih CE fun b1=>AY 3 [] Z<|Ey 10 0 0 (by kernel_rfl)<|AP 2 [1] Z<|Du (c:=false) Z (decide_eq_false (show¬((W.Ai.length+W.Ak.length:Nat):Int)<0 by omega))<|AP 4 [1] Z<|OT (H1:=[_,_]) (H2:=_::_) Z g9 Z (Om (Ag BZ hF) hq4 mQ) (Ag BZ hF)<|Du (c:=false) Z (decide_eq_false (show¬((W.Ai.length+W.Ak.length:Nat):Int)≥((qs.length:Int)+us.length+1) by omega))<|Hz Z<|AP 7 [60,1] Z<|Kt (H1:=[_,_]) (H2:=_::_) (Ju:=_::_) Z tI Z (fJ hF (by rw[hq0,hu0]) hp hm hM hq4 mQ hW.uD.ld) (Ag BZ hF) Z Aw<|CH Z Z Z Z dc (fun w=>dm _ w) (Cv.FD qQ hF) (Ag BZ hF) Aw<|Hg Z Ih CE fun b2=>AY 9 [] Z<|T.cond Z ?_ ?_
 ·intro hb0;refine AZ 2 [2] Z<|Fp Z LW Ih Z<|AY 2 [1] Z<|T.Io Z Z Xq (.s .z) Z fun W_ D h=>?_
  have hk:(W.Ik.step C.M W.l dr).1.Ae.kind=0:=eq_of_beq hb0;rw[Wo.Oj (by rw[Wo.Ns];exact hk),Wo.Ns];obtain⟨D1,h1,h2⟩:=Wk.drop [_,_,_] _ D W_ h;rw[qR] at h1;exact⟨D1,⟨rfl,rfl,⟨⟨qs,us,mb,rm,cm,ub,ru,cu,db,_,_⟩,⟨hq0,hu0,hqm,hun,Β⟩,h1⟩⟩,h2⟩
 intro hb0;refine CW 9 [8,2] Z<|Ey 11 31 1216 (by kernel_rfl)<|AP 6 [3] Z<|Qc Z Wl Ih (by decide) Z Z Z (fun _=>(BP Z mP (.s (.s (.s (.s .z)))) Z (Ed Z QH (Ia Z (Bv Z (Bv Z Aw)))))) fun b3=>CF (cs:=Ev.cells {(W.Ik.step C.M W.l dr).1.Ae with Di:=(W.Ai.length+W.Ak.length)}) (rest:=[]) Z Z Z Wl .z (by omega) Z (fun _ _=>(BP Z mP (.s (.s (.s (.s (.s .z))))) Z (Ed Z QH (Ia Z (Bv Z (Bv Z Aw)))))) fun q1 rs eu hcm=>AP 2 [] Z<|KQ Z mP Z (.s (.s (.s (.s (.s .z))))) Z (.s (.s (.s (.s (.s .z))))) (Aj (by kernel_rfl) (Aj (by kernel_rfl) (Aj (by kernel_rfl) (Aj (by kernel_rfl) (Aj (by kernel_rfl) Aw)))))<|AY 6 [2,2,3] Z<|T.Io Z Z Xq (.s (.s (.s .z))) Z fun W_ D h=>?_
 have hk: ¬(W.Ik.step C.M W.l dr).1.Ae.kind=0:=ne_of_beq_false hb0;rw[Wo.Ol (by rw[Wo.Ns];exact hk),Wo.Ns];obtain⟨D1,h1,h2⟩:=Wk.pick [5,6,7,0] (by decide) D W_ h;rw[qR] at h1;exact⟨D1,⟨rfl,rfl,⟨⟨qs,us,mb,rm,cm,ub,ru,cu,db,Dc q1 1 eu,[⟨q1,33,Ev.cells {(W.Ik.step C.M W.l dr).1.Ae with Di:=(W.Ai.length+W.Ak.length)}++rs⟩]⟩,⟨hq0,hu0,hqm,hun,.inr ⟨q1,rs,eu,by rw[h00];rfl,by simp,by rw[h00];exact hcm.1,by rw[h00];exact hcm.2,by rw[h00];rfl⟩⟩,h1⟩⟩,h2⟩
theorem Η{p:Nat}(hM:C.M.Ok)(hp:0≤C.M.parts∧C.M.parts≤100000)(hW:W.Ok C.M)(hl4:W.Ai.length≤4∧W.Ak.length≤4)(hll:W.Bl.length<900000)(NP:W.Bl≠[]):
  Cv C 8 [AX p,.agg #[.int .i64 (((W.Ai.length+W.Ak.length:Nat):Int)),.int .i64 dr]] W.l (JZ C p W) (.agg (W.step C.M (W.Ai.length+W.Ak.length) dr).2.cells.toArray) (W.step C.M (W.Ai.length+W.Ak.length) dr).1.l (JZ C p (W.step C.M (W.Ai.length+W.Ak.length) dr).1):=by
 refine Ci 39 Tryz.func8 Z BF fun w0 D0=>T.ex (fun _=>Ba (Ac (Ag Dv (Ag DF BZ)) _)) ?_
 rintro⟨qs,us,mb,rm,cm,ub,ru,cu,db,lv,LB⟩;refine T.and (fun _=>Ac (Ag Dv (Ag DF BZ)) _) ?_;intro ha;have hq0:qs.length=W.Ai.length:=ha.q;have hu0:us.length=W.Ak.length:=ha.u;have hqm:qs.length+rm.length=cm:=ha.m;have hun:us.length+ru.length=cu:=ha.n;have Β:=ha.Bl;have hq4:qs.length≤4:=by omega
 have mQ:us.length≤4:=by omega
 obtain⟨lb,Vg,lc,rfl,hne,hlc,hlr,rfl⟩:=ha.Bl.resolve_left (fun h=>NP h.2.1);have Hb:BG (Ig C qs W.Ai) (BG (Iz C us W.Ak) (IY C db W.Ik))=BG (IY C db W.Ik) (BG (Ig C qs W.Ai) (Iz C us W.Ak)):=by rw[←CO,D9]
 have qR:BG (IY C db (W.Ik.step C.M W.l dr).1) (BG (Ig C qs W.Ai) (Iz C us W.Ak))=BG (Ig C qs W.Ai) (BG (Iz C us W.Ak) (IY C db (W.Ik.step C.M W.l dr).1)):=by rw[D9,CO]
 have hF:CV (BG (Ig C qs W.Ai) (Iz C us W.Ak)):=Ag Dv DF;have hm:=hW.Ik;generalize BG (Ig C qs W.Ai) (Iz C us W.Ak)=F at*
 refine T.conv (fun w h=>Sy.opens (H2:=[_,_,_,_]) h (Ag Dv (Ag DF BZ)))<|T.Jc (H':=[_,_,_,_]) (R':=BG (IY C db W.Ik) F) (Ag BZ hF) (by rw[Hb];exact Wk.refl _)<|AZ 2 [3] Z<|F7 Z CE fun b0=>Hg Z Ih CE fun b1=>AY 3 [] Z<|Ey 10 0 0 (by kernel_rfl)<|AP 2 [1] Z<|Du (c:=false) Z (decide_eq_false (show¬((W.Ai.length+W.Ak.length:Nat):Int)<0 by omega))<|AP 4 [1] Z<|OT (H1:=[_,_]) (H2:=_::_) Z g9 Z (Om (Ag BZ hF) hq4 mQ) (Ag BZ hF)<|Du (c:=false) Z (decide_eq_false (show¬((W.Ai.length+W.Ak.length:Nat):Int)≥((qs.length:Int)+us.length+1) by omega))<|Hz Z<|AP 7 [60,1] Z<|Kt (H1:=[_,_]) (H2:=_::_) (Ju:=_::_) Z tI Z (fJ hF (by rw[hq0,hu0]) hp hm hM hq4 mQ hW.uD.ld) (Ag BZ hF) Z Aw<|CH Z Z Z Z dc (fun w=>dm _ w) (Cv.FD qQ hF) (Ag BZ hF) Aw<|Hg Z Ih CE fun b2=>AY 9 [] Z<|T.cond Z ?_ ?_
 ·intro hb0;refine AZ 2 [2] Z<|Fp Z LW Ih Z<|AY 2 [1] Z<|T.Io Z Z Xq (.s .z) Z fun W_ D h=>?_
  have hk:(W.Ik.step C.M W.l dr).1.Ae.kind=0:=eq_of_beq hb0;rw[Wo.Oj (by rw[Wo.Ns];exact hk),Wo.Ns];obtain⟨D1,h1,h2⟩:=Wk.drop [_,_,_] _ D W_ h;rw[qR] at h1;exact⟨D1,⟨rfl,rfl,⟨⟨qs,us,mb,rm,cm,ub,ru,cu,db,_,_⟩,⟨hq0,hu0,hqm,hun,Β⟩,h1⟩⟩,h2⟩
 intro hb0;refine CW 9 [8,2] Z<|Ey 11 31 1216 (by kernel_rfl)<|AP 6 [3] Z<|Qc Z Wl Ih (by decide) Z Z Z (fun _=>(BP Z mP (.s (.s (.s (.s .z)))) Z (Ed Z QH (Ia Z (Bv Z (Bv Z Aw)))))) fun b3=>vY (Hr:=[_,_,_,_,_,_,_]) (news:=Ev.cells {(W.Ik.step C.M W.l dr).1.Ae with Di:=(W.Ai.length+W.Ak.length)}) (cs:=PY W.Bl) (rest:=Vg) (Ff:=[]) (cn:=PY (W.Bl++[{(W.Ik.step C.M W.l dr).1.Ae with Di:=(W.Ai.length+W.Ak.length)}])) (kn:=(W.Bl++[{(W.Ik.step C.M W.l dr).1.Ae with Di:=(W.Ai.length+W.Ak.length)}]).length) Z Z Z Wl Z (OE _) hlr .z Z (by simp[BL,Ev.cells]) ⟨by omega,by omega,by omega,by omega,hlc⟩ (Vf W.Bl {(W.Ik.step C.M W.l dr).1.Ae with Di:=(W.Ai.length+W.Ak.length)}) (by simp) (fun _ _=>(BP Z mP (.s (.s (.s (.s (.s .z))))) Z (Ed Z QH (Ia Z (Bv Z (Bv Z Aw)))))) fun q1 rs eu hcm=>AP 2 [] Z<|KQ Z mP Z (.s (.s (.s (.s (.s .z))))) Z (.s (.s (.s (.s (.s .z))))) (Aj (by kernel_rfl) (Aj (by kernel_rfl) (Aj (by kernel_rfl) (Aj (by kernel_rfl) (Aj (by kernel_rfl) Aw)))))<|AY 6 [2,2,3] Z<|T.Io Z Z Xq (.s (.s (.s .z))) Z fun W_ D h=>?_
 have hk: ¬(W.Ik.step C.M W.l dr).1.Ae.kind=0:=ne_of_beq_false hb0;rw[Wo.Ol (by rw[Wo.Ns];exact hk),Wo.Ns];obtain⟨D1,h1,h2⟩:=Wk.pick [5,6,7,0] (by decide) D W_ h;rw[qR] at h1;exact⟨D1,⟨rfl,rfl,⟨⟨qs,us,mb,rm,cm,ub,ru,cu,db,_,_⟩,⟨hq0,hu0,hqm,hun,.inr ⟨q1,rs,eu,rfl,by simp,hcm.1,hcm.2,rfl⟩⟩,h1⟩⟩,h2⟩
theorem WA{p:Nat}{Di:Nat}(hw:Di<W.FX)(hM:C.M.Ok)(hp:0≤C.M.parts∧C.M.parts≤100000)(hW:W.Ok C.M)(hl4:W.Ai.length≤4∧W.Ak.length≤4)(hll:W.Bl.length<900000):
  Cv C 8 [AX p,.agg #[.int .i64 (Di:Int),.int .i64 dr]] W.l (JZ C p W) (.agg (W.step C.M Di dr).2.cells.toArray) (W.step C.M Di dr).1.l (JZ C p (W.step C.M Di dr).1):=by
 unfold Wo.FX at hw;by_cases h1:Di<W.Ai.length
 ·by_cases NP:W.Bl=[]
  ·exact Α h1 hM hp hW hl4 hll NP
  exact Γ h1 hM hp hW hl4 hll NP
 by_cases h2:Di<W.Ai.length+W.Ak.length
 ·obtain⟨j,rfl⟩: ∃j,Di=W.Ai.length+j:=⟨Di-W.Ai.length,by omega⟩;have hj:j<W.Ak.length:=by omega
  by_cases NP:W.Bl=[]
  ·exact Δ hj hM hp hW hl4 hll NP
  exact Ε hj hM hp hW hl4 hll NP
 obtain rfl:Di=W.Ai.length+W.Ak.length:=by omega
 by_cases NP:W.Bl=[]
 ·exact Ζ hM hp hW hl4 hll NP
 exact Η hM hp hW hl4 hll NP
section
variable{r:List Code}
theorem T.pure[Inhabited (List Deferred)]{P:Prop}(h:P→T Q n r S e):T Q n r (fun w=>P∧S w) e:=fun w a hS hF=>h hS.1 w a hS.2 hF
theorem T.some[Inhabited (List Deferred)]{α:Type}{S:α→World→Prop}(h: ∀a,T Q n r (S a) e):T Q n r (fun w=> ∃a,S a w) e:=fun w a hS hF=>h hS.choose w a hS.choose_spec hF
end
def Ht(et n:Nat)(v:Value)(k:Nat)(cs:List Value)(B:List Bk):Prop:=
 (v= .slice none 0 0∧k=0∧cs=[]∧B=[])∨ ∃b rest m,v=Dc b k m∧k≤m∧m≤maxLen∧cs.length+List.length rest=m*n∧cs.length=k*n∧B=[⟨b,et,cs++rest⟩]
theorem Ht.nil:Ht et n (.slice none 0 0) 0 [] []:= .inl ⟨rfl,rfl,rfl,rfl⟩
theorem Ht.len{k:Nat}{cs:List Value}(h:Ht et n v k cs B): ∃p m,v= .slice p k m:=by
 rcases h with⟨rfl,rfl,-,-⟩|⟨b,rest,m,rfl,-⟩
 ·exact⟨_,_,rfl⟩
 exact⟨_,_,rfl⟩
theorem Ht.cell{k:Nat}{cs:List Value}(h:Ht et n v k cs B):BL v=true:=by
 obtain⟨p,m,rfl⟩:=h.len;rfl
theorem own_blk{k:Nat}{cs rest:List Value}(h:(⟨b,et,cs++rest⟩:Bk).is w)(hk:k≤m)(hm:m≤maxLen)(hl:cs.length+rest.length=m*n)(hc:cs.length=k*n):w.ownsRow 0 et n (Dc b k m) k cs:=by
 refine⟨hc,.inr ⟨b,m,(cs++rest).toArray,rfl,Nat.zero_le _,h,hk,hm,by simp[hl],?_⟩⟩;simp only[List.toList_toArray];rw[←hc];exact List.take_left
theorem fK{x:Bk}{R:BB}(h:Az (x::H) R D w): ∃D',Az (H++[x]) R D' w∧ ∀k,D' k→D k:=by
 obtain⟨h1,h2,DR,h3,h4,h5⟩:=QY h;have hm: ∀y∈H++[x],y∈x::H:=fun y hy=>by
  rcases List.mem_append.1 hy with hy|hy
  ·simp[hy]
  rw[List.mem_singleton.1 hy];simp
 have hp:(H++[x]).Pairwise (fun a b=>a.b≠b.b):=by
  rw[List.pairwise_append];obtain⟨g1,g2⟩:=List.pairwise_cons.1 h1;exact⟨g2,by simp,fun y hy z hz=>by rw[List.mem_singleton.1 hz];exact fun e=>g1 y hy e.symm⟩
 obtain⟨D',g1,g2⟩:=Uz h3 hp (fun y hy=>⟨(h2 y (hm y hy)).1,h4 y (hm y hy)⟩);refine⟨D',g1,fun k hk=>?_⟩;rcases g2 k hk with h6|⟨y,hy,rfl⟩
 ·exact h5 k h6
 exact(h2 y (hm y hy)).2
section
variable{R:BB}
variable{lo:Nat→Bool}{d:Option Nat}{gd:Option (Nat×Bool)}{x:Operand}
theorem nQ{j:IntKind}(hn:n≤1000000)(ht:Ip t et 1=true)(hz:LU et=some [u])(w:World):(Instr.makeSlice t (.int j (n:Int)) (.int k (n:Int))).run Tryz.prog w= .ok (Dc w.heap.size n n) (w.alloc (.cells (List.replicate n u).toArray et)):=by
 obtain⟨inf,z,hu,hin,hz1,hs,hb,hzs⟩:=IG ht;obtain⟨sr,z',hi',hz',hc'⟩:=vW hz;rw[hin] at hi';cases hi';rw[hz1] at hz';cases hz';have hr:=run_make (P:=Tryz.prog) w t et inf z hu hin hz1 j k (n:Int) (n:Int) (by omega) (Int.le_refl _) (by
  have:inf.bytes*n≤1000*1000000:=Nat.mul_le_mul hb hn;omega) (by omega)
 have hcells:madeCells z.cells ((n:Int).toNat*inf.size)=(List.replicate n u).toArray:=by
  have hz0:z.cells= #[u]:=by rw[←hc']
  rw[hs,hz0];apply Array.ext';apply List.ext_getElem?;intro q;simp[madeCells,List.getElem?_replicate];by_cases hq:q<n
  ·simp[hq,Nat.mod_one]
  simp[hq]
 rw[hcells] at hr;exact hr
theorem Hc(ws:List Int)(a:Nat)(v:Int):NL (Gv ws) a (.int .u64 v)=Gv (ws.set a v):=by
 rw[OX];simp[Gv,List.map_set]
theorem gp{a:Nat}(h:a<ws.length):Qb (Gv ws) a=some (.int .u64 (ws.getD a 0)):=by
 rw[FO];simp[Gv,h]
theorem Hh:List.replicate n (Value.int .u64 0)=Gv (List.replicate n 0):=by simp[Gv]
theorem Hi{a:Int}(h:a.toNat<ws.length):Qb (Gv ws) (0+a.toNat*1)=some (.int .u64 (ws.getD a.toNat 0)):=by
 rw[show 0+a.toNat*1=a.toNat by omega];exact gp h
theorem gq: ∀(H1:List Bk) {H2:List Bk} {b t:Nat} {cs:List Value} (f:List Value→List Value),YG (H1++⟨b,t,cs⟩::H2) b f (H1++⟨b,t,f cs⟩::H2)
 |[],_,_,_,_,_=> .z
 |x::H1,_,_,_,_,f=> .s (gq H1 f)
theorem Hj: ∀(H1:List Bk) {H2:List Bk} {b t:Nat} {cs:List Value},In b cs (H1++⟨b,t,cs⟩::H2)
 |[],_,_,_,_=> .z
 |x::H1,_,_,_,_=> .s (Hj H1)
end
section
variable{lo:Nat→Bool}{d:Option Nat}{gd:Option (Nat×Bool)}{x:Operand}
end
end Go.Proofs.YtmpcfamcbaineaaGreat.Mo
