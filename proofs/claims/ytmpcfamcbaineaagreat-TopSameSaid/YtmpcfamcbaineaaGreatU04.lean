/- Part 4 of the proof of the row of the law TopSame: contracts of what it reaches, and the plain law. No condition. -/
import Derived.Test.YtmpcfamcbaineaaGreatU03
set_option linter.all false
set_option maxHeartbeats 8000000
set_option maxRecDepth 100000
open Go.RowKit
namespace Go.Proofs.YtmpcfamcbaineaaGreat.Mo
variable{d n i j t id f ty:Nat}{e:GZ}{v nv av:Value}{C:Cx}{l l':Dk}{K:(World→Prop)→GZ→Prop}{Q:Exit→Act→World→Prop}{Aq:Array Oper}{ef:Nat→Bool}{r:List Nat}{S:World→Prop}{w0:World}{D0:LV}{H H' Hx:List Bk}{args vs:List Value}{fn:Func}{U:List (Nat×Value)}{ps:String}{af:Array Edge}{RN:BB}{M:Bz}
def Xk{α:Type}:List (Nat×α)→Nat→Option α
 |[],_=>none
 |(k,a)::l,t=>bif Nat.beq k t then some a else Xk l t
theorem RY{α:Type}: ∀{l:List (Nat×α)} {t:Nat} {a:α},Xk l t=some a→(t,a)∈l
 |[],_,_,h=>nomatch h
 |(k,b)::l,t,a,h=>by
  have h':(bif Nat.beq k t then some b else Xk l t)=some a:=h;cases hb:Nat.beq k t with
  |true=>
   rw[hb] at h';rw[←Option.some.inj h',Nat.eq_of_beq_eq_true hb];exact List.mem_cons_self ..
  |false=>
   rw[hb] at h';exact List.mem_cons_of_mem _ (RY h')
def aY:List Nat→Nat→Bool
 |[],_=>false
 |k::l,t=>bif Nat.beq k t then true else aY l t
theorem UH: ∀{l:List Nat} {t:Nat},aY l t=true→t∈l
 |[],_,h=>nomatch h
 |k::l,t,h=>by
  have h':(bif Nat.beq k t then true else aY l t)=true:=h;cases hb:Nat.beq k t with
  |true=>rw[Nat.eq_of_beq_eq_true hb];exact List.mem_cons_self ..
  |false=>rw[hb] at h';exact List.mem_cons_of_mem _ (UH h')
def M3:List Nat:=[3,83,130,39,90,41,54,66,4,126,171,131,53,43,179,180,27,129,139,77,115,78,191,25,75,225,120,1,5,73,118,123,128,46,47,204,81,138,145,226]
def zG:List (Nat×Nat):=[(22,5),(24,12),(33,5),(38,2),(49,14),(56,3),(58,5),(60,12),(65,4),(122,3),(147,3),(172,14),(185,4),(224,2),(252,3)]
def px:List Nat:=[25,41,43,46,47,53,54,66,77,78,142]
def py:List Nat:=[29,39,73,75,81,83,118,126,128,129,163,179,180,191,208,225,226]
def u0:List (Nat×List (Nat×Nat)):=[(133,[(0,0),(1,1),(2,2),(3,3),(4,7),(5,8),(6,9),(7,10),(8,11),(9,12),(10,13),(11,14),(12,15),(13,16),(14,21)]),(33,[(0,0),(1,1),(2,2),(3,3),(4,4)]),(24,[(0,0),(1,5),(2,6),(3,7),(4,8),(5,9),(6,10),(7,11)]),(117,[(0,0),(1,1),(2,2),(3,3),(4,4)]),(182,[(0,0),(1,1),(2,2),(3,5),(4,6),(5,7),(6,8),(7,9),(8,10)]),(220,[(0,0),(1,4),(2,5),(3,6),(4,7),(5,8),(6,9)]),(201,[(0,0),(1,1),(2,2),(3,3),(4,4),(5,5),(6,6),(7,7),(8,8),(9,9),(10,10),(11,11),(12,12),(13,17)]),(228,[(0,0),(1,1),(2,2),(3,3),(4,4),(5,5),(6,7),(7,8),(8,9),(9,10),(10,11),(11,16)]),(193,[(0,0),(1,1),(2,2),(3,3),(4,4),(5,5),(6,6),(7,7),(8,12)]),(58,[(0,0),(1,3),(2,4)]),(237,[(0,0),(1,1),(2,2),(3,3),(4,4),(5,5)]),(56,[(0,0),(1,1),(2,2)]),(235,[(0,0),(1,1),(2,2),(3,3),(4,4),(5,9)]),(65,[(0,0),(1,1),(2,2),(3,3)]),(80,[(0,0),(1,1),(2,2),(3,3),(4,4),(5,5)]),(109,[(0,0),(1,9),(2,21),(3,22)]),(125,[(0,0),(1,1),(2,2),(3,3),(4,4),(5,5),(6,8),(7,9),(8,10),(9,15)]),(248,[(0,0),(1,1),(2,2),(3,3),(4,4),(5,5),(6,6)]),(38,[(0,0),(1,1)]),(107,[(0,0),(1,1),(2,2),(3,3),(4,4),(5,5),(6,6),(7,7),(8,8)]),(254,[(0,0),(1,3),(2,4),(3,5)]),(49,[(0,0),(1,12),(2,13)]),(166,[(0,0),(1,1)]),(262,[(0,0),(1,1),(2,2),(3,3),(4,4),(5,5)]),(122,[(0,0),(1,1),(2,2)]),(185,[(0,0),(1,1),(2,2),(3,3)]),(141,[(0,0)]),(252,[(0,0),(1,1),(2,2)]),(224,[(0,0),(1,1)]),(60,[(0,0),(2,6),(6,10)]),(147,[(0,0),(1,1),(2,2)]),(113,[(0,0)])]
theorem XW(h:aY M3 t=true):one t=true:=List.all_eq_true.1 (show M3.all one=true by kernel_rfl) _ (UH h)
theorem UJ{k:Nat}(h:Xk zG t=some k):Bq t k=true:=by
 have h0:(zG.all fun p=>Bq p.1 p.2)=true:=by kernel_rfl
 have h1:=List.all_eq_true.1 h0 (t,k) (RY h);exact h1
theorem eJ(h:aY px t=true):Ec t JU=true:=List.all_eq_true.1 (show(px.all fun t=>Ec t JU)=true by kernel_rfl) _ (UH h)
theorem eK(h:aY py t=true):Ec t YL=true:=List.all_eq_true.1 (show(py.all fun t=>Ec t YL)=true by kernel_rfl) _ (UH h)
def eL(s f:Nat):Option Nat:=match Xk u0 s with
 |some m=>Xk m f
 |none=>none
theorem M4{s k:Nat}(h:eL s f=some k):Pm s f k=true:=by
 unfold eL at h;split at h
 ·rename_i m hm;have h0:(u0.all fun p=>p.2.all fun q=>Pm p.1 q.1 q.2)=true:=by kernel_rfl
  have h1:=List.all_eq_true.1 h0 (s,m) (RY hm);have h2:=List.all_eq_true.1 h1 (f,k) (RY h);exact h2
 cases h
def bt(m i:Nat):Bool:=Nat.beq (Nat.mod (Nat.div m (Nat.pow 2 i)) 2) 1
def qv(e:GZ):Op→Option Value
 | .move x=>EF e x
 | .assign x=>EF e x
 | .nilCheck x=>match EF e x with
  |some (.pointer (some a))=>some (.pointer (some a))
  |_=>none
 | .fieldAddr s x f=>match EF e x with
  |some (.pointer (some ⟨b,off,none⟩))=>match eL s f with
   |some k=>some (.pointer (some ⟨b,off+k,none⟩))
   |none=>none
  |_=>none
 | .makeFunc fn a b=>match GV e a.toList with
  |some vs=>match GV e b.toList with
   |some us=>some (.func fn vs.toArray us.toArray)
   |none=>none
  |none=>none
 | .pick z x y=>match EF e z with
  |some (.bool true)=>EF e x
  |some (.bool false)=>EF e y
  |_=>none
 | .extract x j=>match EF e x with
  |some (.tuple ⟨vs⟩)=>Qb vs j
  |_=>none
 | .unOp .not _ x=>match EF e x with
  |some (.bool true)=>some (.bool false)
  |some (.bool false)=>some (.bool true)
  |_=>none
 | .binOp op t x y _=>match EF e x with
  |some (.int k a)=>match EF e y with
   |some (.int k' b)=>match zB op with
    |true=>if k=k' then some (.bool (TR op a b)) else none
    |false=>none
   |_=>none
  |some (.pointer (some _))=>match EF e y with
   |some (.pointer none)=>match op with
    | .eql=>match aY py t with
     |true=>some (.bool false)
     |false=>none
    |_=>none
   |_=>none
  |_=>none
 | .call ⟨.builtin .len,a,⟨[t]⟩⟩=>match GV e a.toList with
  |some [.slice _ n _]=>match aY px t with
   |true=>some (.int .i64 n)
   |false=>none
  |_=>none
 |_=>none
theorem Ww{lo:Nat→Bool}{op:Op}{d:Option Nat}{gd:Option (Nat×Bool)}(hq:qv e op=some v)
  (ho:Aq[i]?=some ⟨d,op,ty,ps,af,gd⟩) (hef:ef i=false) (hw:BA Aq ⟨d,op,ty,ps,af,gd⟩ e=true) (h:X Tryz.prog Aq lo ef K r S (bif lo i then(i,v)::U else U) (Dz d v e)):X Tryz.prog Aq lo ef K (i::r) S U e:=by
 unfold qv at hq;split at hq
 ·exact NC (yU ho (QR hef hw) hq) h
 ·exact xas (yU ho (QR hef hw) hq) h
 ·split at hq
  ·rename_i hx;cases hq;exact xnc (yU ho (QR hef hw) hx) h
  cases hq
 ·split at hq
  ·rename_i hx;split at hq
   ·rename_i hk;cases hq;exact uG (yU ho (QR hef hw) hx) (M4 hk) h
   cases hq
  cases hq
 ·split at hq
  ·rename_i h1;split at hq
   ·rename_i h2;cases hq;exact xmf (A9 ho (QR hef hw) h1 h2) h
   cases hq
  cases hq
 ·split at hq
  ·rename_i hz;exact Hz (A9 ho (QR hef hw) hz (by rw[if_pos rfl];exact CY hq)) h
  ·rename_i hz;exact Hz (A9 ho (QR hef hw) hz (by rw[if_neg Bool.false_ne_true];exact CY hq)) h
  cases hq
 ·split at hq
  ·rename_i hx;exact xex (A9 ho (QR hef hw) hx hq) h
  cases hq
 ·split at hq
  ·rename_i hx;cases hq;exact QO ho (QR hef hw) hx h
  ·rename_i hx;cases hq;exact QO ho (QR hef hw) hx h
  cases hq
 ·split at hq
  ·rename_i hx;split at hq
   ·rename_i hy;split at hq
    ·rename_i hc;split at hq
     ·rename_i hk;subst hk;cases hq;exact Du (mk5 ho (QR hef hw) hx hy hc) rfl h
     cases hq
    cases hq
   cases hq
  ·rename_i hx;split at hq
   ·rename_i hy;split at hq
    ·split at hq
     ·rename_i ht;cases hq;exact xnp (A9 ho (QR hef hw) hx hy) (eK ht) h
     cases hq
    cases hq
   cases hq
  cases hq
 ·split at hq
  ·rename_i ha;split at hq
   ·rename_i ht;cases hq;exact aV (yU ho (QR hef hw) ha) (eJ ht) h
   cases hq
  cases hq
 cases hq
def pk{β:Type}(d:Option Nat)(v:Value)(e:GZ)(K:GZ→β):β:=match d with
 |some t=>K ((t,v)::e)
 |none=>K e
theorem Xl{β:Type}{d:Option Nat}{K:GZ→β}:pk d v e K=K (Dz d v e):=by cases d<;>rfl
def uk{β:Type}(b:Bool)(x:Nat×Value)(U:List (Nat×Value))(K:List (Nat×Value)→β):β:=match b with
 |true=>K (x::U)
 |false=>K U
theorem Xm{β:Type}{b:Bool}{x:Nat×Value}{K:List (Nat×Value)→β}:uk b x U K=K (bif b then x::U else U):=by cases b<;>rfl
def hk:List Bk→Nat→Option Bk
 |[],_=>none
 |x::_,0=>some x
 |_::H,k+1=>hk H k
theorem UK: ∀{H:List Bk} {k:Nat} {b t:Nat} {cs:List Value},hk H k=some ⟨b,t,cs⟩→In b cs H
 |_::_,0,_,_,_,h=>by cases h;exact .z
 |_::_,_+1,_,_,_,h=> .s (UK h)
def M5{β:Type}:List Bk→Nat→List Value→(List Bk→Option β)→Option β
 |[],_,_,_=>none
 |⟨b,t,_⟩::H,0,cs,K=>K (⟨b,t,cs⟩::H)
 |x::H,k+1,cs,K=>M5 H k cs fun H'=>K (x::H')
theorem UL{β:Type}{f:List Value→List Value}{z:β}: ∀{H:List Bk} {k:Nat} {b t:Nat} {cs:List Value} {K:List Bk→Option β},hk H k=some ⟨b,t,cs⟩→M5 H k (f cs) K=some z→ ∃H',YG H b f H'∧K H'=some z
 |⟨_,_,_⟩::_,0,_,_,_,_,h,hz=>by cases h;exact⟨_,.z,hz⟩
 |_::H,k+1,_,_,_,K,h,hz=>by
  obtain⟨H',h1,h2⟩:=UL (H:=H) (k:=k) h hz;exact⟨_,.s h1,h2⟩
def M6{β:Type}:List Value→Nat→Value→(List Value→Option β)→Option β
 |[],_,_,_=>none
 |_::cs,0,v,K=>K (v::cs)
 |c::cs,k+1,v,K=>M6 cs k v fun cs'=>K (c::cs')
theorem XX{β:Type}{z:β}{v:Value}: ∀{cs:List Value} {k:Nat} {K:List Value→Option β},M6 cs k v K=some z→K (NL cs k v)=some z
 |_::_,0,_,h=>h
 |_::cs,k+1,_,h=>XX (cs:=cs) (k:=k) h
def Cq{β:Type}:List Value→Nat→List Value→(List Value→Option β)→Option β
 |cs,_,[],K=>K cs
 |cs,o,v::vs,K=>M6 cs o v fun cs'=>Cq cs' (o+1) vs K
theorem YQ{β:Type}{z:β}: ∀{cs:List Value} {o:Nat} {vs:List Value} {K:List Value→Option β},Cq cs o vs K=some z→K (Jb cs o vs)=some z
 |_,_,[],_,h=>h
 |_,_,_::vs,_,h=>YQ (vs:=vs) (XX h)
def hp{β:Type}(hs:List Nat)(K:Nat→List Nat→β):β:=match hs with
 |[]=>K 0 []
 |h::t=>K h t
theorem dM{β:Type}{hs:List Nat}{K:Nat→List Nat→β}:hp hs K=K (hs.headD 0) hs.tail:=by cases hs<;>rfl
inductive Xs
 |t (r:List Code)
 |x (Aq:Array Oper) (lo ef:Nat→Bool) (o:List Nat) (U:List (Nat×Value)) (r:List Code)
abbrev XR:=Option (Xs×List Bk×GZ×List Nat×List Nat)
def Cr(n:Nat)(hs:List Nat)(s:Xs)(H:List Bk)(e:GZ)(p q:List Nat)(K:List Nat→Xs→List Bk→GZ→List Nat→List Nat→XR):XR:=
 match s with
 | .t (.seq x y::r)=>K hs (.t (x::y::r)) H e p q
 | .t (.skip::r)=>K hs (.t r) H e p q
 | .t (.cond c x y::r)=>match ev e c with
  | .bool true=>K hs (.t (x::r)) H e p q
  | .bool false=>K hs (.t (y::r)) H e p q
  |_=>none
 | .t (.region _ Aq false::r)=>match nZ Aq n with
  |true=>hp hs fun k hs=>K hs (.x Aq (fun _=>false) (bt k) (List.range Aq.size) [] r) H e p q
  |false=>none
 | .x _ _ _ [] _ r=>K hs (.t r) H e p q
 | .x Aq lo ef (i::o) U r=>match Aq[i]? with
  |some ⟨d,op,ty,ps,af,gd⟩=>match ef i with
   |false=>match BA Aq ⟨d,op,ty,ps,af,gd⟩ e with
    |false=>uk (lo i) (i,undef) U fun U=>pk d undef e fun e=>K hs (.x Aq lo ef o U r) H e p q
    |true=>match op with
     | .load t x=>match EF e x with
      |some (.pointer (some ⟨b,off,none⟩))=>hp hs fun k hs=>match hk H k with
       |some ⟨b',_,cs⟩=>match aY M3 t with
        |true=>match Qb cs off with
         |some v=>uk (lo i) (i,v) U fun U=>pk d v e fun e=>K hs (.x Aq lo ef o U r) H e (b::p) (b'::q)
         |none=>none
        |false=>match Xk zG t with
         |some m=>match Nat.beq (OQ cs off m).length m with
          |true=>uk (lo i) (i,.agg (OQ cs off m).toArray) U fun U=>pk d (.agg (OQ cs off m).toArray) e fun e=>K hs (.x Aq lo ef o U r) H e (b::p) (b'::q)
          |false=>none
         |none=>none
       |none=>none
      |_=>none
     |op=>match qv e op with
      |some v=>uk (lo i) (i,v) U fun U=>pk d v e fun e=>K hs (.x Aq lo ef o U r) H e p q
      |none=>none
   |true=>match U with
    |[]=>match d with
     |none=>match gd with
      |none=>match op with
       | .store t x y=>match EF e x with
        |some (.pointer (some ⟨b,off,none⟩))=>hp hs fun k hs=>match hk H k with
         |some ⟨b',_,cs⟩=>match aY M3 t with
          |true=>match EF e y with
           |some v=>match BL v with
            |true=>match Qb cs off with
             |some _=>M6 cs off v fun cs=>M5 H k cs fun H'=>K hs (.x Aq lo ef o [] r) H' e (b::p) (b'::q)
             |none=>none
            |false=>none
           |none=>none
          |false=>match Xk zG t with
           |some m=>match EF e y with
            |some (.agg ⟨vs⟩)=>match Nat.beq vs.length m&&vs.all BL&&Nat.ble (off+m) cs.length with
             |true=>Cq cs off vs fun cs=>M5 H k cs fun H'=>K hs (.x Aq lo ef o [] r) H' e (b::p) (b'::q)
             |false=>none
            |_=>none
           |none=>none
         |none=>none
        |_=>none
       |_=>none
      |some _=>none
     |some _=>none
    |_::_=>none
  |none=>none
 |_=>none
def YR(n:Nat):Nat→List Nat→Xs→List Bk→GZ→List Nat→List Nat→XR
 |0,_,s,H,e,p,q=>some (s,H,e,p,q)
 |k+1,hs,s,H,e,p,q=>Cr n hs s H e p q (YR n k)
theorem CE{A:Sort _}{S:A→World→Prop}(a:A):Eh Aq j [] (S a) e:=Aw
theorem JH{A:Sort _}{B:A→Sort _}{S:(a:A)→B a→World→Prop}(a:A)(b:B a):Eh Aq j [] (S a b) e:=Aw
section
variable{R:BB}{r r':List Code}{e':GZ}[Inhabited (List Deferred)]{p':List Nat}
def Gx[Inhabited (List Deferred)](Q:Exit→Act→World→Prop)(n:Nat)(C:Cx)(w0:World)(D0:LV)(l:Dk)(R:BB):Xs→List Bk→GZ→Prop
 | .t r,H,e=>T Q n r (Sy C w0 D0 l H R) e
 | .x Aq lo ef o U r,H,e=>X Tryz.prog Aq lo ef (fun S e=>T Q n r S e) o (Sy C w0 D0 l H R) U e
theorem iI{s':Xs}{K:List Nat→Xs→List Bk→GZ→List Nat→List Nat→XR}(hK: ∀hs s H e p q,K hs s H e p q=some (s',H',e',p',p')→p=q∧(Gx Q n C w0 D0 l R s' H' e'→Gx Q n C w0 D0 l R s H e)){hs:List Nat}{s:Xs}{p q:List Nat}(h:Cr n hs s H e p q K=some (s',H',e',p',p')):p=q∧(Gx Q n C w0 D0 l R s' H' e'→Gx Q n C w0 D0 l R s H e):=by
 unfold Cr at h;split at h
 ·exact⟨(hK _ _ _ _ _ _ h).1,fun g=>T.seq ((hK _ _ _ _ _ _ h).2 g)⟩
 ·exact⟨(hK _ _ _ _ _ _ h).1,fun g=>T.skip ((hK _ _ _ _ _ _ h).2 g)⟩
 ·split at h
  ·rename_i hc;exact⟨(hK _ _ _ _ _ _ h).1,fun g=>T.sY hc ((hK _ _ _ _ _ _ h).2 g)⟩
  ·rename_i hc;exact⟨(hK _ _ _ _ _ _ h).1,fun g=>T.no hc ((hK _ _ _ _ _ _ h).2 g)⟩
  cases h
 ·split at h
  ·rename_i hd;rw[dM] at h;exact⟨(hK _ _ _ _ _ _ h).1,fun g=>T.eB hd rfl ((hK _ _ _ _ _ _ h).2 g)⟩
  cases h
 ·exact⟨(hK _ _ _ _ _ _ h).1,fun g=>(hK _ _ _ _ _ _ h).2 g⟩
 ·split at h
  ·rename_i ho;split at h
   ·rename_i hef;split at h
    ·rename_i hw;rw[Xm,Xl] at h;exact⟨(hK _ _ _ _ _ _ h).1,fun g=>Cg (yU ho hef hw) ((hK _ _ _ _ _ _ h).2 g)⟩
    rename_i hw;split at h
    ·split at h
     ·rename_i hx;rw[dM] at h;split at h
      ·rename_i hh;split at h
       ·rename_i h1;split at h
        ·rename_i hv;rw[Xm,Xl] at h;have a1:=(hK _ _ _ _ _ _ h).1;simp only[List.cons.injEq] at a1;obtain⟨rfl,a2⟩:=a1;exact⟨a2,fun g=>JY (yU ho (QR hef hw) hx) (XW h1) (UK hh) hv ((hK _ _ _ _ _ _ h).2 g)⟩
        cases h
       split at h
       ·rename_i hm;split at h
        ·rename_i hn;rw[Xm,Xl] at h;have a1:=(hK _ _ _ _ _ _ h).1;simp only[List.cons.injEq] at a1;obtain⟨rfl,a2⟩:=a1;exact⟨a2,fun g=>qx (yU ho (QR hef hw) hx) (UJ hm) (UK hh) (Nat.eq_of_beq_eq_true hn) ((hK _ _ _ _ _ _ h).2 g)⟩
        cases h
       cases h
      cases h
     cases h
    split at h
    ·rename_i hv;rw[Xm,Xl] at h;exact⟨(hK _ _ _ _ _ _ h).1,fun g=>Ww hv ho hef hw ((hK _ _ _ _ _ _ h).2 g)⟩
    cases h
   rename_i hef;split at h
   ·split at h
    ·split at h
     ·split at h
      ·split at h
       ·rename_i hx;rw[dM] at h;split at h
        ·rename_i hh;split at h
         ·rename_i h1;split at h
          ·rename_i hy;split at h
           ·rename_i hc;split at h
            ·rename_i hv;obtain⟨H2,hu,h2⟩:=UL (f:=fun cs=>NL cs _ _) hh (XX h);have a1:=(hK _ _ _ _ _ _ h2).1;simp only[List.cons.injEq] at a1;obtain⟨rfl,a2⟩:=a1;exact⟨a2,fun g=>KQ (A9 ho hef hx hy) (XW h1) hc (UK hh) hv hu Aw ((hK _ _ _ _ _ _ h2).2 g)⟩
            cases h
           cases h
          cases h
         split at h
         ·rename_i hm;split at h
          ·rename_i hy;split at h
           ·rename_i hc;simp only[Bool.and_eq_true] at hc;obtain⟨⟨c1,c2⟩,c3⟩:=hc;obtain⟨H2,hu,h2⟩:=UL (f:=fun cs=>Jb cs _ _) hh (YQ h);have a1:=(hK _ _ _ _ _ _ h2).1;simp only[List.cons.injEq] at a1;obtain⟨rfl,a2⟩:=a1;exact⟨a2,fun g=>H9 (A9 ho hef hx hy) (UJ hm) (Nat.eq_of_beq_eq_true c1) c2 (UK hh) (Nat.le_of_ble_eq_true c3) hu Aw ((hK _ _ _ _ _ _ h2).2 g)⟩
           cases h
          cases h
         cases h
        cases h
       cases h
      cases h
     cases h
    cases h
   cases h
  cases h
 cases h
theorem Lt{s':Xs}: ∀(k:Nat) (hs:List Nat) (s:Xs) (H:List Bk) (e:GZ) (p q:List Nat),YR n k hs s H e p q=some (s',H',e',p',p')→p=q∧(Gx Q n C w0 D0 l R s' H' e'→Gx Q n C w0 D0 l R s H e)
 |0,_,_,_,_,_,_,h=>by cases h;exact⟨rfl,id⟩
 |k+1,_,_,_,_,_,_,h=>iI (fun hs s H e p q=>Lt k hs s H e p q) h
variable{ops':Array Oper}{lo lo' XY:Nat→Bool}{o o':List Nat}{U':List (Nat×Value)}
theorem CW(k:Nat)(hs:List Nat)(hz:YR n k hs (.t r) H e [] []=some (.t r',H',e',p',p'))(h:T Q n r' (Sy C w0 D0 l H' R) e'):T Q n r (Sy C w0 D0 l H R) e:=(Lt k hs _ _ _ _ _ hz).2 h
theorem AZ(k:Nat)(hs:List Nat)(hz:YR n k hs (.t r) H e [] []=some (.x ops' lo' XY o' U' r',H',e',p',p'))(h:X Tryz.prog ops' lo' XY (fun S e=>T Q n r' S e) o' (Sy C w0 D0 l H' R) U' e'):T Q n r (Sy C w0 D0 l H R) e:=(Lt k hs _ _ _ _ _ hz).2 h
theorem AY(k:Nat)(hs:List Nat)(hz:YR n k hs (.x Aq lo ef o U r) H e [] []=some (.t r',H',e',p',p'))(h:T Q n r' (Sy C w0 D0 l H' R) e'):X Tryz.prog Aq lo ef (fun S e=>T Q n r S e) o (Sy C w0 D0 l H R) U e:=(Lt k hs _ _ _ _ _ hz).2 h
theorem AP(k:Nat)(hs:List Nat)(hz:YR n k hs (.x Aq lo ef o U r) H e [] []=some (.x ops' lo' XY o' U' r',H',e',p',p'))(h:X Tryz.prog ops' lo' XY (fun S e=>T Q n r' S e) o' (Sy C w0 D0 l H' R) U' e'):X Tryz.prog Aq lo ef (fun S e=>T Q n r S e) o (Sy C w0 D0 l H R) U e:=(Lt k hs _ _ _ _ _ hz).2 h
end
section
variable{R:BB}{r:List Code}[Inhabited (List Deferred)]{x y z:Bk}
theorem Ey(k lo ef:Nat)(hck:Bm Aq n (List.range k) (bt lo) (bt ef)=true)(h:X Tryz.prog Aq (bt lo) (bt ef) (fun S e=>T Q n r S e) (List.range k) (Sy C w0 D0 l H R) [] e):T Q n (.region id Aq true::r) (Sy C w0 D0 l H R) e:=T.any hck (fun _ h=>h.drew) h
theorem Br(o:List Nat)(lo ef:Nat)(hck:Bm Aq n o (bt lo) (bt ef)=true)(h:X Tryz.prog Aq (bt lo) (bt ef) (fun S e=>T Q n r S e) o (Sy C w0 D0 l H R) [] e):T Q n (.region id Aq true::r) (Sy C w0 D0 l H R) e:=T.any hck (fun _ h=>h.drew) h
theorem Gu(hl:CV R)(h:T Q n r (Sy C w0 D0 l [x] R) e):T Q n r (Sy C w0 D0 l [] (Az [x] R)) e:=T.conv (fun _ h=>Sy.opens (H2:=[x]) h hl) h
theorem dN(hl:CV R)(h:T Q n r (Sy C w0 D0 l [x,y] R) e):T Q n r (Sy C w0 D0 l [] (Az [x,y] R)) e:=T.conv (fun _ h=>Sy.opens (H2:=[x,y]) h hl) h
theorem iJ(hl:CV R)(h:T Q n r (Sy C w0 D0 l [x,y,z] R) e):T Q n r (Sy C w0 D0 l [] (Az [x,y,z] R)) e:=T.conv (fun _ h=>Sy.opens (H2:=[x,y,z]) h hl) h
theorem VY(hl:CV R)(h:T Q n r (Sy C w0 D0 l (x::Hx) R) e):T Q n r (Sy C w0 D0 l [] (Az (x::Hx) R)) e:=T.conv (fun _ h=>Sy.opens (H2:=x::Hx) h hl) h
end
theorem Ci{R:BB}{c:Code}{Q:Value→Dk→BB}(n:Nat)(hf:Tryz.prog.funcs[f]?=some fn)(hz:(fn.body,fn.ntmps,Nat.ble vs.length n)=(some c,n,true))(hl:CV R)
  (h: ∀w0 D0,T (bodyPost Tryz.prog fn (Tj C w0 D0 Q)) n [c] (Sy C w0 D0 l [] R) (Bn 0 vs)):Ct C f vs.toArray l R Q:=by
 simp only[Prod.mk.injEq] at hz;exact Ct.of hf hz.1 hz.2.1 (Nat.le_of_ble_eq_true hz.2.2) hl h
theorem u1(a b:Int)(w:World)(k:Nat):(Op.equalIn (k+1) 90 (.int .u64 a) (.int .u64 b)).run Tryz.prog w= .ok (a==b) w:=by
 have hu:(underlying 90).run Tryz.prog w= .ok (.int .u64) w:=by kernel_rfl
 unfold Op.equalIn;rw[Sem.run_bind,hu];simp[go_sem]
theorem u3(a b:Int)(w:World)(k:Nat):(Op.equalIn (k+2) 256 (.agg #[.int .u64 a,.int .u64 0]) (.agg #[.int .u64 b,.int .u64 0])).run Tryz.prog w= .ok (a==b) w:=by
 have hu:(underlying 256).run Tryz.prog w= .ok (.array 2 90) w:=by kernel_rfl
 have hs:(sizeOf 90).run Tryz.prog w= .ok 1 w:=by kernel_rfl
 have hp0: ∀a,(part 90 #[.int .u64 a,.int .u64 0] 0).run Tryz.prog w= .ok (.int .u64 a) w:=fun a=>by kernel_rfl
 have hp1: ∀a,(part 90 #[.int .u64 a,.int .u64 0] 1).run Tryz.prog w= .ok (.int .u64 0) w:=fun a=>by kernel_rfl
 have h1:=u1 a b w k;have h2:=u1 0 0 w k;unfold Op.equalIn;rw[Sem.run_bind,hu];simp only[Result.andThen_ok,Sem.run_bind,hs];simp[Std.Legacy.Range.forIn_eq_forIn_range',List.range',hp0,hp1,h1,h2];by_cases h:a=b<;>simp[h]
theorem qy(a b:Int)(w:World):(binOp .eql 256 (.agg #[.int .u64 a,.int .u64 0]) (.agg #[.int .u64 b,.int .u64 0])).run Tryz.prog w= .ok (.bool (a==b)) w:=by
 have:=u3 a b w 9998;have h2:(Op.equal 256 (.agg #[.int .u64 a,.int .u64 0]) (.agg #[.int .u64 b,.int .u64 0])).run Tryz.prog w= .ok (a==b) w:=this;simp only[binOp,Sem.run_bind,h2,Result.andThen_ok,Sem.run_pure]
theorem RZ(n:Int)(h₀:0≤n)(h₁:n<2^64):IntKind.u64.wrap n=n:=by rw[IntKind.wrap_u64];omega
theorem u4(x:Int)(h:0≤x∧x≤18446744073709551615):bits .and .u64 x 4294967295=x % 4294967296:=bits_mask .u64 64 (by decide) RZ 32 (by decide) x h.1 (by omega)
theorem qa(x:Int)(h:0≤x∧x≤18446744073709551615):bits .and .u64 x 7=x % 8:=bits_mask .u64 64 (by decide) RZ 3 (by decide) x h.1 (by omega)
theorem qb(a b:Int)(ha:0≤a∧a≤4294967295)(hb:0≤b∧b≤4294967295):bits .or .u64 (a*4294967296) b=a*4294967296+b:=
 bits_join .u64 64 (by decide) RZ 32 (a*4294967296) b (by omega) (by omega) (by omega) (by omega) (by omega) (by omega)
theorem or3(a b:Int)(ha:0≤a∧a≤18446744073709551615)(h8:a % 8=0)(hb:0≤b∧b≤7):bits .or .u64 a b=a+b:=
 bits_join .u64 64 (by decide) RZ 3 a b (by omega) (by omega) (by omega) (by omega) (by omega) (by omega)
theorem TS{x:Int}(h:0≤x∧x≤18446744073709551615):0≤hi x∧hi x≤4294967295:=by unfold hi;omega
theorem KF(x:Int):0≤lo x∧lo x≤4294967295:=by unfold lo;omega
theorem Oz{a b:Int}(ha:0≤a∧a≤4294967295)(hb:0≤b∧b≤4294967295):0≤pair a b∧pair a b≤18446744073709551615:=by unfold pair;omega
theorem Kv(x:Int):0≤NR x∧NR x≤4294967295:=by unfold NR;omega
theorem TT(w:World)(h l:Int)(hh:0≤h∧h≤4294967295)(hl:0≤l∧l≤4294967295):Calls Tryz.prog 53 #[.int .u32 h,.int .u32 l] w fun e w'=>e= .returned (.int .u64 (pair h l))∧w'=w:=by
 have H:=Aside0.mk (qb h l hh hl);go_enter Tryz.func53,Tryz.ntmps53;go_wp2;go_ret;refine⟨?_,rfl⟩;show Ending.returned (Value.int .u64 (bits .or .u64 (h*4294967296) l))=_;rw[H.out];rfl
theorem iK(w:World)(x:Int)(hx:0≤x∧x≤18446744073709551615):Calls Tryz.prog 102 #[.int .u64 x,.int .i64 32] w fun e w'=>e= .returned (.tuple #[.int .u64 (hi x),.int .u64 (lo x)])∧ ∃n,w'=w.drewN n:=by
 have H:=Aside0.mk (u4 x hx);go_enter Tryz.func102,Tryz.ntmps102;go_wp2
 go_quiet (fail)
 go_wp2
 go_ret2
 refine⟨?_,nq,rfl⟩;show Ending.returned (Value.tuple #[.int .u64 (x/4294967296),.int .u64 (bits .and .u64 x 4294967295)])=_;rw[H.out];rfl
theorem Xn(w:World)(x:Int)(hx:0≤x∧x≤18446744073709551615):Calls Tryz.prog 102 #[.int .u64 x,.int .i64 3] w fun e w'=>e= .returned (.tuple #[.int .u64 (x/8),.int .u64 (x % 8)])∧ ∃n,w'=w.drewN n:=by
 have H:=Aside0.mk (qa x hx);go_enter Tryz.func102,Tryz.ntmps102;go_wp2
 go_quiet (fail)
 go_wp2
 go_ret2
 refine⟨?_,nq,rfl⟩;show Ending.returned (Value.tuple #[.int .u64 (x/8),.int .u64 (bits .and .u64 x 7)])=_;rw[H.out]
theorem Xo(w:World)(x:Int)(hx:0≤x∧x≤18446744073709551615):Calls Tryz.prog 144 #[.int .u64 x] w fun e w'=>e= .returned (.tuple #[.int .u32 (hi x),.int .u32 (lo x)])∧ ∃n,w'=w.drewN n:=by
 have h1:=TS hx;have h2:=KF x;have H:=Aside0.mk hx;clear hx;go_enter Tryz.func144,Tryz.ntmps144;go_wp2_with fail;refine(iK _ x H.out).mono ?_;rintro e w1 ⟨rfl,n,rfl⟩;generalize hA:hi x=a at*
 generalize hB:lo x=b at*
 have HA:=Aside0.mk hA;have HB:=Aside0.mk hB;clear hA hB;go_wp2
 go_ret2
 refine⟨?_,n,rfl⟩;rw[HA.out,HB.out];rfl
theorem oI(w:World)(x:Int)(hx:0≤x∧x≤18446744073709551615):Calls Tryz.prog 82 #[.int .u64 x] w fun e w'=>e= .returned (.tuple #[.int .u64 (x/8),.int .i64 (x % 8)])∧ ∃n,w'=w.drewN n:=by
 have h2:0≤x % 8∧x % 8≤7:=by omega
 have H:=Aside0.mk hx;clear hx;go_enter Tryz.func82,Tryz.ntmps82;go_wp2_with fail;refine(Xn _ x H.out).mono ?_;rintro e w1 ⟨rfl,n,rfl⟩;generalize hA:x/8=a at*
 generalize hB:x % 8=b at*
 have HA:=Aside0.mk hA;have HB:=Aside0.mk hB;clear hA hB;go_wp2
 go_ret2
 refine⟨?_,n,rfl⟩;rw[HA.out,HB.out];rfl
theorem vJ(w:World)(x l:Int)(hx:0≤x∧x≤18446744073709551615)(hl:0≤l∧l≤4294967295):Calls Tryz.prog 207 #[.int .u64 x,.int .u32 l] w fun e w'=>e= .returned (.int .u64 (Bg x l))∧ ∃n,w'=w.drewN n:=by
 have h1:=TS hx;have h2:=KF x;have h3:=Kv (hi x+1);have H:=Aside0.mk hx;have H3:=Aside0.mk (show Bg x l=pair (NR (hi x+1)) l from rfl);have H4:=Aside0.mk (show IntKind.u32.wrap (hi x+1)=NR (hi x+1) from IntKind.wrap_u32 _);clear hx;go_enter Tryz.func207,Tryz.ntmps207;go_wp2_with fail;refine(Xo _ x H.out).mono ?_;rintro e w1 ⟨rfl,n,rfl⟩;generalize hA:hi x=a at*
 generalize hB:lo x=b at*
 have HA:=Aside0.mk hA;clear hA hB;go_wp2_with fail;have H5:(a+1) % 4294967296=NR (a+1):=rfl;rw[H5];generalize hC:NR (a+1)=c at*
 have HC:=Aside0.mk hC;clear hC;refine(TT _ c l h3 hl).mono ?_;rintro e w1 ⟨rfl,rfl⟩;go_wp2;go_ret;refine⟨?_,n,rfl⟩;rw[H3.out];rfl
section
variable{R:BB}
theorem EH(hl:CV R){a:Int}:Cv C 32 [AX C.s,.int .i64 a] l R (.int .u64 (ld l a)) l R:=Cv.mem hl fun w h=>uM w C l a h
theorem Jw(hl:CV R){a v:Int}(hv:0≤v∧v≤18446744073709551615):Cv C 148 [AX C.s,.int .i64 a,.int .u64 v] l R (.tuple #[]) (put l a v) R:=Cv.mem hl fun w h=>qi w C l a v hv h
theorem Si(hl:CV R){a old v:Int}(hv:0≤v∧v≤18446744073709551615):Cv C 175 [AX C.s,.int .i64 a,.int .u64 old,.int .u64 v] l R (.bool (KX l a old)) (KL l a old v) R:=Cv.mem hl fun w h=>uN w C l a old v hv h
theorem YS(hl:CV R){a n:Int}:Cv C 221 [AX C.s,.int .i64 a,.int .u64 n] l R (.int .u64 (ld l a)) (XG l a n) R:=Cv.mem hl fun w h=>qj w C l a n h
theorem UM:Cv C 83 [AX C.m] l R (.int .i64 0) l R:=Cv.get fun w h=>nN w C
theorem UN:Cv C 165 [AX C.m] l R (.int .i64 1) l R:=Cv.get fun w h=>uP w C
theorem YT:Cv C 143 [AX C.m] l R (.int .i64 2) l R:=Cv.get fun w h=>nO w C
theorem iL:Cv C 166 [AX C.m] l R (.int .i64 3) l R:=Cv.get fun w h=>uQ w C
theorem zH:Cv C 192 [AX C.m] l R (.int .i64 4) l R:=Cv.get fun w h=>uS w C
theorem YU:Cv C 188 [AX C.m] l R (.int .i64 5) l R:=Cv.get fun w h=>nP w C
theorem PG:Cv C 30 [AX C.m] l R (.int .i64 C.M.nodes) l R:=Cv.get fun w h=>Xh w C h
theorem YV:Cv C 145 [AX C.m] l R (.int .i64 C.M.parts) l R:=Cv.get fun w h=>nT w C h
theorem Sj:Cv C 11 [AX C.m] l R (.int .i64 C.M.nodes) l R:=Cv.get fun w h=>Uu w C h
theorem iM{i:Int}:Cv C 60 [AX C.m,.int .i64 i] l R (.int .i64 (C.M.O8 i)) l R:=Cv.get fun w h=>ql w C h i
theorem UO{k:Int}:Cv C 35 [AX C.m,.int .i64 k] l R (.int .i64 (C.M.Eg k)) l R:=Cv.get fun w h=>Yw w C h k
theorem zI{p:Int}:Cv C 216 [AX C.m,.int .i64 p] l R (.int .i64 (C.M.FZ p)) l R:=Cv.get fun w h=>uT w C h p
theorem O0{p:Int}:Cv C 54 [AX C.m,.int .i64 p] l R (.int .i64 (C.M.FI p)) l R:=Cv.get fun w h=>Yx w C h p
theorem PH{v:Int}:Cv C 56 [AX C.m,.int .i64 v] l R (.int .i64 (C.M.D7 v)) l R:=Cv.get fun w h=>Ut w C h v
theorem Q3{v:Int}:Cv C 33 [AX C.m,.int .i64 v] l R (.int .i64 (C.M.DK v)) l R:=Cv.get fun w h=>Xg w C h v
theorem XZ{v:Int}:Cv C 240 [AX C.m,.int .i64 v] l R (.int .i64 (C.M.Mark v)) l R:=Cv.get fun w h=>uV w C h v
theorem X0{v:Int}:Cv C 36 [AX C.m,.int .i64 v] l R (.int .i64 (C.M.Next v)) l R:=Cv.get fun w h=>Yy w C h v
theorem Kw{v:Int}:Cv C 55 [AX C.m,.int .i64 v] l R (.int .i64 (C.M.CU v)) l R:=Cv.get fun w h=>Ql w C h v
theorem zJ{p:Int}{j:Int}:Cv C 186 [AX C.m,.int .i64 p,.int .i64 j] l R (.int .i64 (C.M.Gp p j)) l R:=Cv.get fun w h=>uU w C h p j
theorem iO(hl:CV R){i:Int}:Cv C 57 [AX C.m,.int .i64 i] l R (.int .i64 (C.M.VM i)) l R:=Cv.vI hl fun w h=>qo w C h i
theorem rf(hl:CV R){i:Int}:Cv C 136 [AX C.m,.int .i64 i] l R (.int .i64 (C.M.IZ i)) l R:=Cv.vI hl fun w h=>iG w C h i
theorem Cs(hl:CV R){i:Int}{j:Int}:Cv C 137 [AX C.m,.int .i64 i,.int .i64 j] l R (.int .i64 (C.M.IJ i j)) l R:=Cv.vI hl fun w h=>nS w C h i j
theorem UR{h k:Int}(hh:0≤h∧h≤4294967295)(hk:0≤k∧k≤4294967295):Cv C 53 [.int .u32 h,.int .u32 k] l R (.int .u64 (pair h k)) l R:=Cv.get fun w _=>TT w h k hh hk
theorem Q4(hl:CV R){x:Int}(hx:0≤x∧x≤18446744073709551615):Cv C 144 [.int .u64 x] l R (.tuple #[.int .u32 (hi x),.int .u32 (lo x)]) l R:=Cv.vI hl fun w _=>Xo w x hx
theorem YW(hl:CV R){x:Int}(hx:0≤x∧x≤18446744073709551615):Cv C 82 [.int .u64 x] l R (.tuple #[.int .u64 (x/8),.int .i64 (x % 8)]) l R:=Cv.vI hl fun w _=>oI w x hx
theorem zK(hl:CV R){x k:Int}(hx:0≤x∧x≤18446744073709551615)(hk:0≤k∧k≤4294967295):Cv C 207 [.int .u64 x,.int .u32 k] l R (.int .u64 (Bg x k)) l R:=Cv.vI hl fun w _=>vJ w x k hx hk
end
theorem Cv.frame{R:BB}(hl:CV R)(h:Cv C f args l Cj v l' Cj):Cv C f args l R v l' R:=fun w D ha hm hR=>by
 have ha':aO C w (fun _=>False):=⟨ha.map,fun _ h=>h.elim,ha.ls,id,id,⟨id,ha.nm.2⟩,⟨id,ha.na.2⟩,⟨id,ha.nr.2⟩⟩;refine(h w _ ha' hm (fun _ h=>h)).mono ?_;rintro e w' ⟨u,m,D',rfl,hm',⟨rfl,rfl,-⟩,hc,-⟩;refine⟨u,m,D,rfl,hm',⟨rfl,rfl,hl D w _ hR (fun k hk=>hc.block k (ha.lt k hk) ?_)⟩,hc.mono ?_,fun k hk=>⟨?_,.inl hk⟩⟩
 ·rintro(h|rfl|rfl)
  ·exact h
  ·exact ha.ns hk
  exact ha.ng hk
 ·rintro k (h|h)
  ·exact h.elim
  exact .inr h
 have:=ha.lt k hk;have:=hc.size;omega
theorem u7:Bq 24 12=true:=by kernel_rfl
theorem o3:one 3=true:=by kernel_rfl
theorem vK:Ec 2 (Qp .i64)=true:=by kernel_rfl
theorem DY:Ec 3 (Qp .i64)=true:=by kernel_rfl
theorem Ej:Ec 3 (fun _=>true)=true:=by kernel_rfl
theorem PK:Ec 39 (YL)=true:=by kernel_rfl
theorem FV:Ec 90 (Qp .u64)=true:=by kernel_rfl
theorem Eu:Ec 90 (fun _=>true)=true:=by kernel_rfl
theorem z24:LU 24=some [.int .i64 0,.int .i64 0,.int .i64 0,.int .i64 0,.int .i64 0,.int .i64 0,.int .i64 0,.int .i64 0,.int .i64 0,.int .i64 0,.int .i64 0,.int .i64 0]:=by kernel_rfl
theorem Sl{a b:Int}:Cv C 210 [.int .u64 a,.int .u64 b] l Cj (.int .i64 (QN a b)) l Cj:=by
 refine Ci 14 Tryz.func210 Z Aa fun w0 D0=>AZ 8 [] Z<|FB (v:= .agg #[.int .u64 a,.int .u64 0]) Z Z Z (fun w _=>by kernel_rfl)<|NC Z<|FB (v:= .agg #[.int .u64 b,.int .u64 0]) Z Z Z (fun w _=>by kernel_rfl)<|Le Z (fun w=>by kernel_rfl) (fun w=>qy _ _ w)<|X.nil<|T.cond Z ?_ ?_
 ·intro hb0;refine CW 4 [] Z<|T.BC Z fun W D h=>?_
  refine⟨D,⟨?_,rfl,h⟩,fun _ hk=>hk⟩;have:a=b:=by simpa using hb0
  subst this;show Value.int .i64 0=_;rw[show QN a a=0 by unfold QN Hm;simp]
 intro hb0;refine AZ 5 [] Z<|BU Z (I9 _)<|kl Z Z Z vK Eu<|AY 2 [] Z<|T.BC Z fun W D h=>?_
 refine⟨D,⟨?_,rfl,h⟩,fun _ hk=>hk⟩;show Value.int .i64 (IntKind.i64.wrap (IntKind.u64.wrap (a-b)))=_;rw[IntKind.wrap_i64,IntKind.wrap_u64];congr 1;unfold QN Hm;split<;>omega
theorem VZ{e:uC}{a:Int}(h1:0≤e.entry∧e.entry≤200000)(h2:0≤e.BM∧e.BM≤100)(ha:0≤a∧a≤18446744073709551615):Cv C 230 [.agg #[.int .i64 e.NS,.int .i64 e.DJ,.int .i64 e.entry,.int .i64 e.BM],.int .u64 a] l Cj (.int .i64 (e.at_ a)) l Cj:=by
 refine Ci 15 Tryz.func230 Z Aa fun w0 D0=>AZ 2 [1] Z<|F7 Z CE fun b0=>AY 3 [] Z<|Ey 11 0 0 (by kernel_rfl)<|AP 5 [] Z<|aW Z Z Z<|kl Z Z Z FV Ej<|Le (v:= .int .u64 (a % (IntKind.u64.wrap (max e.BM 1)))) Z (fun w=>Iy w) (fun w=>M2 ha.1 (by rw[IntKind.wrap_u64];omega) w)<|kl Z Z Z DY Eu<|pr Z Z Z Z Z<|AY 2 [] Z<|T.BC Z fun W D h=>?_
 obtain⟨D2,h3,h4⟩:=Eo (H:=[]) (R:=Cj) (D:=fun _=>False) (w:=W) (fun _ h=>h);refine⟨fun _=>False,⟨?_,rfl,fun _ h=>h⟩,fun _ hk=>hk.elim⟩;show Value.int .i64 (IntKind.i64.wrap (e.entry+IntKind.i64.wrap (a % (IntKind.u64.wrap (max e.BM 1)))))=_;have hm:IntKind.u64.wrap (max e.BM 1)=max e.BM 1:=by rw[IntKind.wrap_u64];omega
 rw[hm];have hb:0≤a % max e.BM 1∧a % max e.BM 1<max e.BM 1:=⟨Int.emod_nonneg _ (by omega),Int.emod_lt_of_pos _ (by omega)⟩;unfold uC.at_;generalize a % max e.BM 1=k at*
 rw[IntWalk.i64_in k (by omega),IntWalk.i64_in _ (by omega)]
def Bz.cfg(M:Bz):List Value:=[.int .i64 M.k0,.int .i64 M.k1,.int .i64 M.k2,.int .i64 M.k3,.int .i64 M.k4,.int .i64 M.Ai,.int .i64 M.Ak,.int .i64 M.BK,.int .i64 M.EE,.int .i64 M.CQ,.int .i64 M.Af,.int .i64 M.AO]
theorem dO:Cv C 115 [AX C.m] l Cj (.agg C.M.cfg.toArray) l Cj:=by
 refine Ci 10 Tryz.func115 Z Aa fun w0 D0=>AZ 2 [1] Z<|Hg Z z24 CE fun b0=>AP 14 [0,16] Z<|Wt Z Z Z u7 Z Z<|AY 2 [] Z<|T.Io Z Z u7 .z Z fun W D h=>?_
 obtain⟨D',h1,h2⟩:=A8 h;exact⟨D',⟨rfl,rfl,h1⟩,h2⟩
def Dq.cs(m:Dq)(nv:Value):List Value:=[.int .i64 m.e.NS,.int .i64 m.e.DJ,.int .i64 m.e.entry,.int .i64 m.e.BM,nv,.int .u64 m.b,.int .u64 m.t,.int .u64 m.w,.int .i64 m.out,.bool m.JO]
abbrev qd(d id:Nat)(nv:Value)(RN:BB):Prop:= ∃b1 b2,nv= .func (.func 167) #[] #[AX b1,AX b2]∧RN=Az [⟨b1,204,[.func (.func id) #[] #[]]⟩,⟨b2,179,[AX d]⟩] Cj
def rq(d:Nat)(m:Dq)(nv:Value)(RN:BB):Prop:=match m.next with
 | .nil=>nv= .nilFunc∧RN=Cj
 | .L6=>qd d 258 nv RN
 | .Oq=>qd d 135 nv RN
 | .Kz=>qd d 217 nv RN
 | .N7=>nv=fm 262 d∧RN=Cj
 | .L8=>nv=fm 263 d∧RN=Cj
 | .Qg=>nv=fm 264 d∧RN=Cj
 | .Qh=>nv=fm 168 d∧RN=Cj
 | .Qi=>nv=fm 185 d∧RN=Cj
 | .Lm=>nv=fm 209 d∧RN=Cj
 | .Hy=>nv=fm 231 d∧RN=Cj
 | .MN=>nv=fm 211 d∧RN=Cj
 | .Ij=>nv=fm 236 d∧RN=Cj
 | .KA=>nv=fm 248 d∧RN=Cj
 | .JC=>nv=fm 257 d∧RN=Cj
theorem Q5{m:Dq}(nv:Value)(RN:BB)(h:rq d m nv RN):CV RN:=by
 unfold rq at h;split at h<;>first
  |(obtain⟨-,rfl⟩:=h;exact Aa)
  |(obtain⟨b1,b2,-,rfl⟩:=h;exact Ac Aa _)
def QP(d:Nat)(m:Dq):BB:=uF 220 d m.cs (rq d m)
theorem EJ{m:Dq}:CV (QP d m):=Bd Q5
def Bf(x:Int):Prop:=0≤x∧x≤18446744073709551615
structure Dq.Ok (m:Dq):Prop where
 entry:0≤m.e.entry∧m.e.entry≤200000
 BM:0≤m.e.BM∧m.e.BM≤100
 b:Bf m.b
 t:Bf m.t
 w:Bf m.w
def NV(C:Cx)(d:Nat)(m:Dq)(l:Dk)(m':Dq)(l':Dk):Prop:= ∀nv RN,rq d m nv RN→ ∃KZ fs cs,nv= .func (.func KZ) (List.toArray fs) (List.toArray cs)∧Cm KZ=true∧Cv C KZ (fs++[AX C.s]++cs) l (Az [⟨d,220,m.cs nv⟩] RN) (.tuple #[]) l' (QP d m')
theorem u9:Pm 24 3 7=true:=by kernel_rfl
theorem V3:Cm 115=true:=by kernel_rfl
theorem eO:Cm 134=true:=by kernel_rfl
theorem qe:Cm 135=true:=by kernel_rfl
theorem qk:Cm 136=true:=by kernel_rfl
theorem qn:Cm 137=true:=by kernel_rfl
theorem Q7:Cm 148=true:=by kernel_rfl
theorem eR:Cm 167=true:=by kernel_rfl
theorem qq:Cm 168=true:=by kernel_rfl
theorem ry:Cm 175=true:=by kernel_rfl
theorem qr:Cm 185=true:=by kernel_rfl
theorem qt:Cm 209=true:=by kernel_rfl
theorem M7:Cm 210=true:=by kernel_rfl
theorem qz:Cm 211=true:=by kernel_rfl
theorem rd:Cm 217=true:=by kernel_rfl
theorem eS:Cm 230=true:=by kernel_rfl
theorem rh:Cm 231=true:=by kernel_rfl
theorem oJ:Cm 232=true:=by kernel_rfl
theorem ri:Cm 236=true:=by kernel_rfl
theorem rj:Cm 248=true:=by kernel_rfl
theorem rk:Cm 257=true:=by kernel_rfl
theorem rn:Cm 258=true:=by kernel_rfl
theorem rp:Cm 262=true:=by kernel_rfl
theorem rx:Cm 263=true:=by kernel_rfl
theorem rz:Cm 264=true:=by kernel_rfl
theorem UT:Cm 32=true:=by kernel_rfl
theorem ko:Cm 57=true:=by kernel_rfl
theorem sa:Jv 185 [(0,1),(1,1),(2,1),(3,1)]=true:=by kernel_rfl
theorem eT:Jv 220 [(0,4),(4,1),(5,1),(6,1),(7,1),(8,1),(9,1)]=true:=by kernel_rfl
theorem sd:Bq 185 4=true:=by kernel_rfl
theorem se:one 130=true:=by kernel_rfl
theorem o4:one 4=true:=by kernel_rfl
theorem M8:one 90=true:=by kernel_rfl
theorem vA:aX 24 3 3=true:=by kernel_rfl
theorem CG:Ec 130 (aU)=true:=by kernel_rfl
theorem eV:LU 179=some [.pointer none]:=by kernel_rfl
theorem vB:LU 185=some [.int .i64 0,.int .i64 0,.int .i64 0,.int .i64 0]:=by kernel_rfl
theorem eW:LU 220=some [.int .i64 0,.int .i64 0,.int .i64 0,.int .i64 0,.nilFunc,.int .u64 0,.int .u64 0,.int .u64 0,.int .i64 0,.bool false]:=by kernel_rfl
theorem Nb{R:BB}(hl:CV R){a0 a1 a2 a3 nx b t w ou wo:Value}{o:Int}:Cv C 232 [AX d,.int .i64 o] l (Az (⟨d,220,[a0,a1,a2,a3,nx,b,t,w,ou,wo]⟩::Hx) R) (.tuple #[]) l (Az (⟨d,220,[a0,a1,a2,a3,.nilFunc,b,t,w,.int .i64 o,wo]⟩::Hx) R):=by
 exact Ci 11 Tryz.func232 Z (Ac hl _) fun w0 D0=>VY hl<|CW 11 [288] Z<|T.BJ Z fun W D h=>⟨D,⟨rfl,rfl,h⟩,fun _ hk=>hk⟩
theorem aZ{R:BB}(hl:CV R){nx ou wo:Value}{i1 i2 i3 i4 x1 x2 x3:Int}:Cv C 258 [AX d,AX C.s] l (Az (⟨d,220,[.int .i64 i1,.int .i64 i2,.int .i64 i3,.int .i64 i4,nx,.int .u64 x1,.int .u64 x2,.int .u64 x3,ou,wo]⟩::Hx) R) (.tuple #[]) l (Az (⟨d,220,[.int .i64 i1,.int .i64 i2,.int .i64 i3,.int .i64 i4,fm 262 d,.int .u64 (ld l i2),.int .u64 x2,.int .u64 x3,ou,wo]⟩::Hx) R):=by
 exact Ci 19 Tryz.func258 Z (Ac hl _) fun w0 D0=>VY hl<|AZ 9 [1024] Z<|CB Z UT (EH hl) hl<|AY 12 [0,32] Z<|T.BJ Z fun W D h=>⟨D,⟨rfl,rfl,h⟩,fun _ hk=>hk⟩
theorem iP{R:BB}(hl:CV R){nx ou wo:Value}{i1 i2 i3 i4 x1 x2 x3:Int}:Cv C 135 [AX d,AX C.s] l (Az (⟨d,220,[.int .i64 i1,.int .i64 i2,.int .i64 i3,.int .i64 i4,nx,.int .u64 x1,.int .u64 x2,.int .u64 x3,ou,wo]⟩::Hx) R) (.tuple #[]) l (Az (⟨d,220,[.int .i64 i1,.int .i64 i2,.int .i64 i3,.int .i64 i4,fm 168 d,.int .u64 (Hm (ld l i2-1)),.int .u64 x2,.int .u64 x3,ou,wo]⟩::Hx) R):=by
 exact Ci 20 Tryz.func135 Z (Ac hl _) fun w0 D0=>VY hl<|AZ 9 [2048] Z<|CB Z UT (EH hl) hl<|BU Z (I9 _)<|AY 12 [0,32] Z<|T.BJ Z fun W D h=>⟨D,⟨rfl,rfl,h⟩,fun _ hk=>hk⟩
theorem oK{R:BB}(hl:CV R){nx ou wo:Value}{i1 i2 i3 i4 x1 x2 x3:Int}:Cv C 217 [AX d,AX C.s] l (Az (⟨d,220,[.int .i64 i1,.int .i64 i2,.int .i64 i3,.int .i64 i4,nx,.int .u64 x1,.int .u64 x2,.int .u64 x3,ou,wo]⟩::Hx) R) (.tuple #[]) l (Az (⟨d,220,[.int .i64 i1,.int .i64 i2,.int .i64 i3,.int .i64 i4,fm 236 d,.int .u64 x1,.int .u64 (ld l i1),.int .u64 x3,ou,wo]⟩::Hx) R):=by
 exact Ci 19 Tryz.func217 Z (Ac hl _) fun w0 D0=>VY hl<|AZ 9 [1024] Z<|CB Z UT (EH hl) hl<|AY 12 [0,32] Z<|T.BJ Z fun W D h=>⟨D,⟨rfl,rfl,h⟩,fun _ hk=>hk⟩
theorem vM{m:Dq}(hm:m.Ok)(hr: ∀a,Bf (ld l a))(hn:m.next= .N7):NV C d m l (m.step l).1 (m.step l).2:=by
 obtain⟨e,nx,b,t,w,out,JO⟩:=m;obtain rfl:nx= .N7:=hn;rintro nv RN ⟨rfl,rfl⟩;refine⟨262,[AX d],[],rfl,rp,?_⟩;refine Ci 40 Tryz.func262 Z (Ac Aa _) fun w0 D0=>Gu Aa<|AZ 9 [1024] Z<|CB Z UT (EH Aa) Aa<|AY 14 [0,32] Z<|Ey 16 0 0 (by kernel_rfl)<|AP 8 [] Z<|CB Z M7 (Sl) Aa<|AP 5 [] Z<|aW Z Z Z<|AY 2 [] Z<|T.cond Z ?_ ?_
 ·intro hb0;refine AZ 9 [8,0,2] Z<|Kt (H1:=[]) (H2:=_::_) (Ju:=_::_) Z oJ Z (Nb Aa) Aa Z Aw<|X.nil<|T.BJ Z fun W D h=>?_
  rw[show(⟨e,.N7,b,t,w,out,JO⟩:Dq).step l=_ from if_pos (of_decide_eq_true hb0)];exact⟨D,⟨rfl,rfl,_,_,⟨rfl,rfl⟩,h⟩,fun _ hk=>hk⟩
 intro hb0;refine T.skip<|T.BJ Z fun W D h=>?_
 rw[show(⟨e,.N7,b,t,w,out,JO⟩:Dq).step l=_ from if_neg (of_decide_eq_false hb0)];exact⟨D,⟨rfl,rfl,_,_,⟨rfl,rfl⟩,h⟩,fun _ hk=>hk⟩
theorem iQ{m:Dq}(hm:m.Ok)(hr: ∀a,Bf (ld l a))(hn:m.next= .L8):NV C d m l (m.step l).1 (m.step l).2:=by
 obtain⟨e,nx,b,t,w,out,JO⟩:=m;obtain rfl:nx= .L8:=hn;rintro nv RN ⟨rfl,rfl⟩;refine⟨263,[AX d],[],rfl,rx,?_⟩;exact Ci 24 Tryz.func263 Z (Ac Aa _) fun w0 D0=>Gu Aa<|T.seq<|Ey 15 0 16384 (by kernel_rfl)<|AP 9 [] Z<|CB Z eS (VZ hm.entry hm.BM hm.b) Aa<|AP 4 [] Z<|Ls Z Q7 (Jw Aa hm.w) Aa Aw<|AY 9 [32] Z<|T.BJ Z fun W D h=>⟨D,⟨rfl,rfl,_,_,⟨rfl,rfl⟩,h⟩,fun _ hk=>hk⟩
theorem vN{m:Dq}(hm:m.Ok)(hr: ∀a,Bf (ld l a))(hn:m.next= .Qg):NV C d m l (m.step l).1 (m.step l).2:=by
 obtain⟨e,nx,b,t,w,out,JO⟩:=m;obtain rfl:nx= .Qg:=hn;rintro nv RN ⟨rfl,rfl⟩;refine⟨264,[AX d],[],rfl,rz,?_⟩;exact Ci 21 Tryz.func264 Z (Ac Aa _) fun w0 D0=>Gu Aa<|T.seq<|Ey 12 0 2048 (by kernel_rfl)<|AP 10 [] Z<|BU Z (I9 _)<|Ls Z Q7 (Jw Aa (JE _)) Aa Aw<|AP 10 [8,0,2] Z<|Kt (H1:=[]) (H2:=_::_) (Ju:=_::_) Z oJ Z (Nb Aa) Aa Z Aw<|X.nil<|T.BJ Z fun W D h=>⟨D,⟨rfl,rfl,_,_,⟨rfl,rfl⟩,h⟩,fun _ hk=>hk⟩
theorem vO{m:Dq}(hm:m.Ok)(hr: ∀a,Bf (ld l a))(hn:m.next= .Qh):NV C d m l (m.step l).1 (m.step l).2:=by
 obtain⟨e,nx,b,t,w,out,JO⟩:=m;obtain rfl:nx= .Qh:=hn;rintro nv RN ⟨rfl,rfl⟩;refine⟨168,[AX d],[],rfl,qq,?_⟩;exact Ci 20 Tryz.func168 Z (Ac Aa _) fun w0 D0=>Gu Aa<|T.seq<|Ey 11 0 1024 (by kernel_rfl)<|AP 10 [] Z<|Ls Z Q7 (Jw Aa hm.b) Aa Aw<|AY 9 [32] Z<|T.BJ Z fun W D h=>⟨D,⟨rfl,rfl,_,_,⟨rfl,rfl⟩,h⟩,fun _ hk=>hk⟩
theorem su{m:Dq}(hm:m.Ok)(hr: ∀a,Bf (ld l a))(hn:m.next= .Qi):NV C d m l (m.step l).1 (m.step l).2:=by
 obtain⟨e,nx,b,t,w,out,JO⟩:=m;obtain rfl:nx= .Qi:=hn;rintro nv RN ⟨rfl,rfl⟩;refine⟨185,[AX d],[],rfl,qr,?_⟩;refine Ci 34 Tryz.func185 Z (Ac Aa _) fun w0 D0=>Gu Aa<|AZ 9 [1024] Z<|CB Z UT (EH Aa) Aa<|AY 14 [0,32] Z<|Ey 10 0 0 (by kernel_rfl)<|AP 8 [] Z<|CB Z M7 (Sl) Aa<|AY 2 [] Z<|T.cond Z ?_ ?_
 ·intro hb0;refine CW 8 [32] Z<|T.BJ Z fun W D h=>?_
  rw[show(⟨e,.Qi,b,t,w,out,JO⟩:Dq).step l=_ from if_pos (of_decide_eq_true hb0)];exact⟨D,⟨rfl,rfl,_,_,⟨rfl,rfl⟩,h⟩,fun _ hk=>hk⟩
 intro hb0;refine T.skip<|T.BJ Z fun W D h=>?_
 rw[show(⟨e,.Qi,b,t,w,out,JO⟩:Dq).step l=_ from if_neg (of_decide_eq_false hb0)];exact⟨D,⟨rfl,rfl,_,_,⟨rfl,rfl⟩,h⟩,fun _ hk=>hk⟩
theorem oL{m:Dq}(hm:m.Ok)(hr: ∀a,Bf (ld l a))(hn:m.next= .Lm):NV C d m l (m.step l).1 (m.step l).2:=by
 obtain⟨e,nx,b,t,w,out,JO⟩:=m;obtain rfl:nx= .Lm:=hn;rintro nv RN ⟨rfl,rfl⟩;refine⟨209,[AX d],[],rfl,qt,?_⟩;refine Ci 35 Tryz.func209 Z (Ac Aa _) fun w0 D0=>Gu Aa<|T.seq<|Ey 15 0 16384 (by kernel_rfl)<|AP 10 [] Z<|CB Z eS (VZ hm.entry hm.BM hm.b) Aa<|CB Z UT (EH Aa) Aa<|AY 14 [0,32] Z<|Ey 10 0 0 (by kernel_rfl)<|AP 8 [] Z<|CB Z M7 (Sl) Aa<|AY 2 [] Z<|T.cond Z ?_ ?_
 ·intro hb0;refine AZ 2 [2] Z<|Kt (H1:=[]) (H2:=_::_) (Ju:=_::_) Z oJ Z (Nb Aa) Aa Z Aw<|X.nil<|T.BJ Z fun W D h=>?_
  rw[show(⟨e,.Lm,b,t,w,out,JO⟩:Dq).step l=_ from if_pos (of_decide_eq_true hb0)];exact⟨D,⟨rfl,rfl,_,_,⟨rfl,rfl⟩,h⟩,fun _ hk=>hk⟩
 intro hb0;refine T.skip<|T.BJ Z fun W D h=>?_
 rw[show(⟨e,.Lm,b,t,w,out,JO⟩:Dq).step l=_ from if_neg (of_decide_eq_false hb0)];exact⟨D,⟨rfl,rfl,_,_,⟨rfl,rfl⟩,h⟩,fun _ hk=>hk⟩
theorem vP{m:Dq}(hm:m.Ok)(hr: ∀a,Bf (ld l a))(hn:m.next= .Hy):NV C d m l (m.step l).1 (m.step l).2:=by
 obtain⟨e,nx,b,t,w,out,JO⟩:=m;obtain rfl:nx= .Hy:=hn;rintro nv RN ⟨rfl,rfl⟩;refine⟨231,[AX d],[],rfl,rh,?_⟩;exact Ci 28 Tryz.func231 Z (Ac Aa _) fun w0 D0=>Gu Aa<|T.seq<|Ey 20 1 589824 (by kernel_rfl)<|AP 15 [] Z<|BU Z (I9 _)<|Ls Z ry (Si Aa (JE _)) Aa (Bv Z Aw)<|AP 2 [] Z<|KQ Z o4 Z .z Z .z (Aj (by kernel_rfl) Aw)<|AY 9 [32] Z<|T.BJ Z fun W D h=>⟨D,⟨rfl,rfl,_,_,⟨rfl,rfl⟩,h⟩,fun _ hk=>hk⟩
theorem vS{m:Dq}(hm:m.Ok)(hr: ∀a,Bf (ld l a))(hn:m.next= .MN):NV C d m l (m.step l).1 (m.step l).2:=by
 obtain⟨e,nx,b,t,w,out,JO⟩:=m;obtain rfl:nx= .MN:=hn;rintro nv RN ⟨rfl,rfl⟩;refine⟨211,[AX d],[],rfl,qz,?_⟩;refine Ci 27 Tryz.func211 Z (Ac Aa _) fun w0 D0=>Gu Aa<|T.seq<|Ey 12 0 2048 (by kernel_rfl)<|AP 10 [] Z<|BU Z (I9 _)<|Ls Z Q7 (Jw Aa (JE _)) Aa Aw<|AY 9 [] Z<|T.cond Z ?_ ?_
 ·intro hb0;refine AZ 3 [2] Z<|Kt (H1:=[]) (H2:=_::_) (Ju:=_::_) Z oJ Z (Nb Aa) Aa Z Aw<|X.nil<|T.J6 Z fun W D h=>?_
  rw[show(⟨e,.MN,b,t,w,out,JO⟩:Dq).step l=_ from if_pos hb0];exact⟨D,⟨rfl,rfl,_,_,⟨rfl,rfl⟩,h⟩,fun _ hk=>hk⟩
 intro hb0;refine AZ 10 [8,0,2] Z<|Kt (H1:=[]) (H2:=_::_) (Ju:=_::_) Z oJ Z (Nb Aa) Aa Z Aw<|X.nil<|T.BJ Z fun W D h=>?_
 rw[show(⟨e,.MN,b,t,w,out,JO⟩:Dq).step l=_ from if_neg (by rw[hb0];exact Bool.false_ne_true)];exact⟨D,⟨rfl,rfl,_,_,⟨rfl,rfl⟩,h⟩,fun _ hk=>hk⟩
theorem YY{m:Dq}(hm:m.Ok)(hr: ∀a,Bf (ld l a))(hn:m.next= .Ij):NV C d m l (m.step l).1 (m.step l).2:=by
 obtain⟨e,nx,b,t,w,out,JO⟩:=m;obtain rfl:nx= .Ij:=hn;rintro nv RN ⟨rfl,rfl⟩;refine⟨236,[AX d],[],rfl,ri,?_⟩;refine Ci 31 Tryz.func236 Z (Ac Aa _) fun w0 D0=>Gu Aa<|AZ 9 [1024] Z<|CB Z UT (EH Aa) Aa<|AY 14 [0,32] Z<|Ey 10 0 0 (by kernel_rfl)<|AP 8 [] Z<|CB Z M7 (Sl) Aa<|AY 2 [] Z<|T.cond Z ?_ ?_
 ·intro hb0;refine AZ 2 [2] Z<|Kt (H1:=[]) (H2:=_::_) (Ju:=_::_) Z oJ Z (Nb Aa) Aa Z Aw<|X.nil<|T.BJ Z fun W D h=>?_
  rw[show(⟨e,.Ij,b,t,w,out,JO⟩:Dq).step l=_ from if_pos (of_decide_eq_true hb0)];exact⟨D,⟨rfl,rfl,_,_,⟨rfl,rfl⟩,h⟩,fun _ hk=>hk⟩
 intro hb0;refine T.skip<|T.BJ Z fun W D h=>?_
 rw[show(⟨e,.Ij,b,t,w,out,JO⟩:Dq).step l=_ from if_neg (of_decide_eq_false hb0)];exact⟨D,⟨rfl,rfl,_,_,⟨rfl,rfl⟩,h⟩,fun _ hk=>hk⟩
theorem bC{m:Dq}(hm:m.Ok)(hr: ∀a,Bf (ld l a))(hn:m.next= .KA):NV C d m l (m.step l).1 (m.step l).2:=by
 obtain⟨e,nx,b,t,w,out,JO⟩:=m;obtain rfl:nx= .KA:=hn;rintro nv RN ⟨rfl,rfl⟩;refine⟨248,[AX d],[],rfl,rj,?_⟩;exact Ci 23 Tryz.func248 Z (Ac Aa _) fun w0 D0=>Gu Aa<|T.seq<|Ey 15 0 16384 (by kernel_rfl)<|AP 10 [] Z<|CB Z eS (VZ hm.entry hm.BM hm.t) Aa<|CB Z UT (EH Aa) Aa<|AY 12 [0,32] Z<|T.BJ Z fun W D h=>⟨D,⟨rfl,rfl,_,_,⟨rfl,rfl⟩,h⟩,fun _ hk=>hk⟩
theorem iR{m:Dq}(hm:m.Ok)(hr: ∀a,Bf (ld l a))(hn:m.next= .JC):NV C d m l (m.step l).1 (m.step l).2:=by
 obtain⟨e,nx,b,t,w,out,JO⟩:=m;obtain rfl:nx= .JC:=hn;rintro nv RN ⟨rfl,rfl⟩;refine⟨257,[AX d],[],rfl,rk,?_⟩;refine Ci 27 Tryz.func257 Z (Ac Aa _) fun w0 D0=>Gu Aa<|CW 2 [] Z<|Ey 16 0 32768 (by kernel_rfl)<|AP 14 [] Z<|BU Z (I9 _)<|Ls Z ry (Si Aa (JE _)) Aa Aw<|X.nil<|T.cond Z ?_ ?_
 ·intro hb0;refine AZ 3 [2] Z<|Kt (H1:=[]) (H2:=_::_) (Ju:=_::_) Z oJ Z (Nb Aa) Aa Z Aw<|X.nil<|T.J6 Z fun W D h=>?_
  rw[show(⟨e,.JC,b,t,w,out,JO⟩:Dq).step l=_ from if_pos hb0];exact⟨D,⟨rfl,rfl,_,_,⟨rfl,rfl⟩,h⟩,fun _ hk=>hk⟩
 intro hb0;refine AZ 10 [8,0,2] Z<|Kt (H1:=[]) (H2:=_::_) (Ju:=_::_) Z oJ Z (Nb Aa) Aa Z Aw<|X.nil<|T.BJ Z fun W D h=>?_
 rw[show(⟨e,.JC,b,t,w,out,JO⟩:Dq).step l=_ from if_neg (by rw[hb0];exact Bool.false_ne_true)];exact⟨D,⟨rfl,rfl,_,_,⟨rfl,rfl⟩,h⟩,fun _ hk=>hk⟩
theorem iT{m:Dq}(hn:m.next= .L6):NV C d m l (m.step l).1 (m.step l).2:=by
 obtain⟨e,nx,b,t,w,out,JO⟩:=m;obtain rfl:nx= .L6:=hn;rintro nv RN ⟨b1,b2,rfl,rfl⟩;refine⟨167,[],[AX b1,AX b2],rfl,eR,?_⟩;refine Ci 8 Tryz.func167 Z (Ac (Ac Aa _) _) fun w0 D0=>iJ Aa<|AZ 4 [8,1,2] Z<|Kt (H1:=[]) (H2:=_::_) (Ju:=_::_) Z rn Z (aZ Aa) Aa Z Aw<|X.nil<|T.BJ Z fun W D h=>?_
 obtain⟨D',h1,h2⟩:=YH h;exact⟨D',⟨rfl,rfl,_,_,⟨rfl,rfl⟩,h1⟩,h2⟩
theorem oM{m:Dq}(hn:m.next= .Oq):NV C d m l (m.step l).1 (m.step l).2:=by
 obtain⟨e,nx,b,t,w,out,JO⟩:=m;obtain rfl:nx= .Oq:=hn;rintro nv RN ⟨b1,b2,rfl,rfl⟩;refine⟨167,[],[AX b1,AX b2],rfl,eR,?_⟩;refine Ci 8 Tryz.func167 Z (Ac (Ac Aa _) _) fun w0 D0=>iJ Aa<|AZ 4 [8,1,2] Z<|Kt (H1:=[]) (H2:=_::_) (Ju:=_::_) Z qe Z (iP Aa) Aa Z Aw<|X.nil<|T.BJ Z fun W D h=>?_
 obtain⟨D',h1,h2⟩:=YH h;exact⟨D',⟨rfl,rfl,_,_,⟨rfl,rfl⟩,h1⟩,h2⟩
theorem bD{m:Dq}(hn:m.next= .Kz):NV C d m l (m.step l).1 (m.step l).2:=by
 obtain⟨e,nx,b,t,w,out,JO⟩:=m;obtain rfl:nx= .Kz:=hn;rintro nv RN ⟨b1,b2,rfl,rfl⟩;refine⟨167,[],[AX b1,AX b2],rfl,eR,?_⟩;refine Ci 8 Tryz.func167 Z (Ac (Ac Aa _) _) fun w0 D0=>iJ Aa<|AZ 4 [8,1,2] Z<|Kt (H1:=[]) (H2:=_::_) (Ju:=_::_) Z rd Z (oK Aa) Aa Z Aw<|X.nil<|T.BJ Z fun W D h=>?_
 obtain⟨D',h1,h2⟩:=YH h;exact⟨D',⟨rfl,rfl,_,_,⟨rfl,rfl⟩,h1⟩,h2⟩
theorem bF{e:uC}{wv:Int}:Cn C 134 [.agg #[.int .i64 e.NS,.int .i64 e.DJ,.int .i64 e.entry,.int .i64 e.BM],.int .u64 wv,.func (.func 258) #[] #[]] l Cj l (fun q=>QP q (.push e wv)):=by
 refine Ci 17 Tryz.func134 Z Aa fun w0 D0=>AZ 2 [3] Z<|F7 Z CE fun b0=>F7 Z CE fun b1=>AP 6 [56,1] Z<|Fp Z eT eW Z<|F7 Z CE fun b2=>Hg Z eV CE fun b3=>AY 15 [0,16,0,1] Z<|T.BC Z fun W D h=>?_
 obtain⟨D',h1,h2⟩:=Eb [1,2,0] (by decide) h;exact⟨D',⟨_,rfl,rfl,_,_,⟨_,_,rfl,rfl⟩,h1⟩,h2⟩
theorem M9{e:uC}{wv:Int}:Cn C 249 [.agg #[.int .i64 e.NS,.int .i64 e.DJ,.int .i64 e.entry,.int .i64 e.BM],.int .u64 wv] l Cj l (fun q=>QP q (.push e wv)):=by
 refine Ci 8 Tryz.func249 Z Aa fun w0 D0=>AZ 2 [1] Z<|F7 Z CE fun b0=>AP 6 [4] Z<|UF Z eO (bF) (fun _=>EJ) CE fun q1=>AY 2 [] Z<|T.BC Z fun W D h=>?_
 obtain⟨D',h1,h2⟩:=A8 h;exact⟨D',⟨_,rfl,rfl,h1⟩,h2⟩
theorem iU{e:uC}{wv:Int}:Cn C 134 [.agg #[.int .i64 e.NS,.int .i64 e.DJ,.int .i64 e.entry,.int .i64 e.BM],.int .u64 0,.func (.func 135) #[] #[]] l Cj l (fun q=>QP q (.Kq e)):=by
 refine Ci 17 Tryz.func134 Z Aa fun w0 D0=>AZ 2 [3] Z<|F7 Z CE fun b0=>F7 Z CE fun b1=>AP 6 [56,1] Z<|Fp Z eT eW Z<|F7 Z CE fun b2=>Hg Z eV CE fun b3=>AY 15 [0,16,0,1] Z<|T.BC Z fun W D h=>?_
 obtain⟨D',h1,h2⟩:=Eb [1,2,0] (by decide) h;exact⟨D',⟨_,rfl,rfl,_,_,⟨_,_,rfl,rfl⟩,h1⟩,h2⟩
theorem eZ{e:uC}:Cn C 104 [.agg #[.int .i64 e.NS,.int .i64 e.DJ,.int .i64 e.entry,.int .i64 e.BM]] l Cj l (fun q=>QP q (.Kq e)):=by
 refine Ci 5 Tryz.func104 Z Aa fun w0 D0=>AZ 2 [1] Z<|F7 Z CE fun b0=>AP 5 [2] Z<|UF Z eO (iU (wv:=0)) (fun _=>EJ) CE fun q1=>AY 2 [] Z<|T.BC Z fun W D h=>?_
 obtain⟨D',h1,h2⟩:=A8 h;exact⟨D',⟨_,rfl,rfl,h1⟩,h2⟩
theorem YZ{e:uC}{wv:Int}:Cn C 134 [.agg #[.int .i64 e.NS,.int .i64 e.DJ,.int .i64 e.entry,.int .i64 e.BM],.int .u64 0,.func (.func 217) #[] #[]] l Cj l (fun q=>QP q (.NT e)):=by
 refine Ci 17 Tryz.func134 Z Aa fun w0 D0=>AZ 2 [3] Z<|F7 Z CE fun b0=>F7 Z CE fun b1=>AP 6 [56,1] Z<|Fp Z eT eW Z<|F7 Z CE fun b2=>Hg Z eV CE fun b3=>AY 15 [0,16,0,1] Z<|T.BC Z fun W D h=>?_
 obtain⟨D',h1,h2⟩:=Eb [1,2,0] (by decide) h;exact⟨D',⟨_,rfl,rfl,_,_,⟨_,_,rfl,rfl⟩,h1⟩,h2⟩
theorem Cu{e:uC}:Cn C 196 [.agg #[.int .i64 e.NS,.int .i64 e.DJ,.int .i64 e.entry,.int .i64 e.BM]] l Cj l (fun q=>QP q (.NT e)):=by
 refine Ci 5 Tryz.func196 Z Aa fun w0 D0=>AZ 2 [1] Z<|F7 Z CE fun b0=>AP 5 [2] Z<|UF Z eO (YZ (wv:=0)) (fun _=>EJ) CE fun q1=>AY 2 [] Z<|T.BC Z fun W D h=>?_
 obtain⟨D',h1,h2⟩:=A8 h;exact⟨D',⟨_,rfl,rfl,h1⟩,h2⟩
theorem zL{m:Dq}(h:rq d m nv RN):VW nv (decide (m.next= .nil)):=by
 unfold rq at h;split at h<;>rename_i hn<;>rw[hn]<;>first
  |(obtain⟨rfl,-⟩:=h;exact .inl ⟨rfl,rfl⟩)
  |(obtain⟨rfl,-⟩:=h;exact .inr ⟨_,_,_,rfl,rfl⟩)
  |(obtain⟨b1,b2,rfl,-⟩:=h;exact .inr ⟨_,_,_,rfl,rfl⟩)
theorem Nd{m m':Dq}(hrun:NV C d m l m' l'):Cv C 138 [AX d,AX C.s] l (QP d m) (.bool (decide (m'.next= .nil))) l' (QP d m'):=by
 refine Ci 25 Tryz.func138 Z EJ fun w0 D0=>T.MX (H:=[]) Q5 ?_
 intro nv RN hN hl;obtain⟨KZ,fs,cs,rfl,hg,hc⟩:=hrun nv RN hN;refine AZ 14 [] Z<|zF Z Z Z Z CG<|Hz Z<|AP 10 [32] Z<|RV (H1:=[]) (H2:=[_]) Z hg Z hc EJ Aw<|AY 2 [] Z<|T.MX Q5 ?_;rintro Lc Y0 hN' hl';refine AZ 5 [] Z<|Le Z (IL (zL hN')) (Jl (zL hN') CG)<|AY 2 [] Z<|T.BC Z fun W D h=>?_
 refine⟨D,⟨rfl,rfl,Lc,Y0,hN',h⟩,fun _ hk=>hk⟩
theorem Cw{m:Dq}(hn:m.next= .nil):Cv C 138 [AX d,AX C.s] l (QP d m) (.bool true) l (QP d m):=by
 refine Ci 25 Tryz.func138 Z EJ fun w0 D0=>T.MX (H:=[]) Q5 ?_
 intro nv RN hN hl;have hi:=zL hN;rw[hn] at hi;exact AZ 14 [] Z<|Le Z (IL hi) (Jl hi CG)<|Hz Z<|AY 6 [] Z<|T.BC Z fun W D h=>⟨D,⟨rfl,rfl,nv,RN,hN,h⟩,fun _ hk=>hk⟩
theorem V4{m:Dq}(hn:m.next= .nil):Cv C 139 [AX d] l (QP d m) (.tuple #[.int .i64 m.out,.int .u64 m.w]) l (QP d m):=by
 refine Ci 21 Tryz.func139 Z EJ fun w0 D0=>T.MX (H:=[]) Q5 ?_
 intro nv RN hN hl;have hi:=zL hN;rw[hn] at hi;exact AZ 15 [] Z<|Le Z (IL hi) (Cp hi CG)<|Hz Z<|AY 4 [] Z<|Ey 10 0 0 (by kernel_rfl)<|AY 11 [] Z<|T.YJ Z fun W D h=>⟨D,⟨rfl,rfl,nv,RN,hN,h⟩,fun _ hk=>hk⟩
theorem e8{m:Dq}(hm:m.Ok)(hr: ∀a,Bf (ld l a))(hn:m.next≠ .nil):NV C d m l (m.step l).1 (m.step l).2:=by
 cases h:m.next with
 |nil=>exact(hn h).elim
 |L6=>exact iT h
 |Oq=>exact oM h
 |Kz=>exact bD h
 |N7=>exact vM hm hr h
 |L8=>exact iQ hm hr h
 |Qg=>exact vN hm hr h
 |Qh=>exact vO hm hr h
 |Qi=>exact su hm hr h
 |Lm=>exact oL hm hr h
 |Hy=>exact vP hm hr h
 |MN=>exact vS hm hr h
 |Ij=>exact YY hm hr h
 |KA=>exact bC hm hr h
 |JC=>exact iR hm hr h
theorem V5{m:Dq}(hm:m.Ok)(hr: ∀a,Bf (ld l a)):Cv C 138 [AX d,AX C.s] l (QP d m) (.bool (decide ((m.step l).1.next= .nil))) (m.step l).2 (QP d (m.step l).1):=by
 by_cases hn:m.next= .nil
 ·have e:m.step l=(m,l):=by unfold Dq.step;rw[hn]
  rw[e];simp only[hn,decide_true];exact Cw hn
 exact Nd (e8 hm hr hn)
theorem X3(x:Int):Bf (Hm x):=JE x
theorem Dq.Ef{m:Dq}(hm:m.Ok)(hr: ∀a,Bf (ld l a)):(m.step l).1.Ok:=by
 obtain⟨h1,h2,h3,h4,h5⟩:=hm;have h0:Bf 0:=by unfold Bf;omega
 unfold Dq.step;split<;>(try split)<;>exact⟨h1,h2,by first|exact h3|exact hr _|exact X3 _,by first|exact h4|exact hr _,by first|exact h5|exact h0|exact hr _⟩
theorem Dq.D8{m:Dq}(hm:m.Ok)(hr: ∀i,0≤l.getD i 0∧l.getD i 0≤18446744073709551615): ∀i,0≤(m.step l).2.getD i 0∧(m.step l).2.getD i 0≤18446744073709551615:=by
 have hp: ∀a v,Bf v→ ∀i,0≤(put l a v).getD i 0∧(put l a v).getD i 0≤18446744073709551615:=fun a v hv=>by
  unfold put;split
  ·exact XU hr _ v hv
  exact hr
 have hc: ∀a o v,Bf v→ ∀i,0≤(KL l a o v).getD i 0∧(KL l a o v).getD i 0≤18446744073709551615:=fun a o v hv=>by
  unfold KL;split
  ·exact hp a v hv
  exact hr
 unfold Dq.step;split<;>(try split)<;>first|exact hr|exact hp _ _ hm.w|exact hp _ _ hm.b|exact hp _ _ (X3 _)|exact hc _ _ _ (X3 _)
theorem iV{i:Int}:Cv C 105 [AX C.m,.int .i64 i] l Cj (.agg #[.int .i64 (C.M.VM i),.int .i64 (C.M.IZ i),.int .i64 (C.M.IJ i 0),.int .i64 C.M.BK]) l Cj:=by
 refine Ci 18 Tryz.func105 Z Aa fun w0 D0=>AZ 2 [1] Z<|Hg Z vB CE fun b0=>AP 5 [8192] Z<|CB Z ko (iO Aa) Aa<|AP 2 [] Z<|CB Z qk (rf Aa) Aa<|AP 2 [] Z<|CB Z qn (Cs Aa) Aa<|NC Z<|CB Z V3 (dO) Aa<|Bp Z Z Z u9 vA o3 Z<|Fp Z sa vB Z<|AY 2 [] Z<|T.Io Z Z sd .z Z fun W D h=>?_
 obtain⟨D',h1,h2⟩:=A8 h;exact⟨D',⟨rfl,rfl,h1⟩,h2⟩
def vD(node:Bool):Nat:=bif node then 36 else 54
def St.cs(C:Cx)(m:St)(tr:Int)(nv:Value):List Value:=[.int .i64 m.head,.func (.func (vD m.node)) #[AX C.m] #[],.int .u32 m.BO,.int .u64 m.h,nv,.int .u32 m.Cf,.int .i64 tr]
def tq(d:Nat)(m:St)(nv:Value)(RN:BB):Prop:=match m.next with
 | .nil=>nv= .nilFunc∧RN=Cj
 | .MS=>nv=fm 212 d∧RN=Cj
 | .MV=>nv=fm 234 d∧RN=Cj
 | .J4=>nv=fm 246 d∧RN=Cj
 | .MO=>nv=fm 215 d∧RN=Cj
 | .OV=>nv=fm 235 d∧RN=Cj
 | .Hy=>nv=fm 247 d∧RN=Cj
theorem Lu{m:St}(nv:Value)(RN:BB)(h:tq d m nv RN):CV RN:=by
 unfold tq at h;split at h<;>(obtain⟨-,rfl⟩:=h;exact Aa)
theorem zM{m:St}(h:tq d m nv RN):VW nv (decide (m.next= .nil)):=by
 unfold tq at h;split at h<;>rename_i hn<;>rw[hn]<;>obtain⟨rfl,-⟩:=h<;>first|exact .inl ⟨rfl,rfl⟩|exact .inr ⟨_,_,_,rfl,rfl⟩
def oN(C:Cx)(d:Nat)(m:St):BB:=fun D w=> ∃tr:Int,uF 248 d (m.cs C tr) (tq d m) D w
theorem Ez{m:St}:CV (oN C d m):=AQ fun _=>Bd Lu
def EW(x:Int):Prop:=0≤x∧x≤4294967295
structure St.Ok (m:St):Prop where
 BO:EW m.BO
 h:Bf m.h
 Cf:EW m.Cf
def Xp(C:Cx)(d:Nat)(m:St)(l:Dk)(m':St)(l':Dk):Prop:= ∀tr nv RN,tq d m nv RN→ ∃KZ fs cs,nv= .func (.func KZ) (List.toArray fs) (List.toArray cs)∧Cm KZ=true∧Cv C KZ (fs++[AX C.s]++cs) l (Az [⟨d,248,m.cs C tr nv⟩] RN) (.tuple #[]) l' (oN C d m')
theorem Cy(node:Bool):Cm (vD node)=true:=by cases node<;>kernel_rfl
theorem Wz{R:BB}{node:Bool}{i:Int}:Cv C (vD node) [AX C.m,.int .i64 i] l R (.int .i64 (C.M.Cf node i)) l R:=by
 cases node
 ·exact O0
 exact X0
theorem PL{h k:Int}(hk:EW k):Bf (Bg h k):=Oz (Kv _) hk
theorem Cz:Cm 144=true:=by kernel_rfl
theorem vE:Cm 207=true:=by kernel_rfl
theorem sf:Cm 212=true:=by kernel_rfl
theorem sg:Cm 215=true:=by kernel_rfl
theorem vL:Cm 233=true:=by kernel_rfl
theorem sh:Cm 234=true:=by kernel_rfl
theorem sj:Cm 235=true:=by kernel_rfl
theorem sk:Cm 246=true:=by kernel_rfl
theorem so:Cm 247=true:=by kernel_rfl
theorem vQ:Cm 256=true:=by kernel_rfl
theorem vR:Jv 248 [(0,1),(1,1),(2,1),(3,1),(4,1),(5,1),(6,1)]=true:=by kernel_rfl
theorem FP:Ec 115 (Qp .u32)=true:=by kernel_rfl
theorem Gj:Ec 115 (fun _=>true)=true:=by kernel_rfl
theorem v7:LU 248=some [.int .i64 0,.nilFunc,.int .u32 0,.int .u64 0,.nilFunc,.int .u32 0,.int .i64 0]:=by kernel_rfl
theorem dP{R:BB}(hl:CV R){nx:Value}{hd it hh v8 tr:Int}(hr: ∀a,Bf (ld l a)):Cv C 233 [AX d,AX C.s] l (Az (⟨d,248,[.int .i64 hd,av,.int .u32 it,.int .u64 hh,nx,.int .u32 v8,.int .i64 tr]⟩::Hx) R) (.int .u32 (lo (ld l hd))) (l) (Az (⟨d,248,[.int .i64 hd,av,.int .u32 it,.int .u64 (ld l hd),nx,.int .u32 v8,.int .i64 (IntKind.i64.wrap (tr+1))]⟩::Hx) R):=by
 exact Ci 32 Tryz.func233 Z (Ac hl _) fun w0 D0=>VY hl<|AZ 10 [0,128] Z<|pr Z Z Z Z Z<|AP 12 [0,512] Z<|CB Z UT (EH hl) hl<|AP 10 [] Z<|CB Z Cz (Q4 hl (hr _)) hl<|AY 11 [] Z<|T.BC Z fun W D h=>⟨D,⟨rfl,rfl,h⟩,fun _ hk=>hk⟩
theorem dQ{R:BB}(hl:CV R){nx:Value}{hd it hh v8 tr:Int}{k:Int}{again:Value}(hc:BL again=true)(h1:Bf hh)(h2:EW k):Cv C 256 [AX d,AX C.s,.int .u32 k,again] l (Az (⟨d,248,[.int .i64 hd,av,.int .u32 it,.int .u64 hh,nx,.int .u32 v8,.int .i64 tr]⟩::Hx) R) (.tuple #[]) (KL l hd hh (Bg hh k)) (Az (⟨d,248,[.int .i64 hd,av,.int .u32 it,.int .u64 hh,bif KX l hd hh then .nilFunc else again,.int .u32 v8,.int .i64 tr]⟩::Hx) R):=by
 refine Ci 31 Tryz.func256 Z (Ac hl _) fun w0 D0=>VY hl<|AZ 6 [16] Z<|KQ Z se hc .z Z .z Aw<|AY 2 [] Z<|Ey 16 0 32768 (by kernel_rfl)<|AP 14 [] Z<|CB Z vE (zK hl h1 h2) hl<|Ls Z ry (Si hl (PL h2)) hl Aw<|X.nil<|T.cond Z ?_ ?_
 ·intro hb0;refine CW 6 [8] Z<|T.BJ Z fun W D h=>?_
  rw[hb0];exact⟨D,⟨rfl,rfl,h⟩,fun _ hk=>hk⟩
 intro hb0;refine T.skip<|T.BJ Z fun W D h=>?_
 rw[hb0];exact⟨D,⟨rfl,rfl,h⟩,fun _ hk=>hk⟩
theorem oO{m:St}(hm:m.Ok)(hr: ∀a,Bf (ld l a))(hn:m.next= .MS):Xp C d m l (m.step C.M l).1 (m.step C.M l).2:=by
 obtain⟨hd,node,BO,hh,nx,Cf⟩:=m;obtain rfl:nx= .MS:=hn;rintro tr nv RN ⟨rfl,rfl⟩;refine⟨212,[AX d],[],rfl,sf,?_⟩;exact Ci 15 Tryz.func212 Z (Ac Aa _) fun w0 D0=>Gu Aa<|AZ 5 [72] Z<|Kt (H1:=[]) (H2:=_::_) (Ju:=_::_) Z vL Z (dP Aa hr) Aa Z Aw<|AY 12 [0,32] Z<|T.BJ Z fun W D h=>⟨D,⟨rfl,rfl,_,_,_,⟨rfl,rfl⟩,h⟩,fun _ hk=>hk⟩
theorem oP{m:St}(hm:m.Ok)(hr: ∀a,Bf (ld l a))(hn:m.next= .MV):Xp C d m l (m.step C.M l).1 (m.step C.M l).2:=by
 obtain⟨hd,node,BO,hh,nx,Cf⟩:=m;obtain rfl:nx= .MV:=hn;rintro tr nv RN ⟨rfl,rfl⟩;refine⟨234,[AX d],[],rfl,sh,?_⟩;exact Ci 26 Tryz.func234 Z (Ac Aa _) fun w0 D0=>Gu Aa<|T.seq<|Ey 17 0 65536 (by kernel_rfl)<|AP 9 [] Z<|Ic Z DY Gj (KR hm.BO)<|CB Z (Cy _) Wz Aa<|AP 4 [] Z<|Ic Z FV Gj (Oh hm.Cf)<|Ls Z Q7 (Jw Aa (show Bf Cf from⟨hm.Cf.1,by have:=hm.Cf.2;simp only at this;omega⟩)) Aa Aw<|AY 9 [32] Z<|T.BJ Z fun W D h=>⟨D,⟨rfl,rfl,_,_,_,⟨rfl,rfl⟩,h⟩,fun _ hk=>hk⟩
theorem oQ{m:St}(hm:m.Ok)(hr: ∀a,Bf (ld l a))(hn:m.next= .J4):Xp C d m l (m.step C.M l).1 (m.step C.M l).2:=by
 obtain⟨hd,node,BO,hh,nx,Cf⟩:=m;obtain rfl:nx= .J4:=hn;rintro tr nv RN ⟨rfl,rfl⟩;refine⟨246,[AX d],[],rfl,sk,?_⟩;refine Ci 13 Tryz.func246 Z (Ac Aa _) fun w0 D0=>Gu Aa<|AZ 9 [256] Z<|Kt (H1:=[]) (H2:=_::_) (Ju:=_::_) Z vQ Z (dQ Aa Z hm.h hm.BO) Aa Z Aw<|X.nil<|T.BJ Z fun W D h=>?_
 cases hB:KX l hd hh with
 |true=>
  rw[hB] at h;rw[show(⟨hd,node,BO,hh,.J4,Cf⟩:St).step C.M l=_ from if_pos hB];exact⟨D,⟨rfl,rfl,_,_,_,⟨rfl,rfl⟩,h⟩,fun _ hk=>hk⟩
 |false=>
  rw[hB] at h;rw[show(⟨hd,node,BO,hh,.J4,Cf⟩:St).step C.M l=_ from if_neg (by rw[hB];exact Bool.false_ne_true)];exact⟨D,⟨rfl,rfl,_,_,_,⟨rfl,rfl⟩,h⟩,fun _ hk=>hk⟩
theorem vT{m:St}(hm:m.Ok)(hr: ∀a,Bf (ld l a))(hn:m.next= .MO):Xp C d m l (m.step C.M l).1 (m.step C.M l).2:=by
 obtain⟨hd,node,BO,hh,nx,Cf⟩:=m;obtain rfl:nx= .MO:=hn;rintro tr nv RN ⟨rfl,rfl⟩;refine⟨215,[AX d],[],rfl,sg,?_⟩;refine Ci 23 Tryz.func215 Z (Ac Aa _) fun w0 D0=>Gu Aa<|AZ 5 [72] Z<|Kt (H1:=[]) (H2:=_::_) (Ju:=_::_) Z vL Z (dP Aa hr) Aa Z Aw<|AY 21 [0,32] Z<|T.cond Z ?_ ?_
 ·intro hb0;refine CW 6 [8] Z<|T.BJ Z fun W D h=>?_
  rw[show(⟨hd,node,BO,hh,.MO,Cf⟩:St).step C.M l=_ from if_pos (eq_of_beq hb0)];exact⟨D,⟨rfl,rfl,_,_,_,⟨rfl,rfl⟩,h⟩,fun _ hk=>hk⟩
 intro hb0;refine T.skip<|T.BJ Z fun W D h=>?_
 rw[show(⟨hd,node,BO,hh,.MO,Cf⟩:St).step C.M l=_ from if_neg (ne_of_beq_false hb0)];exact⟨D,⟨rfl,rfl,_,_,_,⟨rfl,rfl⟩,h⟩,fun _ hk=>hk⟩
theorem vU{m:St}(hm:m.Ok)(hr: ∀a,Bf (ld l a))(hn:m.next= .OV):Xp C d m l (m.step C.M l).1 (m.step C.M l).2:=by
 obtain⟨hd,node,BO,hh,nx,Cf⟩:=m;obtain rfl:nx= .OV:=hn;rintro tr nv RN ⟨rfl,rfl⟩;refine⟨235,[AX d],[],rfl,sj,?_⟩;exact Ci 25 Tryz.func235 Z (Ac Aa _) fun w0 D0=>Gu Aa<|T.seq<|Ey 17 0 65536 (by kernel_rfl)<|AP 10 [] Z<|Ic Z DY Gj (KR hm.BO)<|CB Z (Cy _) Wz Aa<|CB Z UT (EH Aa) Aa<|Ic Z FP Eu (RX _)<|AY 12 [0,32] Z<|T.BJ Z fun W D h=>⟨D,⟨rfl,rfl,_,_,_,⟨rfl,rfl⟩,h⟩,fun _ hk=>hk⟩
theorem vV{m:St}(hm:m.Ok)(hr: ∀a,Bf (ld l a))(hn:m.next= .Hy):Xp C d m l (m.step C.M l).1 (m.step C.M l).2:=by
 obtain⟨hd,node,BO,hh,nx,Cf⟩:=m;obtain rfl:nx= .Hy:=hn;rintro tr nv RN ⟨rfl,rfl⟩;refine⟨247,[AX d],[],rfl,so,?_⟩;refine Ci 13 Tryz.func247 Z (Ac Aa _) fun w0 D0=>Gu Aa<|AZ 9 [256] Z<|Kt (H1:=[]) (H2:=_::_) (Ju:=_::_) Z vQ Z (dQ Aa Z hm.h hm.Cf) Aa Z Aw<|X.nil<|T.BJ Z fun W D h=>?_
 cases hB:KX l hd hh with
 |true=>
  rw[hB] at h;rw[show(⟨hd,node,BO,hh,.Hy,Cf⟩:St).step C.M l=_ from if_pos hB];exact⟨D,⟨rfl,rfl,_,_,_,⟨rfl,rfl⟩,h⟩,fun _ hk=>hk⟩
 |false=>
  rw[hB] at h;rw[show(⟨hd,node,BO,hh,.Hy,Cf⟩:St).step C.M l=_ from if_neg (by rw[hB];exact Bool.false_ne_true)];exact⟨D,⟨rfl,rfl,_,_,_,⟨rfl,rfl⟩,h⟩,fun _ hk=>hk⟩
theorem Nf{m m':St}(hrun:Xp C d m l m' l'):Cv C 260 [AX d,AX C.s] l (oN C d m) (.bool (decide (m'.next= .nil))) l' (oN C d m'):=by
 refine Ci 25 Tryz.func260 Z Ez fun w0 D0=>T.ex (fun _=>Bd Lu) ?_
 intro tr;refine T.MX (H:=[]) Lu ?_;intro nv RN hN hl;obtain⟨KZ,fs,cs,rfl,hg,hc⟩:=hrun tr nv RN hN;refine AZ 14 [] Z<|zF Z Z Z Z CG<|Hz Z<|AP 10 [32] Z<|RV (H1:=[]) (H2:=[_]) Z hg Z hc Ez Aw<|AY 2 [] Z<|T.ex (fun _=>Bd Lu) ?_;intro tr';refine T.MX Lu ?_;intro Lc Y0 hN' hl';exact AZ 5 [] Z<|Le Z (IL (zM hN')) (Jl (zM hN') CG)<|AY 2 [] Z<|T.BC Z fun W D h=>⟨D,⟨rfl,rfl,tr',Lc,Y0,hN',h⟩,fun _ hk=>hk⟩
theorem CA{m:St}(hn:m.next= .nil):Cv C 260 [AX d,AX C.s] l (oN C d m) (.bool true) l (oN C d m):=by
 refine Ci 25 Tryz.func260 Z Ez fun w0 D0=>T.ex (fun _=>Bd Lu) ?_
 intro tr;refine T.MX (H:=[]) Lu ?_;intro nv RN hN hl;have hi:=zM hN;rw[hn] at hi;exact AZ 14 [] Z<|Le Z (IL hi) (Jl hi CG)<|Hz Z<|AY 6 [] Z<|T.BC Z fun W D h=>⟨D,⟨rfl,rfl,tr,nv,RN,hN,h⟩,fun _ hk=>hk⟩
theorem zN{m:St}(hu:EW m.BO)(hn:m.next= .nil):Cv C 214 [AX d] l (oN C d m) (.int .i64 m.BO) l (oN C d m):=by
 refine Ci 17 Tryz.func214 Z Ez fun w0 D0=>T.ex (fun _=>Bd Lu) ?_
 intro tr;refine T.MX (H:=[]) Lu ?_;intro nv RN hN hl;have hi:=zM hN;rw[hn] at hi;exact AZ 14 [] Z<|Le Z (IL hi) (Cp hi CG)<|Hz Z<|AP 9 [] Z<|Ic Z DY Gj (KR hu)<|AY 2 [] Z<|T.BC Z fun W D h=>⟨D,⟨rfl,rfl,tr,nv,RN,hN,h⟩,fun _ hk=>hk⟩
theorem Y1{hd:Int}{node:Bool}:Cn C 191 [.int .i64 hd,.func (.func (vD node)) #[AX C.m] #[]] l Cj l (fun q=>oN C q (.Kq hd node)):=by
 exact Ci 16 Tryz.func191 Z Aa fun w0 D0=>AZ 8 [0,8] Z<|Fp Z vR v7 Z<|F7 Z CE fun b0=>AY 16 [32] Z<|T.BC Z fun W D h=>⟨D,⟨_,rfl,rfl,_,_,_,⟨rfl,rfl⟩,h⟩,fun _ hk=>hk⟩
theorem V6{hd i:Int}{node:Bool}(hi:EW i):Cn C 187 [.int .i64 hd,.func (.func (vD node)) #[AX C.m] #[],.int .i64 i] l Cj l (fun q=>oN C q (.push hd node i)):=by
 exact Ci 26 Tryz.func187 Z Aa fun w0 D0=>AZ 8 [] Z<|Du (c:=false) Z (decide_eq_false (by have:=hi.1;omega))<|AP 2 [] Z<|Du (c:=false) Z (decide_eq_false (by have:=hi.2;omega))<|Hz Z<|AP 8 [32] Z<|Ic Z FP Ej (PE hi)<|Fp Z vR v7 Z<|F7 Z CE fun b0=>AY 16 [32] Z<|T.BC Z fun W D h=>⟨D,⟨_,rfl,rfl,_,_,_,⟨rfl,rfl⟩,h⟩,fun _ hk=>hk⟩
theorem e9{m:St}(hm:m.Ok)(hr: ∀a,Bf (ld l a))(hn:m.next≠ .nil):Xp C d m l (m.step C.M l).1 (m.step C.M l).2:=by
 cases h:m.next with
 |nil=>exact(hn h).elim
 |MS=>exact oO hm hr h
 |MV=>exact oP hm hr h
 |J4=>exact oQ hm hr h
 |MO=>exact vT hm hr h
 |OV=>exact vU hm hr h
 |Hy=>exact vV hm hr h
theorem dR{m:St}(hm:m.Ok)(hr: ∀a,Bf (ld l a)):Cv C 260 [AX d,AX C.s] l (oN C d m) (.bool (decide ((m.step C.M l).1.next= .nil))) (m.step C.M l).2 (oN C d (m.step C.M l).1):=by
 by_cases hn:m.next= .nil
 ·have e:m.step C.M l=(m,l):=by unfold St.step;rw[hn]
  rw[e];simp only[hn,decide_true];exact CA hn
 exact Nf (e9 hm hr hn)
theorem CC(x:Int):EW (lo x):=KF x
theorem St.Ef{m:St}(hm:m.Ok)(hr: ∀a,Bf (ld l a)):(m.step M l).1.Ok:=by
 obtain⟨h1,h2,h3⟩:=hm;unfold St.step;split<;>(try split)<;>exact⟨by first|exact h1|exact CC _,by first|exact h2|exact hr _,by first|exact h3|exact CC _|exact kp _⟩
def Nc(l:Dk):Prop:= ∀i,0≤l.getD i 0∧l.getD i 0≤18446744073709551615
theorem Nc.ld(h:Nc l)(a:Int):Bf (ld l a):=by
 unfold Mo.ld;split
 ·exact h _
 unfold Bf;omega
theorem Nc.put(h:Nc l){a v:Int}(hv:Bf v):Nc (put l a v):=by
 unfold Mo.put;split
 ·exact XU h _ v hv
 exact h
theorem Nc.KL(h:Nc l){a o v:Int}(hv:Bf v):Nc (KL l a o v):=by
 unfold Mo.KL;split
 ·exact h.put hv
 exact h
theorem Nc.XG(h:Nc l){a n:Int}:Nc (XG l a n):=h.put (X3 _)
theorem St.D8{m:St}(hm:m.Ok)(hr:Nc l):Nc (m.step M l).2:=by
 have hl:Bf m.Cf:=⟨hm.Cf.1,by have:=hm.Cf.2;omega⟩;unfold St.step;split<;>(try split)<;>first|exact hr|exact hr.put hl|exact hr.KL (PL hm.BO)|exact hr.KL (PL hm.Cf)
end Go.Proofs.YtmpcfamcbaineaaGreat.Mo
