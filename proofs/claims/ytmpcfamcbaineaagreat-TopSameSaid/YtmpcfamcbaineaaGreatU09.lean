/- Part 9 of the proof of the row of the law TopSame: contracts of what it reaches, and the plain law. No condition. -/
import Derived.Test.YtmpcfamcbaineaaGreatU08
set_option linter.all false
set_option maxHeartbeats 8000000
set_option maxRecDepth 100000
open Go.RowKit
namespace Go.Proofs.YtmpcfamcbaineaaGreat.Mo
variable{a:Array Operand}{b n i j t m q:Nat}{w:World}{e:GZ}{v:Value}{x:Mu}{y:Operand}{k:IntKind}{F:BB}{l l':Dk}{D:LV}{H H':List Bk}{M:Bz}{ts:List Int}{dr:Int}
namespace Iv
variable{a v j b n p w:Int}{e:Ev}{k:Nat}{q:Pl}{t:yV}{H P4 P5 hold H' T' QL SX hpm hp':List Int}{XQ:Int→Int→Prop}{y:Mk}{s:Sc}{val':Int→Int→Int}{F hps Hs F':Nat→List Int}{Bc EY:Int→Int}{x':Mu}{D:De}{ms:Nat→Mk}
open Go.Proofs.YtmpcfamcbaineaaGreat.Mo
section
variable{i:Int}
def GY:Nat→(Nat→Nat)→Nat
 |0,_=>0
 |m+1,f=>GY m f+f m
theorem QA{f g:Nat→Nat}: ∀{m:Nat},(∀j,j<m→f j=g j)→GY m f=GY m g
 |0,_=>rfl
 |m+1,h=>by
  show GY m f+f m=GY m g+g m;rw[QA fun j hj=>h j (by omega),h m (by omega)]
theorem Nw{f g:Nat→Nat}{k:Nat}: ∀{m:Nat},k<m→(∀j,j<m→j≠k→f j=g j)→GY m f+g k=GY m g+f k
 |0,hk,_=>by omega
 |m+1,hk,h=>by
  show GY m f+f m+g k=GY m g+g m+f k;by_cases e:k=m
  ·subst e;have:=QA (m:=k) (f:=f) (g:=g) fun j hj=>h j (by omega) (by omega)
   omega
  have:=Nw (m:=m) (k:=k) (f:=f) (g:=g) (by omega) fun j hj hne=>h j (by omega) hne
  have:=h m (by omega) (fun e'=>e e'.symm);omega
structure QB (M:Bz) (l l':Dk) (i:Int) (hold:List Int) (Bc EY:Int→Int):Prop where
 h4:Hd l l' 4
 h5:Hd l l' 5
 bR: ∀q,q∉hold→ld l' (M.FI q)=ld l (M.FI q)
 Tt: ∀q,q∉hold→(∀j,ld l' (M.Gp q j)=ld l (M.Gp q j))∧ld l' (M.FZ q)=ld l (M.FZ q)
 om: ∀v,0≤v→v<M.Ai→tp M l v≤tp M l' v
 dlv: ∀v,0≤v→v<M.Ai→tp M l' v=tp M l v→tp M l v<Bc v→tp M l v<EY v∧en M l' v (tp M l v)=en M l v (tp M l v)
 own: ∀v,0≤v→v<M.Ai→v≠i→EY v=Bc v∧bot M l' v=bot M l v∧ ∀k,en M l' v k=en M l v k
 ND: ∀p:Pl,p≠ .FW 4→p≠ .FW 5→(∀q,p≠ .Cf q)→(∀q j,p≠ .BN q j)→(∀q,p≠ .Bq q)→(∀v,p≠ .NS v)→(∀v,p≠ .DJ v)→(∀v k,p≠ .entry v k)→ld l' (ad M p)=ld l (ad M p)
 len:l'.length=l.length
theorem QB.refl:QB M l l i [] Bc Bc:=⟨.inl rfl,.inl rfl,fun _ _=>rfl,fun _ _=>⟨fun _=>rfl,rfl⟩,fun _ _ _=>Int.le_refl _,fun _ _ _ _ h=>⟨h,rfl⟩,fun _ _ _ _=>⟨rfl,rfl,fun _=>rfl⟩,fun _ _ _ _ _ _ _ _ _=>rfl,rfl⟩
theorem QB.F8(h:NZ M l l' hold):QB M l l' i hold Bc Bc:=by
 have et: ∀v,tp M l' v=tp M l v:=fun v=>h.ND (.NS v) (by simp) (by simp) (by simp) (by simp) (by simp)
 have eb: ∀v,bot M l' v=bot M l v:=fun v=>h.ND (.DJ v) (by simp) (by simp) (by simp) (by simp) (by simp)
 have ee: ∀v k,en M l' v k=en M l v k:=fun v k=>h.ND (.entry v _) (by simp) (by simp) (by simp) (by simp) (by simp)
 exact⟨h.h4,h.h5,h.bR,h.Tt,fun v _ _=>by rw[et];exact Int.le_refl _,fun v _ _ _ g=>⟨g,ee v _⟩,fun v _ _ _=>⟨rfl,eb v,ee v⟩,fun p a b c d e _ _ _=>h.ND p a b c d e,h.len⟩
theorem QB.BK{lv:Int}(h:QP M l l' v (Bc v) lv)(hv:v=i∨lv=Bc v∧bot M l' v=bot M l v∧ ∀k,en M l' v k=en M l v k):QB M l l' i [] Bc (fun u=>if u=v then lv else Bc u):=by
 have ot: ∀u,u≠v→tp M l' u=tp M l u:=fun u g=>h.ND (.NS u) (by simp;exact g) (by simp) (by simp)
 have ob: ∀u,u≠v→bot M l' u=bot M l u:=fun u g=>h.ND (.DJ u) (by simp) (by simp;exact g) (by simp)
 have oe: ∀u k,u≠v→en M l' u k=en M l u k:=fun u k g=>h.ND (.entry u _) (by simp) (by simp) (by simp;intro e;exact absurd e g)
 refine⟨.inl (h.ND (.FW 4) (by simp) (by simp) (by simp)),.inl (h.ND (.FW 5) (by simp) (by simp) (by simp)),fun q _=>h.ND (.Cf q) (by simp) (by simp) (by simp),fun q _=>⟨fun j=>h.ND (.BN q j) (by simp) (by simp) (by simp),h.ND (.Bq q) (by simp) (by simp) (by simp)⟩,fun u _ _=>?_,fun u _ _ g1 g2=>?_,fun u _ _ hu=>?_,fun p _ _ _ _ _ a b c=>h.ND p (a _) (b _) (c _),h.len⟩
 ·by_cases e:u=v
  ·subst e;exact h.le
  rw[ot u e];exact Int.le_refl _
 ·by_cases e:u=v
  ·subst e;simp only[if_pos];exact h.liv g1 g2
  simp only[if_neg e];exact⟨g2,oe u _ e⟩
 by_cases e:u=v
 ·subst e;simp only[if_pos];rcases hv with hv|hv
  ·exact absurd hv hu
  exact hv
 simp only[if_neg e];exact⟨trivial,ob u e,fun k=>oe u k e⟩
def cD(M:Bz)(l:Dk)(Bc:Int→Int)(t:Int):Nat:=GY M.Ai.toNat fun j=>(NY M l j (Bc j)).count t
def cP(M:Bz)(l:Dk)(P4:List Int)(t:Int):Nat:=(P4.flatMap (OL M l)).count t
theorem sU(h:VL M n l v (Bc v))(ht:tp M l' v=tp M l v)(he: ∀k,en M l' v k=en M l v k):NY M l' v (Bc v)=NY M l v (Bc v):=by
 unfold NY;rw[ht];exact OI _ _ fun k _ _=>he k
theorem SY{t:Int}(h: ∀q,q∉hold→(∀j,ld l' (M.Gp q j)=ld l (M.Gp q j))∧ld l' (M.FZ q)=ld l (M.FZ q))(hd: ∀p∈P4,p∉hold):cP M l' P4 t=cP M l P4 t:=by
 unfold cP;congr 1;induction P4 with
 |nil=>rfl
 |cons p P ih=>
  rw[List.flatMap_cons,List.flatMap_cons,ih fun q hq=>hd q (List.mem_cons_of_mem _ hq)];congr 1;have:=h p (hd p (List.mem_cons_self ..));unfold OL;rw[this.2];exact List.map_congr_left fun j _=>this.1 j
theorem lT{t:Int}:cP M l (p::P4) t=(OL M l p).count t+cP M l P4 t:=by
 unfold cP;rw[List.flatMap_cons,List.count_append]
theorem lU{lv t:Int}(hv:0≤v)(hv':v<M.Ai)(hr:QP M l l' v (Bc v) lv)(hw: ∀u,0≤u→u<M.Ai→VL M n l u (Bc u)):
  cD M l' (fun u=>if u=v then lv else Bc u) t+(NY M l v (Bc v)).count t=cD M l Bc t+(NY M l' v lv).count t:=by
 have:=Nw (m:=M.Ai.toNat) (k:=v.toNat) (f:=fun j=>(NY M l' j ((fun u=>if u=v then lv else Bc u) j)).count t) (g:=fun j=>(NY M l j (Bc j)).count t) (by omega) (fun j hj hne=>by
  have hne':(j:Int)≠v:=by omega
  simp only[if_neg hne'];rw[sU (hw j (by omega) (by omega)) (hr.ND (.NS j) (by simp;exact hne') (by simp) (by simp)) (fun k=>hr.ND (.entry j _) (by simp) (by simp) (by simp;intro e;exact absurd e hne'))])
 have ev:((v.toNat:Nat):Int)=v:=Int.toNat_of_nonneg hv;simp only[ev,if_pos] at this;exact this
theorem mf{t:Int}(hw: ∀u,0≤u→u<M.Ai→VL M n l u (Bc u))(ht: ∀v,tp M l' v=tp M l v)(he: ∀v k,en M l' v k=en M l v k):cD M l' Bc t=cD M l Bc t:=
 QA fun j hj=>by rw[sU (hw j (by omega) (by omega)) (ht _) (he _)]
theorem VL.mono(h:VL M n l v (Bc v))(ht:tp M l' v=tp M l v)(hb:bot M l' v=bot M l v):VL M (n+1) l' v (Bc v):=
 ⟨by rw[ht];exact h.t0,by rw[ht];exact h.tl,by have:=h.ln;omega,by rw[ht];exact h.rm,by rw[hb];exact h.bw⟩
theorem Ny(h:NZ M l l' hold)(hw: ∀u,0≤u→u<M.Ai→VL M n l u (Bc u)): ∀u,0≤u→u<M.Ai→VL M (n+1) l' u (Bc u):=fun u h0 h1=>
 (hw u h0 h1).mono (h.ND (.NS u) (by simp) (by simp) (by simp) (by simp) (by simp)) (h.ND (.DJ u) (by simp) (by simp) (by simp) (by simp) (by simp))
theorem Yj{lv:Int}(hr:QP M l l' v (Bc v) lv)(hw: ∀u,0≤u→u<M.Ai→VL M n l u (Bc u))(hv:VL M (n+1) l' v lv): ∀u,0≤u→u<M.Ai→VL M (n+1) l' u ((fun u=>if u=v then lv else Bc u) u):=fun u h0 h1=>by
 by_cases e:u=v
 ·subst e;simp only[if_pos];exact hv
 simp only[if_neg e];exact(hw u h0 h1).mono (hr.ND (.NS u) (by simp;exact e) (by simp) (by simp)) (hr.ND (.DJ u) (by simp) (by simp;exact e) (by simp))
theorem Yk{lv:Int}(hr:QP M l l' v (Bc v) lv)(hP:Jp M n l P4 P5):Jp M (n+1) l' P4 P5:=by
 have e4:ld l' 4=ld l 4:=hr.ND (.FW 4) (by simp) (by simp) (by simp);have e5:ld l' 5=ld l 5:=hr.ND (.FW 5) (by simp) (by simp) (by simp);have lk: ∀q,ld l' (M.FI q)=ld l (M.FI q):=fun q=>hr.ND (.Cf q) (by simp) (by simp) (by simp)
 have t4:=hP.t4;have t5:=hP.t5;exact⟨by rw[e4];exact hP.c4.frame fun v _=>lk v,by rw[e5];exact hP.c5.frame fun v _=>lk v,by rw[e4];omega,by rw[e5];omega,fun p hp=>by rw[show ld l' (M.FZ p)=ld l (M.FZ p) from hr.ND (.Bq p) (by simp) (by simp) (by simp)];exact hP.mn p hp⟩
theorem mg{lv t:Int}(hr:QP M l l' v (Bc v) lv):cP M l' P4 t=cP M l P4 t:=
 SY (hold:=[]) (fun q _=>⟨fun j=>hr.ND (.BN q j) (by simp) (by simp) (by simp),hr.ND (.Bq q) (by simp) (by simp) (by simp)⟩) (fun _ _=>by simp)
theorem S9{t:Int}(h:NZ M l l' hold)(hw: ∀u,0≤u→u<M.Ai→VL M n l u (Bc u)):cD M l' Bc t=cD M l Bc t:=
 mf hw (fun v=>h.ND (.NS v) (by simp) (by simp) (by simp) (by simp) (by simp)) (fun v k=>h.ND (.entry v _) (by simp) (by simp) (by simp) (by simp) (by simp))
def MK(b:uI):List Int:=if b.BI=0 then[] else[b.BI]
def Gf(M:Bz)(l:Dk)(b:uI):List Int:=if b.BI=0 then[] else(List.range (b.Bq-b.at_).toNat).map fun(j:Nat)=>ld l (M.Gp b.BI (b.at_+j))
def lV(b:uI):Prop:=0≤b.at_∧b.at_≤4∧0≤b.Bq∧b.Bq≤4
theorem Ji{b:uI}(h: ∀q,q∉hold→(∀j,ld l' (M.Gp q j)=ld l (M.Gp q j))∧ld l' (M.FZ q)=ld l (M.FZ q))(hb: ∀q∈MK b,q∉hold):Gf M l' b=Gf M l b:=by
 unfold Gf;split
 ·rfl
 rename_i e;have:=h b.BI (hb _ (by unfold MK;rw[if_neg e];simp));exact List.map_congr_left fun j _=>this.1 _
theorem yC{b:uI}(h0:b.BI≠0)(h:b.at_<b.Bq):Gf M l b=ld l (M.Gp b.BI b.at_)::Gf M l ⟨b.BI,b.at_+1,b.Bq⟩:=by
 unfold Gf;rw[if_neg h0,if_neg h0,show(b.Bq-b.at_).toNat=(b.Bq-(b.at_+1)).toNat+1 by omega,List.range_succ_eq_map,List.map_cons,List.map_map];congr 1
 ·rw[show b.at_+((0:Nat):Int)=b.at_ by omega]
 exact List.map_congr_left fun j _=>by
  show ld l (M.Gp b.BI (b.at_+((j+1:Nat):Int)))=ld l (M.Gp b.BI (b.at_+1+(j:Int)));rw[show b.at_+((j+1:Nat):Int)=b.at_+1+(j:Int) by omega]
theorem AE{b:uI}(h: ¬(b.BI≠0∧b.at_<b.Bq)):Gf M l b=[]:=by
 unfold Gf;split
 ·rfl
 rename_i e;rw[show(b.Bq-b.at_).toNat=0 by omega];rfl
theorem AF(hp:p≠0)(h:ld l (M.FZ p)≤4):Gf M l ⟨p,0,min (ld l (M.FZ p)) 4⟩=OL M l p:=by
 unfold Gf OL;rw[if_neg hp];simp only;rw[show(min (ld l (M.FZ p)) 4-0).toNat=(ld l (M.FZ p)).toNat by omega];exact List.map_congr_left fun j _=>by rw[Int.zero_add]
def bS(M:Bz)(l:Dk)(i:Int)(Bc:Int→Int)(x:Sk)(hp H:List Int):Prop:=
 x.i=i∧lV x.FY∧match x.next with
 | .own=>x.Ep=false∧ ∃Ho,sO M l i x.CS (Bc i) Ho∧x.CS.next≠ .nil∧hp=MK x.FY∧H=Gf M l x.FY++Ho
 | .first=>x.Ep=false∧bot M l i=Bc i∧(x.FY.BI≠0∧x.FY.at_<x.FY.Bq)∧hp=MK x.FY∧H=Gf M l x.FY
 | .Jr=>x.Ep=false∧bot M l i=Bc i∧x.FY=QT∧H=[]∧ ∃q,lu M l x.Dx q∧hp=[q]
 | .take=>x.Ep=false∧bot M l i=Bc i∧x.FY=QT∧H=[]∧hp=[]∧lq M l x.Dx
 | .Bq=>x.Ep=false∧bot M l i=Bc i∧x.FY=QT∧x.Dx.p≠0∧hp=[x.Dx.p]∧H=OL M l x.Dx.p∧(1≤ld l (M.FZ x.Dx.p)∧ld l (M.FZ x.Dx.p)≤4)
 | .NT=>x.Ep=false∧bot M l i=Bc i∧x.FY=QT∧H=[]∧hp=[]∧x.CS.next≠ .nil∧ ∃v,0≤v∧v<M.Ai∧RD M l v x.CS (Bc v)
 | .nil=>bot M l i=Bc i∧hp=MK x.FY∧H=Gf M l x.FY++(if x.Ep=true then[x.BN] else[])
def AG(M:Bz)(l:Dk)(i:Int)(Bc:Int→Int)(x:Ad)(hp H:List Int):Prop:=
 match x.next with
 | .own=>ZU M l i x.push (Bc i) x.BN∧hp=[]∧H=[x.BN]
 | .F8=>bot M l i=Bc i∧XP M l x.put [x.BN] hp∧H=[x.BN]
 | .nil=>False
end
open Go.Proofs.YtmpcfamcbaineaaGreat.Mo
section
variable{i:Int}
theorem QB.LK{hold':List Int}(h:QB M l l' a hold Bc EY)(hs: ∀q∈hold,q∈hold'):QB M l l' a hold' Bc EY:=
 ⟨h.h4,h.h5,fun q hq=>h.bR q fun g=>hq (hs q g),fun q hq=>h.Tt q fun g=>hq (hs q g),h.om,h.dlv,h.own,h.ND,h.len⟩
theorem gX{m:Dq}{lim lim':Int}(h:sO M l i m lim H)(el:lim'=lim)(eb:bot M l' i=bot M l i)(ee: ∀k,en M l' i k=en M l i k)(ht:tp M l i≤tp M l' i):sO M l' i m lim' H:=by
 subst el;obtain⟨h1,h2⟩:=h;refine⟨h1,?_⟩;cases hx:m.next<;>rw[hx] at h2<;>simp only[eb,ee] at h2⊢
 ·exact h2
 ·exact h2
 ·exact h2
 ·exact h2
 ·obtain⟨a,b,c⟩:=h2;exact⟨a,by omega,c⟩
 ·obtain⟨a,b,c,d,e,f⟩:=h2;exact⟨a,b,c,d,by omega,f⟩
 exact h2
theorem ZW{m:Dq}{lim lim':Int}(h:ZU M l i m lim w)(el:lim'=lim)(eb:bot M l' i=bot M l i)(ee: ∀k,en M l' i k=en M l i k)(ht:tp M l i≤tp M l' i):ZU M l' i m lim' w:=by
 subst el;obtain⟨h1,h3,h2⟩:=h;refine⟨h1,eb.trans h3,?_⟩;cases hx:m.next<;>rw[hx] at h2<;>simp only[ee] at h2⊢
 ·exact h2
 ·exact h2
 ·obtain⟨a,b,c⟩:=h2;exact⟨a,b,by omega⟩
 obtain⟨a,b,c⟩:=h2;exact⟨a,by omega,c⟩
theorem T7{m:Dq}(hr:QB M l l' a hold Bc EY)(h0:0≤v)(h1:v<M.Ai)(h:RD M l v m (Bc v)):RD M l' v m (EY v):=by
 obtain⟨g1,g2⟩:=h;have hle:=hr.om v h0 h1;have hlv:=hr.dlv v h0 h1;refine⟨g1,?_⟩;cases hx:m.next<;>rw[hx] at g2<;>simp only at g2⊢
 ·omega
 ·obtain⟨a1,a2,a3⟩:=g2;refine⟨a1,by omega,fun g=>?_⟩;have e:tp M l v=m.t:=by omega
  have:=hlv (by omega) (by rw[e];exact a3 e);omega
 obtain⟨a1,a2,a3⟩:=g2;refine⟨a1,by omega,fun g=>?_⟩;have e:tp M l v=m.t:=by omega
 have:=hlv (by omega) (by rw[e];exact(a3 e).1);rw[e] at this;exact⟨this.1,by rw[this.2];exact(a3 e).2⟩
structure E1 (M:Bz) (n:Int) (l:Dk) (Bc:Int→Int) (P4 P5 hp:List Int):Prop where
 len:l.length=M.all.toNat
 dq: ∀u,0≤u→u<M.Ai→VL M n l u (Bc u)
 F8:Jp M n l P4 P5
 nd:(P4++P5++hp).Nodup
 rg: ∀p∈P4++P5++hp,1≤p∧p≤M.Bq
theorem E1.r9{hp:List Int}(h:E1 M n l Bc P4 P5 hp): ∀p∈P4++P5,p∉hp:=fun p h1 h2=>by
 have:=h.nd;rw[List.nodup_append] at this;exact this.2.2 p h1 p h2 rfl
theorem mi{x:St}(hP:Jp M n l P4 P5)(hr:QB M l l' b hold Bc EY)(hd: ∀p∈P4++P5,p∉hold)(ha:Ug x a)(hp:Nv x)(hI:sI M l x):sI M l' x:=by
 obtain⟨nd,hd',ha'⟩:=ha;have np: ¬LM x:=by
  rintro(h|h|h)<;>rcases hp with g|g|g<;>rw[h] at g<;>cases g
 rcases ha' with rfl|rfl
 ·exact hI.mono (L:=P4) (fun _=>by rw[nd,hd'];exact hP.c4) (by rw[hd'];exact hr.h4) (fun g=>absurd g np) (fun _ _ v hv=>by rw[nd];exact hr.bR v (hd v (List.mem_append_left _ hv)))
 exact hI.mono (L:=P5) (fun _=>by rw[nd,hd'];exact hP.c5) (by rw[hd'];exact hr.h5) (fun g=>absurd g np) (fun _ _ v hv=>by rw[nd];exact hr.bR v (hd v (List.mem_append_right _ hv)))
theorem sV{x:St}(hr:QB M l l' b hold Bc EY)(hd:x.BO∉hold)(ha:Ug x a)(hp:LM x)(hI:sI M l x):sI M l' x:=by
 obtain⟨nd,hd',ha'⟩:=ha;have np: ¬Nv x:=by
  rintro(h|h|h)<;>rcases hp with g|g|g<;>rw[h] at g<;>cases g
 exact hI.mono (L:=[]) (fun g=>absurd g np) (by rw[hd'];rcases ha' with rfl|rfl;exact hr.h4;exact hr.h5) (fun _=>by rw[nd];exact hr.bR _ hd) (fun g=>absurd g np)
theorem bX{x:Pk}{own:List Int}(hP:Jp M n l P4 P5)(hr:QB M l l' b hold Bc EY)(hd: ∀p∈P4++P5,p∉hold)(ho: ∀p∈own,p∉hold)(h:XP M l x ts own):XP M l' x ts own:=by
 obtain⟨h1,h2,h3,h4⟩:=h;refine⟨h1,h2,h3,?_⟩;cases hx:x.next<;>rw[hx] at h4<;>simp only at h4⊢
 ·obtain⟨a,b,c,d,e⟩:=h4;exact⟨a,b,mi hP hr hd a b c,d,e⟩
 ·obtain⟨a,b,c⟩:=h4;have hq:=(hr.Tt x.p (ho _ (by rw[a];simp))).1;exact⟨a,b,fun j hj=>by rw[hq];exact c j hj⟩
 ·obtain⟨a,c⟩:=h4;have hq:=(hr.Tt x.p (ho _ (by rw[a];simp))).1;exact⟨a,fun j hj=>by rw[hq];exact c j hj⟩
 obtain⟨a,b,c,d,e,f⟩:=h4;have hn:=ho x.Dp.BO (by rw[d];simp);have hq:=hr.Tt x.Dp.BO hn;exact⟨a,b,sV hr hn a b c,d,by rw[hq.2];exact e,fun j hj=>by rw[hq.1];exact f j hj⟩
theorem Ac3{x:Sk}{hp:List Int}(hP:Jp M n l P4 P5)(hr:QB M l l' a hold Bc EY)(hd: ∀p∈P4++P5,p∉hold)(ho: ∀p∈hp,p∉hold)(hi:0≤i)(hi':i<M.Ai)(hia:i≠a)(h:bS M l i Bc x hp H):bS M l' i EY x hp H:=by
 obtain⟨h1,h2,h3⟩:=h;obtain⟨el,eb,ee⟩:=hr.own i hi hi' hia;refine⟨h1,h2,?_⟩;cases hx:x.next<;>rw[hx] at h3<;>simp only at h3⊢
 ·obtain⟨a1,rfl,rfl⟩:=h3;exact⟨by rw[eb,el];exact a1,rfl,by rw[Ji hr.Tt ho]⟩
 ·obtain⟨a1,Ho,a2,a3,rfl,rfl⟩:=h3;exact⟨a1,Ho,gX a2 el eb ee (hr.om i hi hi'),a3,rfl,by rw[Ji hr.Tt ho]⟩
 ·obtain⟨a1,a2,a3,rfl,rfl⟩:=h3;exact⟨a1,by rw[eb,el];exact a2,a3,rfl,by rw[Ji hr.Tt ho]⟩
 ·obtain⟨a1,a2,a3,a4,q,a5,rfl⟩:=h3;exact⟨a1,by rw[eb,el];exact a2,a3,a4,q,⟨a5.1,a5.2.1,a5.2.2.1,sV hr (by rw[a5.2.2.2.2];exact ho q (by simp)) a5.2.1 a5.2.2.1 a5.2.2.2.1,a5.2.2.2.2⟩,rfl⟩
 ·obtain⟨a1,a2,a3,a4,a5,a6⟩:=h3;exact⟨a1,by rw[eb,el];exact a2,a3,a4,a5,a6.1,a6.2.1,a6.2.2.1,mi hP hr hd a6.2.1 a6.2.2.1 a6.2.2.2⟩
 ·obtain⟨a1,a2,a3,a4,rfl,rfl,a5⟩:=h3;have hq:=hr.Tt x.Dx.p (ho _ (by simp));refine⟨a1,by rw[eb,el];exact a2,a3,a4,rfl,?_,by rw[hq.2];exact a5⟩;unfold OL;rw[hq.2];exact List.map_congr_left fun j _=>(hq.1 j).symm
 obtain⟨a1,a2,a3,a4,a5,a6,v,v0,v1,a7⟩:=h3;exact⟨a1,by rw[eb,el];exact a2,a3,a4,a5,a6,v,v0,v1,T7 hr v0 v1 a7⟩
theorem Ac4{x:Ad}{hp:List Int}(hP:Jp M n l P4 P5)(hr:QB M l l' a hold Bc EY)(hd: ∀p∈P4++P5,p∉hold)(ho: ∀p∈hp,p∉hold)(hi:0≤i)(hi':i<M.Ai)(hia:i≠a)(h:AG M l i Bc x hp H):AG M l' i EY x hp H:=by
 obtain⟨el,eb,ee⟩:=hr.own i hi hi' hia;unfold AG at h⊢
 cases hx:x.next<;>rw[hx] at h<;>simp only at h⊢
 ·obtain⟨a1,a2,a3⟩:=h;exact⟨ZW a1 el eb ee (hr.om i hi hi'),a2,a3⟩
 obtain⟨a1,a2,a3⟩:=h;exact⟨by rw[eb,el];exact a1,bX hP hr hd ho a2,a3⟩
theorem sW(hL:La M){x:Sk}{hp:List Int}(h1:x.i=i)(h2:lV x.FY)(hf:x.Ep=false)(hb:bot M l i=Bc i)(hh:hp=MK x.FY)(hrg: ∀p∈hp,1≤p∧p≤M.Bq): ∃hp',hp'=hp∧bS M l i Bc (x.JS M) hp' (Gf M l x.FY):=by
 refine⟨hp,rfl,?_⟩;unfold Mo.Sk.JS;by_cases h:x.FY.BI≠0∧x.FY.at_<x.FY.Bq
 ·rw[if_pos h];exact⟨h1,h2,hf,hb,h,hh,rfl⟩
 rw[if_neg h,AE h];by_cases h0:x.FY.BI=0
 ·have hl:M.FI x.FY.BI<0:=by
   rw[h0];unfold Bz.FI Bz.BI;rw[if_pos (.inl (by omega))];omega
  rw[if_pos hl];exact⟨h1,by unfold lV QT;simp,hf,hb,rfl,rfl,by rw[hh];unfold MK;rw[if_pos h0],sS⟩
 have hm:x.FY.BI∈hp:=by rw[hh];unfold MK;rw[if_neg h0];simp
 have hq:=hrg _ hm;have hl: ¬M.FI x.FY.BI<0:=by have:=Vx hL hq.1 hq.2;show¬ad M (.Cf x.FY.BI)<0;omega
 rw[if_neg hl];exact⟨h1,by unfold lV QT;simp,hf,hb,rfl,rfl,x.FY.BI,Lq hL hq,by rw[hh];unfold MK;rw[if_neg h0]⟩
structure O1 (M:Bz) (n:Int) (l l':Dk) (i:Int) (Bc EY:Int→Int) (P4 P5 hp QL SX hp' H H':List Int):Prop where
 z:QB M l l' i hp Bc EY
 dq: ∀u,0≤u→u<M.Ai→VL M (n+1) l' u (EY u)
 F8:Jp M (n+1) l' QL SX
 pm:List.Perm (QL++SX++hp') (P4++P5++hp)
 ct: ∀t,cD M l' EY t+H'.count t+cP M l' QL t=cD M l Bc t+H.count t+cP M l P4 t
theorem O1.keep{hp:List Int}(hE:E1 M n l Bc P4 P5 hp)(hc: ∀t,H'.count t=H.count t):O1 M n l l i Bc Bc P4 P5 hp P4 P5 hp H H':=
 ⟨QB.refl.LK (by simp),fun u h0 h1=>(hE.dq u h0 h1).mono rfl rfl,⟨hE.F8.c4,hE.F8.c5,by have:=hE.F8.t4;omega,by have:=hE.F8.t5;omega,hE.F8.mn⟩,.refl _,fun t=>by rw[hc t]⟩
theorem cA(hL:La M)(hn:n<900000)(hi:0≤i)(hi':i<M.Ai){x:Sk}{hp:List Int}(hE:E1 M n l Bc P4 P5 hp)(h:bS M l i Bc x hp H)(hnn:x.next≠ .nil):
  ∃EY QL SX hp' H',O1 M n l (x.step M l).2 i Bc EY P4 P5 hp QL SX hp' H H'∧bS M (x.step M l).2 i EY (x.step M l).1 hp' H':=by
 obtain⟨h1,h2,h3⟩:=h;have hrg: ∀p∈hp,1≤p∧p≤M.Bq:=fun p hp'=>hE.rg p (List.mem_append_right _ hp')
 unfold Mo.Sk.step;cases hx:x.next<;>rw[hx] at h3<;>simp only at h3⊢
 ·exact absurd hx hnn
 ·obtain⟨a1,Ho,a2,a3,rfl,rfl⟩:=h3;obtain⟨lim',oo,b1,b2,b3,b4⟩:=rR hL hE.len hi hi' hn (hE.dq i hi hi') a2;have hb:Gf M (x.CS.step l).2 x.FY=Gf M l x.FY:=Ji (hold:=[]) (fun q _=>⟨fun j=>b4.ND (.BN q j) (by simp) (by simp) (by simp),b4.ND (.Bq q) (by simp) (by simp) (by simp)⟩) (by simp);obtain⟨L',hL'⟩: ∃L',L'=fun u=>if u=i then lim' else Bc u:=⟨_,rfl⟩
  have hO: ∀H',(∀t,H'.count t=(Gf M l x.FY).count t+oo.count t)→O1 M n l (x.CS.step l).2 i Bc L' P4 P5 (MK x.FY) P4 P5 (MK x.FY) (Gf M l x.FY++Ho) H':=fun H' hH=>
   hL'▸⟨(QB.BK b4 (.inl rfl)).LK (by simp),Yj b4 hE.dq b1,Yk b4 hE.F8,.refl _,fun t=>by
    have g1:=lU (t:=t) hi hi' b4 hE.dq;have g2:=b3.count_eq t;have g3:=mg (P4:=P4) (t:=t) b4;rw[List.count_append,List.count_append] at g2;rw[hH,List.count_append,g3];omega⟩
  have el:L' i=lim':=by rw[hL'];exact if_pos rfl
  by_cases hnil:(x.CS.step l).1.next= .nil
  ·rw[if_pos hnil];obtain⟨c1,c2⟩:=b2;rw[hnil] at c2;obtain⟨c2,c3⟩:=c2;by_cases ho:(x.CS.step l).1.out=1
   ·rw[if_pos ho];rw[if_pos ho] at c3;refine⟨_,P4,P5,MK x.FY,Gf M l x.FY++oo,hO _ (fun t=>by rw[List.count_append]),h1,h2,?_,rfl,?_⟩
    ·rw[el];exact c2
    show _=Gf M (x.CS.step l).2 x.FY++_;rw[hb,c3];rfl
   rw[if_neg ho];rw[if_neg ho] at c3;obtain⟨hp',rfl,d⟩:=sW (Bc:=L') (l:=(x.CS.step l).2) hL (x:={x with CS:=(x.CS.step l).1}) h1 h2 a1 (by rw[el];exact c2) rfl hrg;exact⟨_,P4,P5,MK x.FY,_,hO _ (fun t=>by rw[show Gf M (x.CS.step l).2 ({x with CS:=(x.CS.step l).1}:Sk).FY=Gf M l x.FY from hb,c3];simp),d⟩
  rw[if_neg hnil];refine⟨_,P4,P5,MK x.FY,Gf M l x.FY++oo,hO _ (fun t=>by rw[List.count_append]),h1,h2,?_⟩;simp only[hx];exact⟨a1,oo,by rw[el];exact b2,hnil,trivial,by rw[hb]⟩
 ·obtain⟨a1,a2,a3,rfl,rfl⟩:=h3;refine⟨Bc,P4,P5,MK x.FY,Gf M l ⟨x.FY.BI,x.FY.at_+1,x.FY.Bq⟩++[ld l (M.Gp x.FY.BI x.FY.at_)],.keep hE (fun t=>?_),h1,⟨by have:=h2.1;show 0≤x.FY.at_+1;omega,by have:=h2.2.2.2;have:=a3.2;show x.FY.at_+1≤4;omega,h2.2.2⟩,a2,rfl,rfl⟩;rw[yC a3.1 a3.2,List.count_append,List.count_cons,List.count_cons];simp
 ·obtain⟨a1,a2,a3,rfl,q,a5,rfl⟩:=h3;have hq:=hrg q (by simp);have hdis:=hE.r9;obtain⟨b1,b2⟩:=T6 hL hE.len a5 hE.F8 hn hq (fun g=>hdis q (List.mem_append_left _ g) (by simp)) (fun g=>hdis q (List.mem_append_right _ g) (by simp));have eb:bot M (x.Dx.step M l).2 i=bot M l i:=b1.ND (.DJ i) (by simp) (by simp) (by simp) (by simp) (by simp);have hct: ∀t,cD M (x.Dx.step M l).2 Bc t+([]:List Int).count t+cP M (x.Dx.step M l).2 P4 t=cD M l Bc t+([]:List Int).count t+cP M l P4 t:=fun t=>by
   rw[S9 b1 hE.dq,SY b1.Tt (fun p hp=>hdis p (List.mem_append_left _ hp))]
  rcases b2 with⟨c1,c2⟩|⟨c1,c2⟩
  ·rw[if_neg (by rw[c1.1];simp)];refine⟨Bc,P4,P5,[q],[],⟨QB.F8 b1,Ny b1 hE.dq,c2,.refl _,hct⟩,h1,h2,?_⟩;simp only[hx];exact⟨a1,by rw[eb];exact a2,a3,trivial,q,c1,rfl⟩
  rw[if_pos c1];refine⟨Bc,P4,q::P5,[],[],⟨QB.F8 b1,Ny b1 hE.dq,c2,?_,hct⟩,h1,h2,a1,by rw[eb];exact a2,a3,rfl,rfl,sS⟩;rw[List.append_nil,List.append_assoc];exact List.Perm.append_left _ (List.perm_append_singleton ..).symm
 ·obtain⟨a1,a2,a3,rfl,rfl,a6⟩:=h3;obtain⟨b1,b2⟩:=T5 hL hE.len a6 hE.F8 hn;have eb:bot M (x.Dx.step M l).2 i=bot M l i:=b1.ND (.DJ i) (by simp) (by simp) (by simp) (by simp) (by simp);have hcp: ∀P t,cP M (x.Dx.step M l).2 P t=cP M l P t:=fun P t=>SY b1.Tt (fun _ _=>by simp)
  have hct: ∀t,cD M (x.Dx.step M l).2 Bc t+([]:List Int).count t+cP M (x.Dx.step M l).2 P4 t=cD M l Bc t+([]:List Int).count t+cP M l P4 t:=fun t=>by rw[S9 b1 hE.dq,hcp]
  rcases b2 with⟨c1,c2⟩|⟨c1,c2,c3⟩|⟨c1,c2,P',c3,c4⟩
  ·rw[if_neg (by rw[c1.1];simp)];refine⟨Bc,P4,P5,[],[],⟨QB.F8 b1,Ny b1 hE.dq,c2,.refl _,hct⟩,h1,h2,?_⟩;simp only[hx];exact⟨a1,by rw[eb];exact a2,a3,trivial,trivial,c1⟩
  ·rw[if_pos c1,if_neg (by rw[c2];simp)];have hO:O1 M n l (x.Dx.step M l).2 i Bc Bc P4 P5 [] P4 P5 [] [] []:=⟨QB.F8 b1,Ny b1 hE.dq,c3,.refl _,hct⟩;by_cases hv:JR M.Ai x.i x.ER≥0
   ·rw[if_pos hv];obtain⟨v0,v1⟩:=TV hL hv;exact⟨Bc,P4,P5,[],[],hO,h1,h2,a1,by rw[eb];exact a2,a3,rfl,rfl,by simp[Mo.Dq.NT],_,v0,v1,rfl,trivial⟩
   rw[if_neg hv];refine⟨Bc,P4,P5,[],[],hO,h1,h2,by rw[eb];exact a2,?_,?_⟩
   ·show[]=MK x.FY;rw[a3];rfl
   show[]=Gf M (x.Dx.step M l).2 x.FY++(if x.Ep=true then _ else[]);rw[a3,a1];rfl
  rw[if_pos c1,if_pos c2];have hmn:=hE.F8.mn (x.Dx.step M l).1.p (by rw[c3];exact List.mem_cons_self ..);have emn:=(b1.Tt (x.Dx.step M l).1.p (by simp)).2;refine⟨Bc,P',P5,[(x.Dx.step M l).1.p],OL M (x.Dx.step M l).2 (x.Dx.step M l).1.p,⟨QB.F8 b1,Ny b1 hE.dq,c4,?_,fun t=>?_⟩,h1,h2,a1,by rw[eb];exact a2,a3,c2,rfl,rfl,by rw[emn];exact hmn⟩
  ·rw[List.append_nil];refine(List.perm_append_singleton ..).trans ?_
   conv=>rhs;rw[c3]
   exact .refl _
  have e1:=hcp P' t;rw[S9 b1 hE.dq,e1,c3,lT,yA b1 (by simp)];simp;omega
 ·obtain⟨a1,a2,a3,a4,rfl,rfl,a5⟩:=h3;have hR:lV ⟨x.Dx.p,0,min (ld l (M.FZ x.Dx.p)) 4⟩:=⟨Int.le_refl _,by simp,by simp only;omega,by simp only;omega⟩;obtain⟨hp',rfl,d⟩:=sW (Bc:=Bc) (l:=l) (hp:=[x.Dx.p]) hL (x:={x with FY:=⟨x.Dx.p,0,min (ld l (M.FZ x.Dx.p)) 4⟩}) h1 hR a1 a2 (by unfold MK;simp only;rw[if_neg a4]) hrg;refine⟨Bc,P4,P5,_,_,.keep hE (fun t=>?_),d⟩;show(Gf M l ⟨x.Dx.p,0,min (ld l (M.FZ x.Dx.p)) 4⟩).count t=_;rw[AF a4 a5.2]
 obtain⟨a1,a2,a3,rfl,rfl,a6,v,v0,v1,a7⟩:=h3;obtain⟨b1,b2,b3,b4,b5,b6⟩:=Lg hL hE.len v0 v1 hn (hE.dq v v0 v1) a7 a6;have el:(fun u=>if u=v then Bc v else Bc u)=Bc:=funext fun u=>by
  by_cases e:u=v
  ·subst e;simp
  simp[e]
 have eb:bot M (x.CS.step l).2 i=bot M l i:=by
  by_cases e:i=v
  ·subst e;exact b4
  exact b3.ND (.DJ i) (by simp) (by simp;exact e) (by simp)
 have hz:QB M l (x.CS.step l).2 i [] Bc Bc:=by have:=QB.BK (i:=i) (Bc:=Bc) b3 (.inr ⟨rfl,b4,b5⟩);rw[el] at this;exact this
 have hdq: ∀u,0≤u→u<M.Ai→VL M (n+1) (x.CS.step l).2 u (Bc u):=by have:=Yj (Bc:=Bc) b3 hE.dq b1;rw[el] at this;exact this
 have hcd: ∀t,cD M (x.CS.step l).2 Bc t+(NY M l v (Bc v)).count t=cD M l Bc t+(NY M (x.CS.step l).2 v (Bc v)).count t:=fun t=>by have:=lU (t:=t) v0 v1 b3 hE.dq;rw[el] at this;exact this
 have hcp: ∀t,cP M (x.CS.step l).2 P4 t=cP M l P4 t:=fun t=>mg b3
 have hO: ∀H',(∀t,H'.count t+(NY M (x.CS.step l).2 v (Bc v)).count t=(NY M l v (Bc v)).count t)→O1 M n l (x.CS.step l).2 i Bc Bc P4 P5 [] P4 P5 [] [] H':=fun H' hH=>
  ⟨hz,hdq,Yk b3 hE.F8,.refl _,fun t=>by have:=hcd t;have:=hH t;rw[hcp t];simp;omega⟩
 by_cases hnil:(x.CS.step l).1.next= .nil
 ·rw[if_pos hnil];rcases b6 with⟨c1,c2⟩|⟨-,c1,c2⟩
  ·rw[if_neg (c1 hnil)];refine⟨Bc,P4,P5,[],[],hO [] (fun t=>by rw[c2];simp),h1,h2,by rw[eb];exact a2,?_,?_⟩
   ·show[]=MK x.FY;rw[a3];rfl
   show[]=Gf M _ x.FY++(if x.Ep=true then _ else[]);rw[a3,a1];rfl
  rw[if_pos c1];refine⟨Bc,P4,P5,[],[(x.CS.step l).1.w],hO _ (fun t=>by rw[c2,List.count_cons,List.count_cons,List.count_nil];omega),h1,h2,by rw[eb];exact a2,?_,?_⟩
  ·show[]=MK x.FY;rw[a3];rfl
  show _=Gf M _ x.FY++_;rw[a3];rfl
 rw[if_neg hnil];rcases b6 with⟨c1,c2⟩|⟨c0,-,-⟩
 ·refine⟨Bc,P4,P5,[],[],hO [] (fun t=>by rw[c2];simp),h1,h2,?_⟩;simp only[hx];exact⟨a1,by rw[eb];exact a2,a3,trivial,trivial,hnil,v,v0,v1,b2⟩
 exact absurd c0 hnil
end
open Go.Proofs.YtmpcfamcbaineaaGreat.Mo
section
variable{i:Int}
theorem cB(hL:La M)(hn:n<900000)(hi:0≤i)(hi':i<M.Ai){x:Ad}{hp:List Int}(hE:E1 M n l Bc P4 P5 hp)(h:AG M l i Bc x hp H):
  ∃EY QL SX hp' H',O1 M n l (x.step M l).2 i Bc EY P4 P5 hp QL SX hp' H H'∧(x.step M l).1.BN=x.BN∧
   (((x.step M l).1.next≠ .nil∧AG M (x.step M l).2 i EY (x.step M l).1 hp' H')∨((x.step M l).1.next= .nil∧hp'=[]∧H'=[]∧bot M (x.step M l).2 i=EY i)):=by
 unfold AG at h;unfold Mo.Ad.step;have hdis:=hE.r9;cases hx:x.next<;>rw[hx] at h<;>simp only at h⊢
 ·obtain⟨a1,rfl,rfl⟩:=h;have hlim:(fun u=>if u=i then Bc i else Bc u)=Bc:=funext fun u=>by
   by_cases e:u=i
   ·subst e;simp
   simp[e]
  rcases T1 hL hE.len hi hi' hn (hE.dq i hi hi') a1 with⟨b1,b2,b3,b4⟩|⟨b1,b2,b3⟩|⟨b1,b2,b3,b4,b5,b6⟩
  ·have hnil:(x.push.step l).1.next≠ .nil:=fun e=>by have:=b2.2.2;rw[e] at this;exact this
   rw[if_neg hnil];have hz:QB M l (x.push.step l).2 i [] Bc Bc:=by have:=QB.BK (i:=i) (Bc:=Bc) b4 (.inl rfl);rw[hlim] at this;exact this
   have hdq: ∀u,0≤u→u<M.Ai→VL M (n+1) (x.push.step l).2 u (Bc u):=by have:=Yj (Bc:=Bc) b4 hE.dq b1;rw[hlim] at this;exact this
   refine⟨Bc,P4,P5,[],[x.BN],⟨hz,hdq,Yk b4 hE.F8,.refl _,fun t=>?_⟩,rfl,.inl ⟨by simp[hx],?_⟩⟩
   ·have:=lU (t:=t) hi hi' b4 hE.dq;rw[hlim,b3] at this;show cD M (x.push.step l).2 Bc t+([x.BN]:List Int).count t+cP M (x.push.step l).2 P4 t=_;rw[mg b4];omega
   unfold AG;simp only[hx];exact⟨b2,trivial,trivial⟩
  ·rw[if_pos b1,if_pos b2,b3];refine⟨Bc,P4,P5,[],[x.BN],.keep hE (fun _=>rfl),rfl,.inl ⟨by simp,?_⟩⟩;exact⟨a1.2.1,lS (by simp) (by simp),rfl⟩
  rw[if_pos b1,if_neg b2];obtain⟨L',hL'⟩: ∃L',L'=fun u=>if u=i then Bc i+1 else Bc u:=⟨_,rfl⟩
  have el:L' i=Bc i+1:=by rw[hL'];exact if_pos rfl
  refine⟨L',P4,P5,[],[],?_,rfl,.inr ⟨rfl,rfl,rfl,by rw[el];exact b4⟩⟩;rw[hL'];refine⟨QB.BK b6 (.inl rfl),Yj b6 hE.dq b3,Yk b6 hE.F8,.refl _,fun t=>?_⟩;have:=lU (t:=t) hi hi' b6 hE.dq;rw[b5,List.count_append] at this;rw[mg b6];simp only[List.count_nil];omega
 obtain⟨a1,a2,rfl⟩:=h;obtain⟨QL,SX,hold',b1,b2,b3,b4⟩:=yB hL hE.len a2 hE.F8 hE.nd hE.rg hn;have eb:bot M (x.put.step M l).2 i=bot M l i:=b1.ND (.DJ i) (by simp) (by simp) (by simp) (by simp) (by simp);have hcp: ∀t,cP M (x.put.step M l).2 P4 t=cP M l P4 t:=fun t=>SY b1.Tt (fun p hp=>hdis p (List.mem_append_left _ hp))
 rcases b4 with⟨c1,rfl⟩|⟨c1,rfl,p,rfl,c2⟩
 ·have hnil:(x.put.step M l).1.next≠ .nil:=fun e=>by have:=c1.2.2.2;rw[e] at this;exact this
  rw[if_neg hnil];refine⟨Bc,QL,SX,hold',[x.BN],⟨QB.F8 b1,Ny b1 hE.dq,b2,b3,fun t=>by rw[S9 b1 hE.dq,hcp]⟩,rfl,.inl ⟨by simp[hx],?_⟩⟩;unfold AG;simp only[hx];exact⟨by rw[eb];exact a1,c1,trivial⟩
 rw[if_pos c1];refine⟨Bc,p::P4,SX,[],[],⟨QB.F8 b1,Ny b1 hE.dq,b2,b3,fun t=>?_⟩,rfl,.inr ⟨rfl,rfl,rfl,by rw[eb];exact a1⟩⟩;rw[S9 b1 hE.dq,lT,c2,hcp];simp only[List.count_nil];omega
def scI(M:Bz)(l:Dk)(i:Int)(Bc:Int→Int)(x:Sc)(hp H:List Int):Prop:=
 x.i=i∧match x.next with
 | .L9=>AG M l i Bc x.add hp H
 | .nil=>False
 |_=>bot M l i=Bc i∧hp=[]∧H=[]
def MD(M:Bz)(l:Dk)(i:Int)(Bc:Int→Int)(x:Mk)(hp H:List Int):Prop:=
 x.i=i∧lV x.FY∧match x.next with
 | .DZ=>bot M l i=Bc i∧hp=MK x.FY∧H=Gf M l x.FY
 | .QU=>x.Hq.next≠ .nil∧bS M l i Bc x.Hq hp H
 | .Ym=>bot M l i=Bc i∧hp=MK x.FY∧H=Gf M l x.FY++[x.BN]
 | .Ee=> ∃hp2 H2,scI M l i Bc x.AU hp2 H2∧hp=MK x.FY++hp2∧H=Gf M l x.FY++H2
 | .EN=>bot M l i=Bc i∧hp=MK x.FY∧H=Gf M l x.FY
theorem gw{x:Mk}{hp:List Int}(hP:Jp M n l P4 P5)(hr:QB M l l' a hold Bc EY)(hd: ∀p∈P4++P5,p∉hold)(ho: ∀p∈hp,p∉hold)(hi:0≤i)(hi':i<M.Ai)(hia:i≠a)(h:MD M l i Bc x hp H):MD M l' i EY x hp H:=by
 obtain⟨h1,h2,h3⟩:=h;obtain⟨el,eb,ee⟩:=hr.own i hi hi' hia;refine⟨h1,h2,?_⟩;cases hx:x.next<;>rw[hx] at h3<;>simp only at h3⊢
 ·obtain⟨a1,rfl,rfl⟩:=h3;exact⟨by rw[eb,el];exact a1,rfl,by rw[Ji hr.Tt ho]⟩
 ·exact⟨h3.1,Ac3 hP hr hd ho hi hi' hia h3.2⟩
 ·obtain⟨a1,rfl,rfl⟩:=h3;exact⟨by rw[eb,el];exact a1,rfl,by rw[Ji hr.Tt ho]⟩
 ·obtain⟨hp2,H2,a1,rfl,rfl⟩:=h3;refine⟨hp2,H2,?_,rfl,by rw[Ji hr.Tt fun q hq=>ho q (List.mem_append_left _ hq)]⟩;obtain⟨b1,b2⟩:=a1;refine⟨b1,?_⟩;have ho2: ∀p∈hp2,p∉hold:=fun p hp=>ho p (List.mem_append_right _ hp)
  cases hs:x.AU.next<;>rw[hs] at b2<;>simp only at b2⊢
  ·exact⟨by rw[eb,el];exact b2.1,b2.2⟩
  ·exact⟨by rw[eb,el];exact b2.1,b2.2⟩
  ·exact Ac4 hP hr hd ho2 hi hi' hia b2
  ·exact⟨by rw[eb,el];exact b2.1,b2.2⟩
  ·exact⟨by rw[eb,el];exact b2.1,b2.2⟩
  exact⟨by rw[eb,el];exact b2.1,b2.2⟩
 obtain⟨a1,rfl,rfl⟩:=h3;exact⟨by rw[eb,el];exact a1,rfl,by rw[Ji hr.Tt ho]⟩
structure Qu (M:Bz) (l l':Dk):Prop where
 len:l'.length=l.length
 eq: ∀p:Pl,(p= .FW 4∨p= .FW 5∨(∃q,p= .Cf q)∨(∃q j,p= .BN q j)∨(∃q,p= .Bq q)∨(∃v,p= .NS v)∨(∃v,p= .DJ v)∨ ∃v k,p= .entry v k)→ld l' (ad M p)=ld l (ad M p)
theorem Qu.put(hL:La M)(h: ¬(q= .FW 4∨q= .FW 5∨(∃p,q= .Cf p)∨(∃p j,q= .BN p j)∨(∃p,q= .Bq p)∨(∃v,q= .NS v)∨(∃v,q= .DJ v)∨ ∃v k,q= .entry v k)):Qu M l (put l (ad M q) v):=
 ⟨Hf ..,fun p hp=>DU hL (fun e=>h (e▸hp))⟩
theorem Qu.tp(h:Qu M l l')(v:Int):tp M l' v=tp M l v:=h.eq (.NS v) (by simp)
theorem Qu.bot(h:Qu M l l')(v:Int):bot M l' v=bot M l v:=h.eq (.DJ v) (by simp)
theorem Qu.en(h:Qu M l l')(v k:Int):en M l' v k=en M l v k:=h.eq (.entry v _) (by simp)
theorem Qu.Tt(h:Qu M l l')(q:Int):(∀j,ld l' (M.Gp q j)=ld l (M.Gp q j))∧ld l' (M.FZ q)=ld l (M.FZ q):=⟨fun j=>h.eq (.BN q j) (by simp),h.eq (.Bq q) (by simp)⟩
theorem Qu.e1{hp:List Int}(h:Qu M l l')(hE:E1 M n l Bc P4 P5 hp):E1 M (n+1) l' Bc P4 P5 hp:=by
 have e4:ld l' 4=ld l 4:=h.eq (.FW 4) (by simp);have e5:ld l' 5=ld l 5:=h.eq (.FW 5) (by simp);have lk: ∀q,ld l' (M.FI q)=ld l (M.FI q):=fun q=>h.eq (.Cf q) (by simp)
 have t4:=hE.F8.t4;have t5:=hE.F8.t5;exact⟨h.len.trans hE.len,fun u h0 h1=>(hE.dq u h0 h1).mono (h.tp u) (h.bot u),⟨by rw[e4];exact hE.F8.c4.frame fun v _=>lk v,by rw[e5];exact hE.F8.c5.frame fun v _=>lk v,by rw[e4];omega,by rw[e5];omega,fun p hp=>by rw[(h.Tt p).2];exact hE.F8.mn p hp⟩,hE.nd,hE.rg⟩
theorem Qu.cD(h:Qu M l l'){hp:List Int}(hE:E1 M n l Bc P4 P5 hp)(t:Int):cD M l' Bc t=cD M l Bc t:=mf hE.dq h.tp h.en
theorem Qu.cP(h:Qu M l l')(P4:List Int)(t:Int):cP M l' P4 t=cP M l P4 t:=SY (hold:=[]) (fun q _=>h.Tt q) (fun _ _=>by simp)
theorem Qu.Gf(h:Qu M l l')(b:uI):Gf M l' b=Gf M l b:=Ji (hold:=[]) (fun q _=>h.Tt q) (by simp)
theorem mr{x:St}(h:Qu M l l')(ha:Ug x a)(hI:sI M l x):sI M l' x:=by
 have e:ld l' x.head=ld l x.head:=by
  rw[ha.hd];rcases ha.a with rfl|rfl
  ·exact h.eq (.FW 4) (by simp)
  exact h.eq (.FW 5) (by simp)
 have lk: ∀q,ld l' (M.Cf x.node q)=ld l (M.Cf x.node q):=fun q=>by rw[ha.nd];exact h.eq (.Cf q) (by simp)
 unfold sI MA at hI⊢
 rw[e];simp only[lk];exact hI
theorem Lv{x:Pk}{own:List Int}(h:Qu M l l')(hI:XP M l x ts own):XP M l' x ts own:=by
 obtain⟨h1,h2,h3,h4⟩:=hI;refine⟨h1,h2,h3,?_⟩;have ht:=h.Tt;cases hx:x.next<;>rw[hx] at h4<;>simp only[(ht _).1,(ht _).2] at h4⊢
 ·exact⟨h4.1,h4.2.1,mr h h4.1 h4.2.2.1,h4.2.2.2⟩
 ·exact h4
 ·exact h4
 exact⟨h4.1,h4.2.1,mr h h4.1 h4.2.2.1,h4.2.2.2⟩
theorem gx{x:Sk}{hp:List Int}(h:Qu M l l')(hI:bS M l i Bc x hp H):bS M l' i Bc x hp H:=by
 obtain⟨h1,h2,h3⟩:=hI;refine⟨h1,h2,?_⟩;cases hx:x.next<;>rw[hx] at h3<;>simp only[h.bot,h.Gf] at h3⊢
 ·exact h3
 ·obtain⟨a1,Ho,a2,a3⟩:=h3;exact⟨a1,Ho,gX a2 rfl (h.bot i) (h.en i) (by rw[h.tp];exact Int.le_refl _),a3⟩
 ·exact h3
 ·obtain⟨a1,a2,a3,a4,q,a5,a6⟩:=h3;exact⟨a1,a2,a3,a4,q,⟨a5.1,a5.2.1,a5.2.2.1,mr h a5.2.1 a5.2.2.2.1,a5.2.2.2.2⟩,a6⟩
 ·obtain⟨a1,a2,a3,a4,a5,a6⟩:=h3;exact⟨a1,a2,a3,a4,a5,a6.1,a6.2.1,a6.2.2.1,mr h a6.2.1 a6.2.2.2⟩
 ·obtain⟨a1,a2,a3,a4,a5,a6,a7⟩:=h3;refine⟨a1,a2,a3,a4,a5,?_,by rw[(h.Tt _).2];exact a7⟩;rw[a6];unfold OL;rw[(h.Tt _).2];exact List.map_congr_left fun j _=>((h.Tt _).1 j).symm
 obtain⟨a1,a2,a3,a4,a5,a6,v,v0,v1,a7⟩:=h3;refine⟨a1,a2,a3,a4,a5,a6,v,v0,v1,?_⟩;unfold RD at a7⊢
 rw[h.tp];simp only[h.en];exact a7
theorem ia{x:Ad}{hp:List Int}(h:Qu M l l')(hI:AG M l i Bc x hp H):AG M l' i Bc x hp H:=by
 unfold AG at hI⊢
 cases hx:x.next<;>rw[hx] at hI<;>simp only[h.bot] at hI⊢
 ·obtain⟨a1,a2⟩:=hI;exact⟨ZW a1 rfl (h.bot i) (h.en i) (by rw[h.tp];exact Int.le_refl _),a2⟩
 exact⟨hI.1,Lv h hI.2.1,hI.2.2⟩
theorem sZ{x:Mk}{hp:List Int}(h:Qu M l l')(hI:MD M l i Bc x hp H):MD M l' i Bc x hp H:=by
 obtain⟨h1,h2,h3⟩:=hI;refine⟨h1,h2,?_⟩;cases hx:x.next<;>rw[hx] at h3<;>simp only[h.bot,h.Gf] at h3⊢
 ·exact h3
 ·exact⟨h3.1,gx h h3.2⟩
 ·exact h3
 ·obtain⟨hp2,H2,a1,a2,a3⟩:=h3;refine⟨hp2,H2,?_,a2,a3⟩;obtain⟨b1,b2⟩:=a1;refine⟨b1,?_⟩;cases hs:x.AU.next<;>rw[hs] at b2<;>simp only[h.bot] at b2⊢
  ·exact b2
  ·exact b2
  ·exact ia h b2
  ·exact b2
  ·exact b2
  exact b2
 exact h3
end
open Go.Proofs.YtmpcfamcbaineaaGreat.Mo
inductive OM (val:Int→Int→Int) (S:Int→Prop):Int→Prop
 |DX {v:Int}:S v→1≤v→OM val S v
 |step {v j:Int}:OM val S v→1≤val v j→OM val S (val v j)
section
variable{val:Int→Int→Int}{S S':Int→Prop}
theorem OM.mono(h:OM val S v)(hS: ∀v,S v→1≤v→OM val S' v):OM val S' v:=by
 induction h with
 |DX h h1=>exact hS _ h h1
 |step _ h1 ih=>exact .step ih h1
theorem OM.Gt{P:Int→Prop}(h:OM val S v)(h0: ∀v,S v→1≤v→P v)(hs: ∀v j,P v→1≤val v j→P (val v j)):P v:=by
 induction h with
 |DX h h1=>exact h0 _ h h1
 |step _ h1 ih=>exact hs _ _ ih h1
end
structure Gs where
 val:Int→Int→Int
 al:Int→Prop
 mw:Int→Int
 Af:List Int
 A:Int
 Bh:Int
 Vz:Int→Int→Prop
def Gs.GK(g:Gs)(v:Int):Prop:=g.al v∧g.A≤g.mw v
def Gs.R(g:Gs)(v:Int):Prop:=OM g.val (fun v=>v∈g.Af∨g.GK v) v
def Gs.G(g:Gs)(v:Int):Prop:=OM g.val g.GK v
structure IB (N:Int) (g:Gs):Prop where
 vr: ∀v j,0≤g.val v j∧g.val v j≤N
 ra: ∀v,g.R v→g.al v
 tc: ∀v j,g.GK v→g.Vz v j∨g.val v j=0∨g.GK (g.val v j)
 gr:g.Bh=g.A→ ∀r∈g.Af,1≤r→g.G r
 ma: ∀v,0≤g.mw v∧g.mw v≤g.A
 rr: ∀r∈g.Af,0≤r∧r≤N
 an: ∀v,g.al v→1≤v∧v≤N
section
variable{N:Int}{g g':Gs}
theorem Gs.GK.R(h:g.GK v)(h1:1≤v):g.R v:= .DX (.inr h) h1
theorem Gs.G.R(h:g.G v):g.R v:=OM.mono h fun v hv h1=> .DX (.inr hv) h1
theorem IB.ni(hc:IB N g)(h:g.GK v)(hn: ¬g.Vz v j)(h1:1≤g.val v j):g.GK (g.val v j):=by
 rcases hc.tc v j h with k|k|k
 ·exact absurd k hn
 ·omega
 exact k
theorem IB.done(hc:IB N g)(ht:g.Bh=g.A)(hn: ∀v j,¬g.Vz v j)(h:g.R v):g.GK v:=by
 have hG: ∀v,g.G v→g.GK v:=fun v h=>OM.Gt h (fun _ k _=>k) fun v j k h1=>hc.ni k (hn v j) h1
 refine OM.Gt h (fun v k h1=>?_) fun v j k h1=>hc.ni k (hn v j) h1
 rcases k with k|k
 ·exact hG v (hc.gr ht v k h1)
 exact k
theorem IB.AV(hc:IB N g)(hw:g.R w)(hcov: ∀v j,g.Vz v j→XQ v j)(hnew: ∀j,XQ w j∨g.val w j=0):
  IB N {g with mw:=fun v=>if v=w then g.A else g.mw v,Vz:=XQ}:=by
 have hal:g.al w:=hc.ra w hw;have up: ∀v,g.GK v→({g with mw:=fun v=>if v=w then g.A else g.mw v,Vz:=XQ}:Gs).GK v:=fun v h=>by
  refine⟨h.1,?_⟩;show g.A≤if v=w then g.A else g.mw v
  split
  ·exact Int.le_refl _
  exact h.2
 have dn: ∀v,({g with mw:=fun v=>if v=w then g.A else g.mw v,Vz:=XQ}:Gs).GK v→v=w∨g.GK v:=fun v h=>by
  by_cases e:v=w
  ·exact .inl e
  have h2:g.A≤if v=w then g.A else g.mw v:=h.2
  rw[if_neg e] at h2;exact .inr ⟨h.1,h2⟩
 refine⟨hc.vr,fun v hv=>hc.ra v (OM.mono hv fun v k h1=>?_),fun v j hv=>?_,fun ht r hr h1=>OM.mono (hc.gr ht r hr h1) fun v k h1=> .DX (up v k) h1,fun v=>?_,hc.rr,hc.an⟩
 ·rcases k with k|k
  ·exact .DX (.inl k) h1
  rcases dn v k with rfl|k
  ·exact hw
  exact .DX (.inr k) h1
 ·rcases dn v hv with rfl|hv
  ·rcases hnew j with k|k
   ·exact .inl k
   exact .inr (.inl k)
  rcases hc.tc v j hv with k|k|k
  ·exact .inl (hcov v j k)
  ·exact .inr (.inl k)
  exact .inr (.inr (up _ k))
 show 0≤(if v=w then g.A else g.mw v)∧(if v=w then g.A else g.mw v)≤g.A;have:=hc.ma w;have:=hc.ma v;split<;>omega
theorem IB.Lw(hc:IB N g)(h: ∀v j,g.GK v→g.Vz v j→XQ v j∨g.val v j=0∨g.GK (g.val v j)):IB N {g with Vz:=XQ}:=by
 refine⟨hc.vr,hc.ra,fun v j hv=>?_,hc.gr,hc.ma,hc.rr,hc.an⟩;rcases hc.tc v j hv with k|k|k
 ·exact h v j hv k
 ·exact .inr (.inl k)
 exact .inr (.inr k)
theorem IB.Es(hc:IB N g){y s nv:Int}(hn:nv=0∨nv∈g.Af)(hm:1≤nv→g.GK nv)(ho:g.val y s=0∨g.GK (g.val y s)):
  IB N {g with val:=fun v j=>if v=y∧j=s then nv else g.val v j}:=by
 have hnr:0≤nv∧nv≤N:=by
  rcases hn with rfl|h
  ·exact⟨Int.le_refl _,by have:=hc.vr 0 0;omega⟩
  exact hc.rr nv h
 have key: ∀(S:Int→Prop) (v:Int),(1≤nv→S nv)→OM (fun v j=>if v=y∧j=s then nv else g.val v j) S v→OM g.val S v:=fun S v hS h=>by
  induction h with
  |DX h h1=>exact .DX h h1
  | @step v j _ h1 ih=>
   by_cases hc':v=y∧j=s
   ·rw[if_pos hc'] at h1⊢
    exact .DX (hS h1) h1
   rw[if_neg hc'] at h1⊢
   exact .step ih h1
 have Jr: ∀v,g.G v→OM (fun v j=>if v=y∧j=s then nv else g.val v j) g.GK v:=fun v h=>by
  induction h with
  |DX h h1=>exact .DX h h1
  | @step v j _ h1 ih=>
   by_cases hc':v=y∧j=s
   ·obtain⟨rfl,rfl⟩:=hc';rcases ho with k|k
    ·omega
    exact .DX k h1
   have:=OM.step (val:=fun v j=>if v=y∧j=s then nv else g.val v j) (j:=j) ih (by simp only[if_neg hc'];exact h1);simp only[if_neg hc'] at this;exact this
 refine⟨fun v j=>?_,fun v hv=>hc.ra v (key _ v (fun h1=> .inr (hm h1)) hv),fun v j hv=>?_,fun ht r hr h1=>Jr r (hc.gr ht r hr h1),hc.ma,hc.rr,hc.an⟩
 ·show 0≤(if v=y∧j=s then nv else g.val v j)∧(if v=y∧j=s then nv else g.val v j)≤N;have:=hc.vr v j;split<;>omega
 show g.Vz v j∨(if v=y∧j=s then nv else g.val v j)=0∨g.GK (if v=y∧j=s then nv else g.val v j);split
 ·rcases(show nv=0∨1≤nv by omega) with k|k
  ·exact .inr (.inl k)
  exact .inr (.inr (hm k))
 exact hc.tc v j hv
theorem IB.root(hc:IB N g){rs:List Int}(h: ∀r∈rs,r=0∨r∈g.Af∨ ∃v j,v∈g.Af∧1≤v∧g.val v j=r):IB N {g with Af:=rs}:=by
 have hR: ∀r∈rs,1≤r→g.R r:=fun r hr h1=>by
  rcases h r hr with k|k|⟨v,j,k1,k2,rfl⟩
  ·omega
  ·exact .DX (.inl k) h1
  exact .step (.DX (.inl k1) k2) h1
 refine⟨hc.vr,fun v hv=>hc.ra v (OM.mono hv fun v k h1=>?_),hc.tc,fun ht r hr h1=>?_,hc.ma,fun r hr=>?_,hc.an⟩
 ·rcases k with k|k
  ·exact hR v k h1
  exact .DX (.inr k) h1
 ·rcases h r hr with k|k|⟨v,j,k1,k2,rfl⟩
  ·omega
  ·exact hc.gr ht r k h1
  exact .step (hc.gr ht v k1 k2) h1
 rcases h r hr with k|k|⟨v,j,-,-,rfl⟩
 ·subst k;exact⟨Int.le_refl _,by have:=hc.vr 0 0;omega⟩
 ·exact hc.rr r k
 exact hc.vr v j
theorem IB.EU(hc:IB N g){t:Int}{mk':Int→Int}(hw: ¬g.al w)(h1:1≤w∧w≤N)(hz: ∀j,val' w j=0)(ho: ∀v j,v≠w→val' v j=g.val v j)(ht:g.Bh=t)(hta:0≤t∧t≤g.A)(hm:mk' w=t)(hmo: ∀v,v≠w→mk' v=g.mw v):
  IB N {g with val:=val',al:=fun v=>g.al v∨v=w,mw:=mk',Af:=g.Af++[w]}:=by
 have nR: ¬g.R w:=fun h=>hw (hc.ra w h)
 have dn: ∀v,({g with val:=val',al:=fun v=>g.al v∨v=w,mw:=mk',Af:=g.Af++[w]}:Gs).GK v→v=w∨g.GK v:=fun v h=>by
  by_cases e:v=w
  ·exact .inl e
  refine .inr ⟨h.1.resolve_right e,?_⟩;have:g.A≤mk' v:=h.2;rw[hmo v e] at this;exact this
 have up: ∀v,g.GK v→({g with val:=val',al:=fun v=>g.al v∨v=w,mw:=mk',Af:=g.Af++[w]}:Gs).GK v:=fun v h=>by
  have e:v≠w:=fun e=>hw (e▸h.1)
  exact⟨.inl h.1,by show g.A≤mk' v;rw[hmo v e];exact h.2⟩
 have fw: ∀v,OM val' (fun v=>v∈g.Af++[w]∨({g with val:=val',al:=fun v=>g.al v∨v=w,mw:=mk',Af:=g.Af++[w]}:Gs).GK v) v→v=w∨g.R v:=fun v h=>by
  refine OM.Gt (P:=fun v=>v=w∨g.R v) h (fun v k k1=>?_) fun v j k k1=>?_
  ·rcases k with k|k
   ·rcases List.mem_append.1 k with k|k
    ·exact .inr (.DX (.inl k) k1)
    exact .inl (List.mem_singleton.1 k)
   rcases dn v k with k|k
   ·exact .inl k
   exact .inr (.DX (.inr k) k1)
  rcases k with rfl|k
  ·rw[hz] at k1;omega
  have e:v≠w:=fun e=>nR (e▸k)
  rw[ho v j e] at k1⊢
  exact .inr (.step k k1)
 have bk: ∀v,g.G v→OM val' (({g with val:=val',al:=fun v=>g.al v∨v=w,mw:=mk',Af:=g.Af++[w]}:Gs).GK) v:=fun v h=>by
  induction h with
  |DX h h1=>exact .DX (up _ h) h1
  | @step v j hv h1 ih=>
   have e:v≠w:=fun e=>nR (e▸(Gs.G.R hv))
   rw[←ho v j e] at h1⊢
   exact .step ih h1
 refine⟨fun v j=>?_,fun v hv=>?_,fun v j hv=>?_,fun ht' r hr k1=>?_,fun v=>?_,fun r hr=>?_,fun v hv=>?_⟩
 ·show 0≤val' v j∧val' v j≤N;by_cases e:v=w
  ·subst e;rw[hz];omega
  rw[ho v j e];exact hc.vr v j
 ·rcases fw v hv with k|k
  ·exact .inr k
  exact .inl (hc.ra v k)
 ·show g.Vz v j∨val' v j=0∨_;rcases dn v hv with rfl|hv
  ·exact .inr (.inl (hz j))
  have e:v≠w:=fun e=>hw (e▸hv.1)
  rcases hc.tc v j hv with k|k|k
  ·exact .inl k
  ·exact .inr (.inl (by rw[ho v j e];exact k))
  exact .inr (.inr (by have:=up _ k;rw[←ho v j e] at this;exact this))
 ·rcases List.mem_append.1 hr with k|k
  ·exact bk r (hc.gr ht' r k k1)
  rw[List.mem_singleton.1 k];refine .DX ⟨.inr rfl,?_⟩ h1.1;show g.A≤mk' w;rw[hm];have:g.Bh=g.A:=ht';omega
 ·show 0≤mk' v∧mk' v≤g.A;by_cases e:v=w
  ·subst e;rw[hm];exact hta
  rw[hmo v e];exact hc.ma v
 ·rcases List.mem_append.1 hr with k|k
  ·exact hc.rr r k
  rw[List.mem_singleton.1 k];omega
 rcases hv with hv|rfl
 ·exact hc.an v hv
 exact h1
theorem IB.arm(hc:IB N g)(hcov: ∀v j,¬g.Vz v j)(ht:g.Bh≤g.A):IB N {g with A:=g.A+1}:=by
 have nm: ∀v,¬({g with A:=g.A+1}:Gs).GK v:=fun v h=>by
  have:=hc.ma v;have:g.A+1≤g.mw v:=h.2;omega
 refine⟨hc.vr,fun v hv=>hc.ra v (OM.mono hv fun v k h1=>?_),fun v j hv=>absurd hv (nm v),fun ht'=>?_,fun v=>?_,hc.rr,hc.an⟩
 ·rcases k with k|k
  ·exact .DX (.inl k) h1
  exact absurd k (nm v)
 ·have:g.Bh=g.A+1:=ht';omega
 have:=hc.ma v;exact⟨this.1,by show g.mw v≤g.A+1;omega⟩
theorem IB.told(hc:IB N g)(h: ∀r∈g.Af,1≤r→g.GK r):IB N {g with Bh:=g.A}:=
 ⟨hc.vr,hc.ra,hc.tc,fun _ r hr h1=> .DX (h r hr h1) h1,hc.ma,hc.rr,hc.an⟩
theorem IB.free(hc:IB N g)(hw: ¬g.R w)(h1:1≤w):IB N {g with al:=fun v=>g.al v∧v≠w}:=by
 have nm: ¬g.GK w:=fun h=>hw (h.R h1)
 have dn: ∀v,({g with al:=fun v=>g.al v∧v≠w}:Gs).GK v→g.GK v:=fun v h=>⟨h.1.1,h.2⟩
 have up: ∀v,g.GK v→({g with al:=fun v=>g.al v∧v≠w}:Gs).GK v:=fun v h=>⟨⟨h.1,fun e=>nm (e▸h)⟩,h.2⟩
 have hR: ∀v,({g with al:=fun v=>g.al v∧v≠w}:Gs).R v→g.R v:=fun v hv=>OM.mono hv fun v k h1=>by
  rcases k with k|k
  ·exact .DX (.inl k) h1
  exact .DX (.inr (dn v k)) h1
 refine⟨hc.vr,fun v hv=>⟨hc.ra v (hR v hv),fun e=>hw (e▸hR v hv)⟩,fun v j hv=>?_,fun ht r hr h1=>OM.mono (hc.gr ht r hr h1) fun v k h1=> .DX (up v k) h1,hc.ma,hc.rr,fun v hv=>hc.an v hv.1⟩;rcases hc.tc v j (dn v hv) with k|k|k
 ·exact .inl k
 ·exact .inr (.inl k)
 exact .inr (.inr (up _ k))
end
open Go.Proofs.YtmpcfamcbaineaaGreat.Mo
section
structure LY (M:Bz) (n:Int) (l:Dk) (F:Nat→List Int):Prop where
 ch: ∀k:Nat,k<5→Ch M true l (lo (ld l (M.Eg k))) (F k)
 tg: ∀k:Nat,k<5→0≤hi (ld l (M.Eg k))∧hi (ld l (M.Eg k))≤n
structure QM (M:Bz) (l l':Dk) (hold:List Int):Prop where
 hd: ∀k,Hd l l' (M.Eg k)
 nx: ∀q,q∉hold→ld l' (M.Next q)=ld l (M.Next q)
 ND: ∀p:Pl,(∀k,p≠ .head k)→(∀q,p≠ .next q)→ld l' (ad M p)=ld l (ad M p)
 len:l'.length=l.length
theorem QM.refl:QM M l l hold:=⟨fun _=> .inl rfl,fun _ _=>rfl,fun _ _ _=>rfl,rfl⟩
theorem LY.LK(h:LY M n l F):LY M (n+1) l F:=⟨h.ch,fun k hk=>by have:=h.tg k hk;omega⟩
theorem ny(hL:La M)(hl:l.length=M.all.toNat){k:Int}(h0:0≤k)(h5:k<5):QS l (M.Eg k):=by
 have h:=lJ hL h0 h5;exact⟨h,by rw[hl];have:=KJ hL h;show ad M (.head k)<_;omega⟩
theorem T8(hL:La M)(hl:l.length=M.all.toNat){q:Int}(h:1≤q∧q≤M.nodes):QS l (M.Next q):=by
 have h0:0≤ad M (.next q):=JJ hL h.1 h.2 (by omega) (by omega);exact⟨h0,by rw[hl];have:=KJ hL h0;show ad M (.next q)<_;omega⟩
theorem T9(hL:La M){k:Int}(h0:0≤k)(h5:k<5)(hne:j≠k):ld (put l (M.Eg k) v) (M.Eg j)=ld l (M.Eg j):=DU hL (p:= .head k) (q:= .head j) (by simp;exact fun e=>hne e.symm)
def AH(M:Bz)(l:Dk)(x:St):Prop:=x.node=true∧x.head=M.Eg (M.Ew x.BO)∧LM x∧sI M l x
theorem AI(hL:La M)(hC:x9 M)(hl:l.length=M.all.toNat){x:St}(hI:AH M l x)(hc:LY M n l F)(hq:1≤x.BO∧x.BO≤M.nodes)(hn:n<900000)(hni: ∀k:Nat,k<5→x.BO∉F k):
  QM M l (x.step M l).2 [x.BO]∧(x.step M l).1.BO=x.BO∧
   ((AH M (x.step M l).2 (x.step M l).1∧LY M (n+1) (x.step M l).2 F)∨
    ((x.step M l).1.next= .nil∧LY M (n+1) (x.step M l).2 (fun k=>if(k:Int)=M.Ew x.BO then x.BO::F k else F k))):=by
 obtain⟨nd,hd,hp,hs⟩:=hI;have hnn:=hL.nn;have hcl:=hC x.BO hq.1 hq.2;obtain⟨k,hk⟩: ∃k:Nat,(k:Int)=M.Ew x.BO:=⟨(M.Ew x.BO).toNat,by omega⟩;have hk5:k<5:=by omega
 rw[←hk] at hd;have hs:=jw hL (hd:= .head k) (L:=F k) (n:=n) hp hs (by rw[hd];rfl) (fun q=>by rw[nd];simp[lp]) (by rw[hd];exact ny hL hl (by omega) (by omega)) (by rw[nd];exact T8 hL hl hq) (by rw[nd,hd];exact hc.ch k hk5) (by omega) (hni k hk5) (by rw[hd];exact hc.tg k hk5) hn (fun v hv e=>hni k hk5 (e▸hv));rw[nd,hd] at hs;obtain⟨s1,s2,s3,s4,s5,s6,s7,s8,s9⟩:=hs;have hlp: ∀p:Pl,p≠ .head k→p≠ .next x.BO→ld (x.step M l).2 (ad M p)=ld l (ad M p):=fun p g1 g2=>s7 p g1 (by simpa[lp] using g2)
 have hoth: ∀j:Int,j≠k→ld (x.step M l).2 (M.Eg j)=ld l (M.Eg j):=fun j hj=>hlp (.head j) (by simp;exact hj) (by simp)
 have hlk: ∀q,q≠x.BO→ld (x.step M l).2 (M.Next q)=ld l (M.Next q):=fun q h=>hlp (.next q) (by simp) (by simp;exact h)
 have fr: ∀{u:Int} {K:List Int},Ch M true l u K→x.BO∉K→Ch M true (x.step M l).2 u K:=fun h hk=>h.frame fun v hv=>hlk v (fun e=>hk (e▸hv))
 refine⟨⟨fun j=>?_,fun q h=>hlk q (fun e=>h (by rw[e];simp)),fun p h1 h2=>hlp p (h1 _) (h2 _),s8⟩,s1,?_⟩
 ·by_cases e:j=k
  ·subst e;exact s4
  exact .inl (hoth j e)
 rcases s9 with⟨g1,g2,g3⟩|⟨g1,g2⟩
 ·refine .inl ⟨⟨s3,by rw[s2,s1,hk],g1,g2⟩,fun j hj=>?_,fun j hj=>?_⟩
  ·by_cases e:j=k
   ·subst e;exact g3
   rw[hoth j (by omega)];exact fr (hc.ch j hj) (hni j hj)
  by_cases e:j=k
  ·subst e;exact⟨s6,s5⟩
  rw[hoth j (by omega)];have:=hc.tg j hj;omega
 refine .inr ⟨g1,fun j hj=>?_,fun j hj=>?_⟩
 ·simp only[←hk];by_cases e:j=k
  ·subst e;rw[if_pos rfl];exact g2
  rw[if_neg (by omega),hoth j (by omega)];exact fr (hc.ch j hj) (hni j hj)
 by_cases e:j=k
 ·subst e;exact⟨s6,s5⟩
 rw[hoth j (by omega)];have:=hc.tg j hj;omega
theorem nz{x:St}(hr:QM M l l' hold)(hd:x.BO∉hold)(h:AH M l x):AH M l' x:=by
 obtain⟨h1,h2,h3,h4⟩:=h;have np: ¬Nv x:=by
  rintro(h|h|h)<;>rcases h3 with g|g|g<;>rw[h] at g<;>cases g
 exact⟨h1,h2,h3,h4.mono (L:=[]) (fun g=>absurd g np) (by rw[h2];exact hr.hd _) (fun _=>by rw[h1];exact hr.nx _ hd) (fun g=>absurd g np)⟩
theorem sA:AH M l (.push (M.Eg (M.Ew v)) true v):=⟨rfl,rfl,.inl rfl,trivial⟩
def ZX(M:Bz)(l:Dk)(x:Hp):Prop:=
 match x.next with
 | .Ot=>MA l (M.Eg (Bi x.A7)) x.h∧x.v=lo x.h∧x.v≠0
 | .swap=>MA l (M.Eg (Bi x.A7)) x.h∧x.v=lo x.h∧x.v≠0∧(ld l (M.Eg (Bi x.A7))=x.h→x.Cf=NR (ld l (M.Next x.v)))
 |_=>True
theorem Up{x:Hp}(h:ZX M l x)(hc:LY M n l F)(hk:0≤Bi x.A7∧Bi x.A7<5)(hr:QM M l l' hold)(hd: ∀k:Nat,k<5→ ∀v∈F k,v∉hold):ZX M l' x:=by
 unfold ZX at h⊢
 cases hx:x.next<;>rw[hx] at h<;>simp only at h⊢
 ·exact⟨(h.1.mono (hr.hd _)).1,h.2⟩
 obtain⟨h1,h2,h3,h4⟩:=h;refine⟨(h1.mono (hr.hd _)).1,h2,h3,fun g=>?_⟩;obtain⟨g1,g2⟩:=(h1.mono (hr.hd _)).2 g;obtain⟨k,ek⟩: ∃k:Nat,(k:Int)=Bi x.A7:=⟨(Bi x.A7).toNat,by omega⟩;have hcc:=hc.ch k (by omega);rw[ek] at hcc;have hlo:lo (ld l (M.Eg (Bi x.A7)))=x.v:=by rw[g1,h2]
 obtain⟨L',e,-⟩:=hcc.Yh (by rw[hlo];exact h3);have hm:x.v∈F k:=by rw[e,hlo];exact List.mem_cons_self ..
 rw[hr.nx x.v (hd k (by omega) _ hm)];exact h4 g1
theorem Uq(hL:La M)(hl:l.length=M.all.toNat){x:Hp}(hI:ZX M l x)(hx:x.next= .DZ∨x.next= .Ot∨x.next= .swap)(hc:LY M n l F)(hk:0≤Bi x.A7∧Bi x.A7<5)(hn:n<900000):
  QM M l (x.Au M l).2 []∧(x.Au M l).1.A7=x.A7∧(x.Au M l).1.mark=x.mark∧(x.Au M l).1.i=x.i∧(x.Au M l).1.Ae=x.Ae∧
   (((x.Au M l).1.next= .DZ∨(x.Au M l).1.next= .Ot∨(x.Au M l).1.next= .swap)∧ZX M (x.Au M l).2 (x.Au M l).1∧(x.Au M l).1.e=x.e∧LY M (n+1) (x.Au M l).2 F∨
    (x.Au M l).1.next= .nil∧((x.Au M l).1.e=22∨(x.Au M l).1.e=23)∧LY M (n+1) (x.Au M l).2 F∨
    (x.Au M l).1.next= .Ea∧(x.Au M l).1.e=x.e∧(x.Au M l).1.v=x.v∧ ∃(k:Nat) (F':List Int),k<5∧(k:Int)=Bi x.A7∧F k=x.v::F'∧LY M (n+1) (x.Au M l).2 (fun j=>if j=k then F' else F j)):=by
 unfold ZX at hI;rcases hx with hx|hx|hx<;>rw[hx] at hI<;>simp only at hI<;>unfold Mo.Hp.Au<;>rw[hx]<;>simp only
 ·split
  ·exact⟨.refl,rfl,rfl,rfl,rfl,.inr (.inl ⟨rfl,.inl rfl,hc.LK⟩)⟩
  rename_i h0;exact⟨.refl,rfl,rfl,rfl,rfl,.inl ⟨.inr (.inl rfl),⟨⟨Int.le_refl _,fun _=>rfl⟩,rfl,h0⟩,rfl,hc.LK⟩⟩
 ·exact⟨.refl,trivial,trivial,trivial,trivial,.inl ⟨by simp,⟨hI.1,hI.2.1,hI.2.2,fun _=>rfl⟩,trivial,hc.LK⟩⟩
 obtain⟨h1,h2,h3,h4⟩:=hI;obtain⟨k,ek⟩: ∃k:Nat,(k:Int)=Bi x.A7:=⟨(Bi x.A7).toNat,by omega⟩;have hk5:k<5:=by omega
 by_cases hcas:KX l (M.Eg (Bi x.A7)) x.h=true
 ·have he:=(Qy hcas).2;have hlk:=h4 he;rw[if_pos hcas,show KL l (M.Eg (Bi x.A7)) x.h (Bg x.h x.Cf)=put l (M.Eg (Bi x.A7)) (Bg x.h x.Cf) from if_pos hcas];have htg:=hc.tg k hk5;have hcc:=hc.ch k hk5;rw[ek] at htg hcc;have hlr:0≤x.Cf∧x.Cf<4294967296:=by rw[hlk];exact Kv _
  have ew:ld (put l (M.Eg (Bi x.A7)) (Bg x.h x.Cf)) (M.Eg (Bi x.A7))=Bg x.h x.Cf:=Ei (ny hL hl hk.1 hk.2);have hhi:hi (Bg x.h x.Cf)=hi x.h+1:=lK (by rw[←he];omega) hlr;have hlo:lo (ld l (M.Eg (Bi x.A7)))=x.v:=by rw[he,h2]
  obtain⟨F',e,hc'⟩:=hcc.Yh (by rw[hlo];exact h3);rw[hlo] at e hc';have nx: ∀v,ld (put l (M.Eg (Bi x.A7)) (Bg x.h x.Cf)) (M.Next v)=ld l (M.Next v):=fun v=>DU hL (p:= .head (Bi x.A7)) (q:= .next v) (by simp)
  have hdn: ∀j:Int,j≠Bi x.A7→ld (put l (M.Eg (Bi x.A7)) (Bg x.h x.Cf)) (M.Eg j)=ld l (M.Eg j):=fun j hj=>T9 hL hk.1 hk.2 hj
  refine⟨⟨fun j=>?_,fun q _=>nx q,fun p g1 _=>DU hL (p:= .head (Bi x.A7)) (fun e=>g1 _ e.symm),Hf ..⟩,rfl,rfl,rfl,rfl,.inr (.inr ⟨rfl,rfl,rfl,k,F',hk5,ek,e,⟨fun j hj=>?_,fun j hj=>?_⟩⟩)⟩
  ·by_cases ej:j=Bi x.A7
   ·subst ej;exact .inr (by rw[ew,hhi,he];omega)
   exact .inl (hdn j ej)
  ·show Ch M true (put l (M.Eg (Bi x.A7)) (Bg x.h x.Cf)) (lo (ld (put l (M.Eg (Bi x.A7)) (Bg x.h x.Cf)) (M.Eg j))) (if j=k then F' else F j);by_cases ej:j=k
   ·subst ej;rw[if_pos rfl,ek,ew,lL hlr,hlk];rw[←hlk];have key:Ch M true (put l (M.Eg (Bi x.A7)) (Bg x.h x.Cf)) (NR (ld l (M.Next x.v))) F':=hc'.frame fun v _=>nx v
    rw[←hlk] at key;exact key
   rw[if_neg ej,hdn j (by omega)];exact(hc.ch j hj).frame fun v _=>nx v
  show 0≤hi (ld (put l (M.Eg (Bi x.A7)) (Bg x.h x.Cf)) (M.Eg j))∧hi (ld (put l (M.Eg (Bi x.A7)) (Bg x.h x.Cf)) (M.Eg j))≤n+1;by_cases ej:j=k
  ·subst ej;rw[ek,ew,hhi,←he];omega
  rw[hdn j (by omega)];have:=hc.tg j hj;omega
 rw[if_neg hcas,show KL l (M.Eg (Bi x.A7)) x.h (Bg x.h x.Cf)=l from if_neg hcas];split
 ·exact⟨.refl,rfl,rfl,rfl,rfl,.inr (.inl ⟨rfl,.inr rfl,hc.LK⟩)⟩
 exact⟨.refl,rfl,rfl,rfl,rfl,.inl ⟨.inl rfl,trivial,rfl,hc.LK⟩⟩
end
open Go.Proofs.YtmpcfamcbaineaaGreat.Mo
structure Vw where
 val:Int→Int→Int
 st:Int→Int
 mw:Int→Int
 Lh:Int→Int
 w0:Int
 w1:Int
 w2:Int
 w3:Int
 a1:Int
def vw(M:Bz)(l:Dk):Vw:=⟨fun v j=>ld l (M.H8 v j),fun v=>ld l (M.DK v),fun v=>ld l (M.Mark v),fun v=>ld l (M.D7 v),ld l 0,ld l 1,ld l 2,ld l 3,ld l (M.O8 0)⟩
theorem cC(h: ∀p:Pl,((∃v j,p= .En v j)∨(∃v,p= .state v)∨(∃v,p= .mark v)∨(∃v,p= .Ea v)∨p= .FW 0∨p= .FW 1∨p= .FW 2∨p= .FW 3∨p= .Jq 0)→ld l' (ad M p)=ld l (ad M p)):vw M l'=vw M l:=by
 have h1: ∀v j,ld l' (M.H8 v j)=ld l (M.H8 v j):=fun v j=>h (.En v j) (by simp)
 have h2: ∀v,ld l' (M.DK v)=ld l (M.DK v):=fun v=>h (.state v) (by simp)
 have h3: ∀v,ld l' (M.Mark v)=ld l (M.Mark v):=fun v=>h (.mark v) (by simp)
 have h4: ∀v,ld l' (M.D7 v)=ld l (M.D7 v):=fun v=>h (.Ea v) (by simp)
 have h5:ld l' 0=ld l 0:=h (.FW 0) (by simp);have h6:ld l' 1=ld l 1:=h (.FW 1) (by simp);have h7:ld l' 2=ld l 2:=h (.FW 2) (by simp);have h8:ld l' 3=ld l 3:=h (.FW 3) (by simp);have h9:ld l' (M.O8 0)=ld l (M.O8 0):=h (.Jq 0) (by simp);unfold vw;rw[h5,h6,h7,h8,h9];simp only[h1,h2,h3,h4]
theorem Lx{i:Int}(h:QB M l l' i hold Bc EY):vw M l'=vw M l:=cC fun p hp=>by
 refine h.ND p ?_ ?_ ?_ ?_ ?_ ?_ ?_ ?_<;>rcases hp with⟨_,_,rfl⟩|⟨_,rfl⟩|⟨_,rfl⟩|⟨_,rfl⟩|rfl|rfl|rfl|rfl|rfl<;>simp
theorem VA(h:QM M l l' hold):vw M l'=vw M l:=cC fun p hp=>by
 refine h.ND p ?_ ?_<;>rcases hp with⟨_,_,rfl⟩|⟨_,rfl⟩|⟨_,rfl⟩|⟨_,rfl⟩|rfl|rfl|rfl|rfl|rfl<;>simp
def gs(M:Bz)(V:Vw)(x:Mu)(Vz:Int→Int→Prop):Gs:=⟨V.val,fun v=>(1≤v∧v≤M.nodes)∧V.st v=1,V.mw,x.Af,x.AL,x.Bh,Vz⟩
def Qd(g:Gs)(c:Cl)(w:Int):Prop:=
 c.v=w∧c.Ah=g.A∧c.JO=false∧match c.next with
 | .DZ=>True
 | .count| .swap=>c.k<g.A∧(g.mw w=c.k∨g.GK w)
 | .Jr=>g.GK w
 | .nil=>False
def cE(g:Gs)(s:Sc):Prop:=
 g.GK s.v∧s.Ah=g.A∧match s.next with
 | .head=>0≤s.Df
 | .count=>0≤s.at_∧s.at_≤s.Df∧0≤s.pb∧s.pb≤1000
 | .L9| .En| .DV=>True
 | .BR=>Qd g s.AV s.w∧1≤s.w∧(g.val s.v (s.at_-1)=s.w∨g.GK s.w∧(g.val s.v (s.at_-1)=0∨g.GK (g.val s.v (s.at_-1))))
 | .nil=>False
def lW(s:Sc)(j:Int):Prop:=
 match s.next with
 | .head| .count=>s.Df≤j
 | .L9| .En=>s.at_≤j∧j<s.pb
 | .BR=>s.at_-1≤j∧j<s.pb
 |_=>False
def BD(m:Nat)(ms:Nat→Mk)(T:List Int)(v j:Int):Prop:=(∃t,t∈T∧hi t=v∧lo t≤j)∨ ∃i,i<m∧(ms i).next= .Ee∧(ms i).AU.v=v∧lW (ms i).AU j
def VB(c:Cl):Nat:=if c.next= .swap∨c.next= .Jr then 1 else 0
def Jk(y:Mk):Nat:=if y.next= .Ee then 1+(if y.AU.next= .BR then VB y.AU.AV else 0) else 0
def IE:cU→Bool
 | .Dt _=>true
 |_=>false
def IX(x:Mu):Nat:=if IE x.next=true∧x.Bl.next= .BR then VB x.Bl.AV else 0
def JX(M:Bz)(x:Mu):Prop:=(x.Ar.length:Int)<M.CQ
def lX(M:Bz)(g:Gs)(x:Mu)(v:Int):Prop:=x.Bl.v=v∧1≤v∧(x.Bl.next= .BR∧JX M x∧Qd g x.Bl.AV v∧g.R v∨x.Bl.next= .F9∧g.GK v)
def nD(V:Vw)(x:Mu):Prop:=1≤x.root x.op.a∧0≤x.op.b∧x.op.b<V.Lh (x.root x.op.a)∧0≤x.root x.op.c∧x.op.kind=2
def Gg(g:Gs)(u:Int):Prop:=u=0∨g.GK u
def hpS(M:Bz)(V:Vw)(x:Mu):Prop:=
 x.alloc.mark=x.Bh∧x.alloc.A7=x.op.a∧x.op.kind=0∧(x.Af.length:Int)<M.Af∧match x.alloc.next with
 | .nil=>x.alloc.e=21∧Bi x.op.a<0
 | .DZ| .Ot| .swap=>x.alloc.i=0∧x.alloc.e=0∧0≤Bi x.alloc.A7
 | .Ea=>x.alloc.i=0∧x.alloc.e=0∧0≤Bi x.alloc.A7
 | .En=>x.alloc.e=0∧0≤Bi x.alloc.A7∧V.Lh x.alloc.v=x.alloc.A7∧0≤x.alloc.i∧x.alloc.i<M.CU x.alloc.v∧ ∀j,j<x.alloc.i→V.val x.alloc.v j=0
 | .Lp=>x.alloc.e=0∧0≤Bi x.alloc.A7∧V.Lh x.alloc.v=x.alloc.A7∧ ∀j,V.val x.alloc.v j=0
 | .state=>x.alloc.e=0∧0≤Bi x.alloc.A7∧V.Lh x.alloc.v=x.alloc.A7∧(∀j,V.val x.alloc.v j=0)∧V.mw x.alloc.v=x.alloc.mark
def ZY(V:Vw)(D:De)(x:Mu):Prop:=x.Ah=D.Ah∧x.AL=D.Ah∧D.Be=5∧V.a1<3*D.Ah
def O4(M:Bz)(V:Vw)(g:Gs)(D:De)(x:Mu):Prop:=
 match x.next with
 | .ES=>JX M x
 | .Kq=>JX M x∧x.Af≠[]∧x.op.kind=3
 | .NU=>JX M x∧0≤x.op.a∧x.op.a<x.Af.length∧x.op.kind=4∧(x.Af.length:Int)<M.Af
 | .fail e=>JX M x∧Mu.Pv M x=e∧e≠0
 | .EU=>JX M x∧hpS M V x
 | .head=>JX M x∧(x.op.kind=1∧(x.Af.length:Int)<M.Af∨x.op.kind=2∧0≤x.root x.op.c)∧1≤x.root x.op.a
 | .G5=>JX M x∧1≤x.root x.op.a∧0≤x.op.b∧x.op.b<V.Lh (x.root x.op.a)∧x.op.kind=1∧(x.Af.length:Int)<M.Af
 | .old=>JX M x∧nD V x
 | .Es=>JX M x∧nD V x∧Gg g (V.val (x.root x.op.a) x.op.b)∧Gg g (x.root x.op.c)
 | .Dt .DN=>nD V x∧lX M g x (V.val (x.root x.op.a) x.op.b)
 | .Dt .FN=>nD V x∧Gg g (V.val (x.root x.op.a) x.op.b)∧lX M g x (x.root x.op.c)
 | .Dt .DZ=>ZY V D x∧1≤x.k∧x.k≤x.Af.length∧(∀i:Nat,i+1<x.k→Gg g (x.Af.getD i 0))∧lX M g x (x.Af.getD (x.k-1) 0)
 | .Dt .F5=>ZY V D x∧(∀r∈x.Af,Gg g r)∧x.Bl.next= .F9
 | .Dt .BX=>x.Bl.next= .F9
 | .Jq w=>JX M x∧((w=3*x.Ah-2∨w=3*x.Ah-1)∧1≤x.Ah∧x.Ah≤D.Ah∧(x.Ah=D.Ah→x.AL=D.Ah)∨w=3*x.Ah∧ZY V D x∧ ∀r∈x.Af,Gg g r)
structure DI (n:Int) (V:Vw) (D:De):Prop where
 c0:0≤D.Ah∧D.Ah≤n
 dn:D.Be≤13
 p0:V.w0=8*D.Ah+ph D.Be
 tn:D.Be=1∨D.Be=3∨D.Be=5→D.Bg=0
 c1:1≤D.Be→1≤D.Ah
structure PI (V:Vw) (D:De) (x:Mu):Prop where
 a0:x.AL≤D.Ah∧D.Ah-1≤x.AL∧0≤x.AL
 a1:D.Be≠1→x.AL=D.Ah
 t0:x.Bh≤x.AL∧D.Ah-1≤x.Bh∧0≤x.Bh
 t6:D.Be=0∨6≤D.Be→x.Bh=D.Ah
 k0:0≤V.a1∧V.a1≤3*D.Ah
 k2:3*D.Ah-2≤V.a1→x.AL=D.Ah
 k3:3*D.Ah≤V.a1→x.Bh=D.Ah
def ML(s:SwN):Bool:=
 match s with
 | .state| .mark| .free| .MW| .done=>true
 |_=>false
def Ko(y:Mk):Bool:=decide (y.next= .EN)&&ML y.AO.next
def yD(M:Bz)(V:Vw)(g:Gs)(D:De)(s:Sw):Prop:=
 1≤s.Ah∧s.Ah≤D.Ah∧(s.Ah=D.Ah→D.Be=12∨D.Be=13∨D.Be=0)∧
 (s.next= .take→hi s.w=s.Ah∧lo s.w<M.parts)∧
 (ML s.next=true→s.Ah=D.Ah∧D.Be=12∧0≤s.part∧s.part<lo V.w2∧s.DV=M.Ll s.part∧M.KN s.part≤s.v)∧
 (s.next= .state∨s.next= .mark∨s.next= .free∨s.next= .MW→s.v≤s.DV)∧
 (s.next= .mark∨s.next= .free→g.al s.v)∧(s.next= .free→ ¬g.GK s.v)∧s.next≠ .nil
structure SI (M:Bz) (V:Vw) (D:De) (m:Nat) (ms:Nat→Mk):Prop where
 h2:hi V.w2=if D.Be=0∨10≤D.Be then D.Ah else D.Ah-1
 k2:lo V.w2≤M.parts
 p3:0≤V.w3
 z2:D.Be=10∨D.Be=11→lo V.w2=0
 z3:D.Be=11→V.w3=0
 ct:D.Be=12→V.w3+(GY m fun j=>if Ko (ms j)=true then 1 else 0:Nat)=lo V.w2
 no:D.Be≠12→ ∀j,j<m→Ko (ms j)=false
 fu:lo V.w2<M.parts→D.Be=10∨D.Be=11∨D.Be=12∨hi V.w2=0
 ds: ∀i j,i<m→j<m→i≠j→Ko (ms i)=true→Ko (ms j)=true→(ms i).AO.part≠(ms j).AO.part
structure UI (M:Bz) (n:Int) (V:Vw) (D:De) (x:Mu) (m:Nat) (ms:Nat→Mk) (T:List Int):Prop where
 co:IB M.nodes (gs M V x (BD m ms T))
 hz: ∀v,1≤v→v≤M.nodes→V.st v=1→0≤V.Lh v∧V.Lh v≤M.CU v∧ ∀j,V.Lh v≤j→V.val v j=0
 tv: ∀t∈T,(gs M V x (BD m ms T)).GK (hi t)
 ac:(T≠[]∨ ∃j,j<m∧(ms j).next= .Ee)→x.AL=D.Ah∧1≤D.Be∧D.Be≤8
 qm:(9≤D.Be∨D.Be=0∨x.AL<D.Ah)→ ∀v,(gs M V x (BD m ms T)).R v→(gs M V x (BD m ms T)).GK v
 wk:V.w1=T.length+GY m (fun j=>Jk (ms j))+IX x
 wb:V.w1≤n
 de:DI n V D
 pi:PI V D x
 sc: ∀j,j<m→(ms j).next= .Ee→cE (gs M V x (BD m ms T)) (ms j).AU
 si:SI M V D m ms
 sw: ∀j,j<m→(ms j).next= .EN→yD M V (gs M V x (BD m ms T)) D (ms j).AO
 mu:O4 M V (gs M V x (BD m ms T)) D x
open Go.Proofs.YtmpcfamcbaineaaGreat.Mo
section
variable{V:Vw}{T:List Int}
def J3(ms:Nat→Mk)(i:Nat)(y:Mk):Nat→Mk:=fun j=>if j=i then y else ms j
theorem EM:J3 ms i y i=y:=if_pos rfl
theorem Gy{j:Nat}(h:j≠i):J3 ms i y j=ms j:=if_neg h
theorem yF(hi:i<m):GY m (fun j=>Jk (J3 ms i y j))+Jk (ms i)=GY m (fun j=>Jk (ms j))+Jk y:=by
 have:=Nw (m:=m) (k:=i) (f:=fun j=>Jk (J3 ms i y j)) (g:=fun j=>Jk (ms j)) hi fun j _ hne=>by simp only[Gy hne]
 simp only[EM] at this;exact this
theorem yG(hi:i<m):GY m (fun j=>if Ko (J3 ms i y j)=true then 1 else 0)+(if Ko (ms i)=true then 1 else 0)=GY m (fun j=>if Ko (ms j)=true then 1 else 0)+(if Ko y=true then 1 else 0):=by
 have:=Nw (m:=m) (k:=i) (f:=fun j=>if Ko (J3 ms i y j)=true then 1 else 0) (g:=fun j=>if Ko (ms j)=true then 1 else 0) hi fun j _ hne=>by simp only[Gy hne]
 simp only[EM] at this;exact this
theorem DI.LK(h:DI n V D):DI (n+1) V D:=⟨by have:=h.c0;omega,h.dn,h.p0,h.tn,h.c1⟩
theorem SI.JL(h:SI M V D m ms)(hi:i<m)(hs:Ko y=Ko (ms i))(hp:Ko y=true→y.AO.part=(ms i).AO.part):SI M V D m (J3 ms i y):=by
 have e:=yG (ms:=ms) (y:=y) hi;rw[hs] at e;have sw: ∀j,Ko (J3 ms i y j)=Ko (ms j):=fun j=>by
  by_cases ej:j=i
  ·subst ej;rw[EM,hs]
  rw[Gy ej]
 have pt: ∀j,Ko (J3 ms i y j)=true→(J3 ms i y j).AO.part=(ms j).AO.part:=fun j hj=>by
  by_cases ej:j=i
  ·subst ej;rw[EM] at hj⊢;exact hp hj
  rw[Gy ej]
 refine⟨h.h2,h.k2,h.p3,h.z2,h.z3,fun hd=>?_,fun hd j hj=>by rw[sw];exact h.no hd j hj,h.fu,fun a b ha hb hne ga gb=>?_⟩
 ·have:=h.ct hd;omega
 rw[pt a ga,pt b gb];rw[sw] at ga gb;exact h.ds a b ha hb hne ga gb
theorem DI.w1{w:Int}(h:DI n V D):DI n {V with w1:=w} D:=⟨h.c0,h.dn,h.p0,h.tn,h.c1⟩
theorem PI.w1{w:Int}(h:PI V D x):PI {V with w1:=w} D x:=⟨h.a0,h.a1,h.t0,h.t6,h.k0,h.k2,h.k3⟩
theorem SI.w1{w:Int}(h:SI M V D m ms):SI M {V with w1:=w} D m ms:=⟨h.h2,h.k2,h.p3,h.z2,h.z3,h.ct,h.no,h.fu,h.ds⟩
theorem UI.Qo(h:UI M n V D x m ms T)(hi:i<m)
  (hcov: ∀v j,(gs M V x (BD m ms T)).GK v→BD m ms T v j→BD m (J3 ms i y) T' v j∨V.val v j=0∨(gs M V x (BD m ms T)).GK (V.val v j))
  (ic: ∀t∈T',(gs M V x (BD m ms T)).GK (Mo.hi t)) (hac:T'≠[]∨y.next= .Ee→T≠[]∨(ms i).next= .Ee)
  (hwk:w+T.length+Jk (ms i)=V.w1+T'.length+Jk y) (hwb:w≤V.w1+1) (hsc:y.next= .Ee→cE (gs M V x (BD m ms T)) y.AU)
  (hs:Ko y=Ko (ms i)) (hp:Ko y=true→y.AO.part=(ms i).AO.part) (hsw:y.next= .EN→yD M V (gs M V x (BD m ms T)) D y.AO):
  UI M (n+1) {V with w1:=w} D x m (J3 ms i y) T':=by
 have hq:=h.qm;refine⟨h.co.Lw hcov,h.hz,ic,fun g=>h.ac ?_,h.qm,?_,by have:=h.wb;show w≤n+1;omega,h.de.LK.w1,h.pi.w1,fun j hj g=>?_,(h.si.JL hi hs hp).w1,fun j hj g=>?_,h.mu⟩
 ·rcases g with g|⟨j,hj,g⟩
  ·rcases hac (.inl g) with k|k
   ·exact .inl k
   exact .inr ⟨i,hi,k⟩
  by_cases e:j=i
  ·subst e;rw[EM] at g;rcases hac (.inr g) with k|k
   ·exact .inl k
   exact .inr ⟨j,hj,k⟩
  rw[Gy e] at g;exact .inr ⟨j,hj,g⟩
 ·have e:=yF (ms:=ms) (y:=y) hi;have:=h.wk;show w=_;omega
 ·by_cases e:j=i
  ·subst e;rw[EM] at g⊢
   exact hsc g
  rw[Gy e] at g⊢
  exact h.sc j hj g
 by_cases e:j=i
 ·subst e;rw[EM] at g⊢
  exact hsw g
 rw[Gy e] at g⊢
 exact h.sw j hj g
theorem VC(hT: ∀t∈T,t∈T'∨ ∀j,lo t≤j→BD m (J3 ms i y) T' (hi t) j)(h:BD m ms T v j):
  BD m (J3 ms i y) T' v j∨(i<m∧(ms i).next= .Ee∧(ms i).AU.v=v∧lW (ms i).AU j):=by
 rcases h with⟨t,h1,rfl,h3⟩|⟨k,h1,h2,h3,h4⟩
 ·rcases hT t h1 with g|g
  ·exact .inl (.inl ⟨t,g,rfl,h3⟩)
  exact .inl (g j h3)
 by_cases e:k=i
 ·subst e;exact .inr ⟨h1,h2,h3,h4⟩
 exact .inl (.inr ⟨k,h1,by rw[Gy e];exact⟨h2,h3,h4⟩⟩)
theorem tC(hi:i<m)(h1:y.next= .Ee)(h2:y.AU.v=v)(h3:lW y.AU j):BD m (J3 ms i y) T' v j:= .inr ⟨i,hi,by rw[EM];exact⟨h1,h2,h3⟩⟩
theorem UI.cZ(h:UI M n V D x m ms T)(hi:i<m)(h1:(ms i).next≠ .Ee)(h2:y.next≠ .Ee)
  (hs:Ko y=Ko (ms i)) (hp:Ko y=true→y.AO.part=(ms i).AO.part) (hsw:y.next= .EN→yD M V (gs M V x (BD m ms T)) D y.AO):UI M (n+1) V D x m (J3 ms i y) T:=by
 have e1:Jk (ms i)=0:=if_neg h1;have e2:Jk y=0:=if_neg h2;have:=UI.Qo (w:=V.w1) (T':=T) (y:=y) h hi (fun v j _ hc=>by
  rcases VC (i:=i) (y:=y) (T':=T) (fun t ht=> .inl ht) hc with g|⟨-,g,-⟩
  ·exact .inl g
  ·exact absurd g h1) h.tv (fun g=>by
  rcases g with g|g
  ·exact .inl g
  exact absurd g h2) (by rw[e1,e2]) (by omega) (fun g=>absurd g h2) hs hp hsw
 exact this
end
open Go.Proofs.YtmpcfamcbaineaaGreat.Mo
section
variable{T:List Int}
def Je(y:Mk):List Int:=if y.next= .EN∧y.AO.next= .MW then[y.AO.push.BO] else[]
def LP(s:ki):Bool:=
 match s with
 | .Ea| .En| .Lp| .state=>true
 |_=>false
def JA(x:Mu):List Int:=if x.next= .EU∧LP x.alloc.next=true then[x.alloc.v] else[]
def yH(M:Bz)(l:Dk)(x:Mu)(hpm:List Int):Prop:=(IE x.next=true∧x.Bl.next= .F9∧XP M l x.Bl.put x.Ar hpm)∨(¬(IE x.next=true∧x.Bl.next= .F9)∧hpm=[])
def ZZ(f:Nat→List Int)(i:Nat)(h:List Int):Nat→List Int:=fun j=>if j=i then h else f j
theorem Tc{f:Nat→List Int}{h:List Int}:ZZ f i h i=h:=if_pos rfl
theorem Yl{f:Nat→List Int}{h:List Int}{j:Nat}(e:j≠i):ZZ f i h j=f j:=if_neg e
theorem lY{f:Nat→List Int}{h:List Int}(hi:i<m)(t:Int):GY m (fun j=>(ZZ f i h j).count t)+(f i).count t=GY m (fun j=>(f j).count t)+h.count t:=by
 have:=Nw (m:=m) (k:=i) (f:=fun j=>(ZZ f i h j).count t) (g:=fun j=>(f j).count t) hi fun j _ hne=>by simp only[Yl hne]
 simp only[Tc] at this;exact this
theorem JM{f:Nat→Nat}{k:Nat}: ∀{m:Nat},k<m→f k≤GY m f
 |0,h=>by omega
 |m+1,h=>by
  show f k≤GY m f+f m;by_cases e:k=m
  ·subst e;omega
  have:=JM (f:=f) (m:=m) (k:=k) (by omega);omega
theorem Z4{f:Nat→Nat}{k j:Nat}(hne:k≠j): ∀{m:Nat},k<m→j<m→f k+f j≤GY m f
 |0,h,_=>by omega
 |m+1,h,h'=>by
  show f k+f j≤GY m f+f m;by_cases e:k=m
  ·subst e;have:=JM (f:=f) (m:=k) (k:=j) (by omega);omega
  by_cases e':j=m
  ·subst e';have:=JM (f:=f) (m:=j) (k:=k) (by omega);omega
  have:=Z4 (f:=f) hne (m:=m) (by omega) (by omega);omega
def nm(M:Bz):Nat:=M.Ai.toNat
def MM(M:Bz)(l:Dk)(v:Int):Nat:=if ld l (M.DK v)=1 then 1 else 0
structure WI (M:Bz) (n:Int) (l:Dk) (D:De) (x:Mu) (ms:Nat→Mk) (Bc:Int→Int) (P4 P5 hpm T:List Int) (hps Hs F:Nat→List Int):Prop where
 len:l.length=M.all.toNat
 dq: ∀u,0≤u→u<M.Ai→VL M n l u (Bc u)
 F8:Jp M n l P4 P5
 nd: ∀t,P4.count t+P5.count t+GY (nm M) (fun j=>(hps j).count t)+hpm.count t≤1
 rg: ∀t,1≤P4.count t+P5.count t+GY (nm M) (fun j=>(hps j).count t)+hpm.count t→1≤t∧t≤M.Bq
 nG: ∀j,j<nm M→MD M l j Bc (ms j) (hps j) (Hs j)
 mp:yH M l x hpm
 ct: ∀t,T.count t=cD M l Bc t+GY (nm M) (fun j=>(Hs j).count t)+cP M l P4 t+x.Ar.count t
 ce:LY M n l F
 cn: ∀v,GY 5 (fun k=>(F k).count v)+GY (nm M) (fun j=>(Je (ms j)).count v)+(JA x).count v+MM M l v≤1
 cc: ∀k:Nat,k<5→ ∀v∈F k,(1≤v∧v≤M.nodes)∧M.Ew v=k
 cs: ∀j,j<nm M→(ms j).next= .EN→(ms j).AO.next= .MW→AH M l (ms j).AO.push∧(ms j).AO.push.BO=(ms j).AO.v
 cm:x.next= .EU→ZX M l x.alloc
 cv:x.next= .EU→LP x.alloc.next=true→(1≤x.alloc.v∧x.alloc.v≤M.nodes)∧M.Ew x.alloc.v=Bi x.alloc.A7
 ui:UI M n (vw M l) D x (nm M) ms T
theorem WI.e1(h:WI M n l D x ms Bc P4 P5 hpm T hps Hs F)(hi:i<nm M):E1 M n l Bc P4 P5 (hps i):=by
 have key: ∀t,P4.count t+P5.count t+(hps i).count t≤P4.count t+P5.count t+GY (nm M) (fun j=>(hps j).count t)+hpm.count t:=fun t=>by
  have:=JM (f:=fun j=>(hps j).count t) hi;omega
 refine⟨h.len,h.dq,h.F8,List.nodup_iff_count.2 fun t=>?_,fun t ht=>h.rg t ?_⟩
 ·rw[List.count_append,List.count_append];have:=h.nd t;have:=key t;omega
 have:=List.count_pos_iff.2 ht;rw[List.count_append,List.count_append] at this;have:=key t;omega
theorem WI.eM(h:WI M n l D x ms Bc P4 P5 hpm T hps Hs F):E1 M n l Bc P4 P5 hpm:=by
 refine⟨h.len,h.dq,h.F8,List.nodup_iff_count.2 fun t=>?_,fun t ht=>h.rg t ?_⟩
 ·rw[List.count_append,List.count_append];have:=h.nd t;omega
 have:=List.count_pos_iff.2 ht;rw[List.count_append,List.count_append] at this;omega
theorem WI.r9(h:WI M n l D x ms Bc P4 P5 hpm T hps Hs F)(hi:i<nm M){j:Nat}(hj:j<nm M)(hne:j≠i): ∀p∈hps j,p∉hps i:=fun p h1 h2=>by
 have:=h.nd p;have:=Z4 (f:=fun j=>(hps j).count p) hne hj hi;have:=List.count_pos_iff.2 h1;have:=List.count_pos_iff.2 h2;omega
theorem WI.ie(h:WI M n l D x ms Bc P4 P5 hpm T hps Hs F)(hi:i<nm M): ∀p∈hpm,p∉hps i:=fun p h1 h2=>by
 have:=h.nd p;have:=JM (f:=fun j=>(hps j).count p) hi;have:=List.count_pos_iff.2 h1;have:=List.count_pos_iff.2 h2;omega
theorem Td(h:QM M l l' hold):Qu M l l':=⟨h.len,fun p hp=>by
 refine h.ND p ?_ ?_<;>rcases hp with rfl|rfl|⟨_,rfl⟩|⟨_,_,rfl⟩|⟨_,rfl⟩|⟨_,rfl⟩|⟨_,rfl⟩|⟨_,_,rfl⟩<;>simp⟩
theorem cF(h:QB M l l' a hold Bc EY)(k:Int):ld l' (M.Eg k)=ld l (M.Eg k):=h.ND (.head k) (by simp) (by simp) (by simp) (by simp) (by simp) (by simp) (by simp) (by simp)
theorem cG(h:QB M l l' a hold Bc EY)(k:Int):ld l' (M.Next k)=ld l (M.Next k):=h.ND (.next k) (by simp) (by simp) (by simp) (by simp) (by simp) (by simp) (by simp) (by simp)
theorem cH(h:QB M l l' a hold Bc EY)(k:Int):ld l' (M.DK k)=ld l (M.DK k):=h.ND (.state k) (by simp) (by simp) (by simp) (by simp) (by simp) (by simp) (by simp) (by simp)
structure Fq (M:Bz) (l l':Dk):Prop where
 hd: ∀k,ld l' (M.Eg k)=ld l (M.Eg k)
 nx: ∀v,ld l' (M.Next v)=ld l (M.Next v)
theorem Fq.cells(h:Fq M l l')(hc:LY M n l F):LY M (n+1) l' F:=⟨fun k hk=>by rw[h.hd];exact(hc.ch k hk).frame fun v _=>h.nx v,fun k hk=>by rw[h.hd];have:=hc.tg k hk;omega⟩
theorem Fq.cp(h:Fq M l l'){s:St}(hI:AH M l s):AH M l' s:=by
 obtain⟨h1,h2,h3,h4⟩:=hI;refine⟨h1,h2,h3,?_⟩;have np: ¬Nv s:=by
  rintro(h|h|h)<;>rcases h3 with g|g|g<;>rw[h] at g<;>cases g
 exact h4.mono (L:=[]) (fun g=>absurd g np) (.inl (by rw[h2];exact h.hd _)) (fun _=>by rw[h1];exact h.nx _) (fun g=>absurd g np)
theorem Fq.hp(h:Fq M l l'){a:Hp}(hI:ZX M l a):ZX M l' a:=by
 unfold ZX MA at hI⊢
 simp only[h.hd,h.nx];exact hI
theorem yI(h:Qu M l l')(hm:yH M l x hpm):yH M l' x hpm:=by
 rcases hm with⟨a,b,c⟩|k
 ·exact .inl ⟨a,b,Lv h c⟩
 exact .inr k
theorem yJ(hi:i<nm M):GY (nm M) (fun j=>(Je (J3 ms i y j)).count v)+(Je (ms i)).count v=GY (nm M) (fun j=>(Je (ms j)).count v)+(Je y).count v:=by
 have:=Nw (m:=nm M) (k:=i) (f:=fun j=>(Je (J3 ms i y j)).count v) (g:=fun j=>(Je (ms j)).count v) hi fun j _ hne=>by simp only[Gy hne]
 simp only[EM] at this;exact this
theorem WI.z1(h:WI M n l D x ms Bc P4 P5 hpm T hps Hs F)(hi:i<nm M)(hO:O1 M n l l' i Bc EY P4 P5 (hps i) QL SX hp' (Hs i) H')
  (hm:MD M l' i EY y hp' H') (hc0:Je (ms i)=[]) (hc1:Je y=[]) (hcs:y.next≠ .EN) (AJ:UI M (n+1) (vw M l) D x (nm M) (J3 ms i y) T):
  WI M (n+1) l' D x (J3 ms i y) EY QL SX hpm T (ZZ hps i hp') (ZZ Hs i H') F:=by
 have hz:=hO.z;have hE:=h.e1 hi;have hdis:=hE.r9;have hq:Fq M l l':=⟨cF hz,cG hz⟩;have pm: ∀t,QL.count t+SX.count t+hp'.count t=P4.count t+P5.count t+(hps i).count t:=fun t=>by
  have:=hO.pm.count_eq t;rw[List.count_append,List.count_append,List.count_append,List.count_append] at this;exact this
 have tot: ∀t,QL.count t+SX.count t+GY (nm M) (fun j=>(ZZ hps i hp' j).count t)+hpm.count t=P4.count t+P5.count t+GY (nm M) (fun j=>(hps j).count t)+hpm.count t:=fun t=>by
  have:=pm t;have:=lY (f:=hps) (h:=hp') hi t;omega
 refine⟨hz.len.trans h.len,hO.dq,hO.F8,fun t=>by rw[tot];exact h.nd t,fun t ht=>h.rg t (by rw[tot] at ht;exact ht),fun j hj=>?_,?_,fun t=>?_,hq.cells h.ce,fun v=>?_,h.cc,fun j hj g1 g2=>?_,fun g=>hq.hp (h.cm g),h.cv,?_⟩
 ·by_cases e:j=i
  ·subst e;rw[EM,Tc,Tc];exact hm
  rw[Gy e,Yl e,Yl e];exact gw h.F8 hz hdis (h.r9 hi hj e) (by omega) (by unfold nm at hj;omega) (by omega) (h.nG j hj)
 ·rcases h.mp with⟨a,b,c⟩|k
  ·exact .inl ⟨a,b,bX h.F8 hz hdis (h.ie hi) c⟩
  exact .inr k
 ·have h1:=hO.ct t;have h2:=lY (f:=Hs) (h:=H') hi t;have h3:=h.ct t;omega
 ·have h1:=yJ (ms:=ms) (y:=y) (v:=v) hi;rw[hc0,hc1] at h1;have h2:=h.cn v;have h3:MM M l' v=MM M l v:=by unfold MM;rw[cH hz]
  rw[h3];omega
 ·by_cases e:j=i
  ·subst e;rw[EM] at g1;exact absurd g1 hcs
  rw[Gy e] at g1 g2⊢
  have:=h.cs j hj g1 g2;exact⟨hq.cp this.1,this.2⟩
 rw[Lx hz];exact AJ
theorem WI.qu(h:WI M n l D x ms Bc P4 P5 hpm T hps Hs F)(hi:i<nm M)(hq:Qu M l l')(hf:Fq M l l')(hm:MD M l' i Bc y (hps i) H')(hct: ∀t,T'.count t+(Hs i).count t=T.count t+H'.count t)
  (hcn: ∀v,(Je y).count v+MM M l' v≤(Je (ms i)).count v+MM M l v) (hcs:y.next= .EN→y.AO.next= .MW→AH M l' y.AO.push∧y.AO.push.BO=y.AO.v)
  (AJ:UI M (n+1) (vw M l') D x (nm M) (J3 ms i y) T'):WI M (n+1) l' D x (J3 ms i y) Bc P4 P5 hpm T' hps (ZZ Hs i H') F:=by
 have hE:=h.e1 hi;have hE':=hq.e1 hE;refine⟨hq.len.trans h.len,hE'.dq,hE'.F8,h.nd,h.rg,fun j hj=>?_,yI hq h.mp,fun t=>?_,hf.cells h.ce,fun v=>?_,h.cc,fun j hj g1 g2=>?_,fun g=>hf.hp (h.cm g),h.cv,AJ⟩
 ·by_cases e:j=i
  ·subst e;rw[EM,Tc];exact hm
  rw[Gy e,Yl e];exact sZ hq (h.nG j hj)
 ·have h2:=lY (f:=Hs) (h:=H') hi t;have h3:=h.ct t;have h4:=hct t;rw[hq.cD hE,hq.cP];omega
 ·have h1:=yJ (ms:=ms) (y:=y) (v:=v) hi;have h2:=h.cn v;have h3:=hcn v;omega
 by_cases e:j=i
 ·subst e;rw[EM] at g1 g2⊢;exact hcs g1 g2
 rw[Gy e] at g1 g2⊢
 have:=h.cs j hj g1 g2;exact⟨hf.cp this.1,this.2⟩
theorem WI.cell(h:WI M n l D x ms Bc P4 P5 hpm T hps Hs F)(hi:i<nm M)(hr:QM M l l' hold)(cI: ∀v∈hold,v∈Je (ms i))(hm:MD M l' i Bc y (hps i) (Hs i))(hce:LY M (n+1) l' F')
  (hcn: ∀v,GY 5 (fun k=>(F' k).count v)+(Je y).count v≤GY 5 (fun k=>(F k).count v)+(Je (ms i)).count v) (hcc: ∀k:Nat,k<5→ ∀v∈F' k,(1≤v∧v≤M.nodes)∧M.Ew v=k)
  (hcs:y.next= .EN→y.AO.next= .MW→AH M l' y.AO.push∧y.AO.push.BO=y.AO.v) (AJ:UI M (n+1) (vw M l) D x (nm M) (J3 ms i y) T):WI M (n+1) l' D x (J3 ms i y) Bc P4 P5 hpm T hps Hs F':=by
 have hq:=Td hr;have hE:=h.e1 hi;have hE':=hq.e1 hE;have hst: ∀v,MM M l' v=MM M l v:=fun v=>by unfold MM;rw[show ld l' (M.DK v)=ld l (M.DK v) from hr.ND (.state v) (by simp) (by simp)]
 refine⟨hq.len.trans h.len,hE'.dq,hE'.F8,h.nd,h.rg,fun j hj=>?_,yI hq h.mp,fun t=>?_,hce,fun v=>?_,hcc,fun j hj g1 g2=>?_,fun g=>?_,h.cv,by rw[VA hr];exact AJ⟩
 ·by_cases e:j=i
  ·subst e;rw[EM];exact hm
  rw[Gy e];exact sZ hq (h.nG j hj)
 ·have h3:=h.ct t;rw[hq.cD hE,hq.cP];omega
 ·have h1:=yJ (ms:=ms) (y:=y) (v:=v) hi;have h2:=h.cn v;have h3:=hcn v;rw[hst];omega
 ·by_cases e:j=i
  ·subst e;rw[EM] at g1 g2⊢;exact hcs g1 g2
  rw[Gy e] at g1 g2⊢
  have:=h.cs j hj g1 g2;refine⟨nz hr (fun hm=>?_) this.1,this.2⟩;have h1:=cI _ hm;have h2:(ms j).AO.push.BO∈Je (ms j):=by unfold Je;rw[if_pos ⟨g1,g2⟩];simp
  have h3:=Z4 (f:=fun k=>(Je (ms k)).count (ms j).AO.push.BO) e hj hi;have h4:=h.cn (ms j).AO.push.BO;have h5:=List.count_pos_iff.2 h1;have h6:=List.count_pos_iff.2 h2;omega
 have Ly:=g;have sB:=h.ui.mu;unfold O4 at sB;rw[Ly] at sB;by_cases hn:x.alloc.next= .Ot∨x.alloc.next= .swap
 ·have hk:0≤Bi x.alloc.A7∧Bi x.alloc.A7<5:=by
   have h5:Bi x.alloc.A7<5:=by unfold Bi;repeat' split<;>omega
   obtain⟨-,-,-,-,-,hs⟩:=sB;rcases hn with e|e<;>rw[e] at hs<;>exact⟨hs.2.2,h5⟩
  refine Up (h.cm g) h.ce hk hr fun k hk v hv hm=>?_
  have h1:=cI v hm;have h2:=JM (f:=fun k=>(Je (ms k)).count v) hi;have h3:=JM (f:=fun k=>(F k).count v) hk;have h4:=h.cn v;have h5:=List.count_pos_iff.2 h1;have h6:=List.count_pos_iff.2 hv;omega
 unfold ZX;cases e:x.alloc.next<;>first|trivial|(exact absurd (Or.inl e) hn)|(exact absurd (Or.inr e) hn)
end
open Go.Proofs.YtmpcfamcbaineaaGreat.Mo
section
variable{T:List Int}
theorem LZ(hL:La M)(h:(∃v j,q= .En v j)∨(∃v,q= .state v)∨(∃v,q= .mark v)∨(∃v,q= .Ea v)∨q= .FW 0∨q= .FW 1∨q= .FW 2∨q= .FW 3∨ ∃i,q= .Jq i):Qu M l (put l (ad M q) v)∧Fq M l (put l (ad M q) v):=by
 refine⟨Qu.put hL ?_,fun k=>DU hL (q:= .head k) ?_,fun k=>DU hL (q:= .next k) ?_⟩<;>rcases h with⟨_,_,rfl⟩|⟨_,rfl⟩|⟨_,rfl⟩|⟨_,rfl⟩|rfl|rfl|rfl|rfl|⟨_,rfl⟩<;>simp
theorem yK:ad M (.FW 1)=1:=rfl
theorem Tf(hL:La M)(hl:l.length=M.all.toNat)(h:0≤a)(h5:a≤5):QS l a:=by
 refine⟨by omega,?_⟩;rw[hl];have:=hL.all;have:=hL.DW;have:=hL.Mz;have:=hL.Tw;have:=hL.WT;have:=hL.head;have:=hL.mu;have:=hL.Bq;omega
theorem QC(hL:La M):vw M (put l (ad M q) v)=
  ⟨fun a j=>if q= .En a j then ld (put l (ad M q) v) (ad M q) else ld l (M.H8 a j),fun a=>if q= .state a then ld (put l (ad M q) v) (ad M q) else ld l (M.DK a),fun a=>if q= .mark a then ld (put l (ad M q) v) (ad M q) else ld l (M.Mark a),fun a=>if q= .Ea a then ld (put l (ad M q) v) (ad M q) else ld l (M.D7 a),if q= .FW 0 then ld (put l (ad M q) v) (ad M q) else ld l 0,if q= .FW 1 then ld (put l (ad M q) v) (ad M q) else ld l 1,if q= .FW 2 then ld (put l (ad M q) v) (ad M q) else ld l 2,if q= .FW 3 then ld (put l (ad M q) v) (ad M q) else ld l 3,if q= .Jq 0 then ld (put l (ad M q) v) (ad M q) else ld l (M.O8 0)⟩:=by
 have key: ∀p:Pl,ld (put l (ad M q) v) (ad M p)=if q=p then ld (put l (ad M q) v) (ad M q) else ld l (ad M p):=fun p=>by
  by_cases e:q=p
  ·subst e;rw[if_pos rfl]
  rw[if_neg e];exact DU hL e
 have k0: ∀p:Pl,p= .FW 0∨p= .FW 1∨p= .FW 2∨p= .FW 3→ld (put l (ad M q) v) (ad M p)=if q=p then ld (put l (ad M q) v) (ad M q) else ld l (ad M p):=fun p _=>key p
 unfold vw;rw[show ld (put l (ad M q) v) 0=_ from key (.FW 0),show ld (put l (ad M q) v) 1=_ from key (.FW 1),show ld (put l (ad M q) v) 2=_ from key (.FW 2),show ld (put l (ad M q) v) 3=_ from key (.FW 3),show ld (put l (ad M q) v) (M.O8 0)=_ from key (.Jq 0)];congr 1
 ·funext a j;exact key (.En a j)
 ·funext a;exact key (.state a)
 ·funext a;exact key (.mark a)
 funext a;exact key (.Ea a)
theorem sC(hL:La M)(hl:l.length=M.all.toNat):vw M (put l 1 v)={vw M l with w1:=v}:=by
 have:=QC (l:=l) (v:=v) hL (q:= .FW 1);rw[yK] at this;rw[this,Ei (Tf hL hl (by omega) (by omega))];simp[vw]
theorem ii(hL:La M)(hl:l.length=M.all.toNat):vw M (put l 2 v)={vw M l with w2:=v}:=by
 have:=QC (l:=l) (v:=v) hL (q:= .FW 2);rw[rI] at this;rw[this,Ei (Tf hL hl (by omega) (by omega))];simp[vw]
theorem ij(hL:La M)(hl:l.length=M.all.toNat):vw M (put l 3 v)={vw M l with w3:=v}:=by
 have:=QC (l:=l) (v:=v) hL (q:= .FW 3);rw[rK] at this;rw[this,Ei (Tf hL hl (by omega) (by omega))];simp[vw]
theorem Uv(hL:La M)(hl:l.length=M.all.toNat):vw M (put l 0 v)={vw M l with w0:=v}:=by
 have:=QC (l:=l) (v:=v) hL (q:= .FW 0);rw[K5] at this;rw[this,Ei (Tf hL hl (by omega) (by omega))];simp[vw]
theorem gY(hL:La M)(hl:l.length=M.all.toNat){p:Pl}(h:0≤ad M p):QS l (ad M p):=⟨h,by rw[hl];have:=KJ hL h;omega⟩
theorem lZ(hL:La M)(hl:l.length=M.all.toNat)(hw:1≤w∧w≤M.nodes):vw M (put l (M.Mark w) v)={vw M l with mw:=fun a=>if a=w then v else(vw M l).mw a}:=by
 have:=QC (l:=l) (v:=v) hL (q:= .mark w);rw[Ei (gY hL hl (p:= .mark w) (JJ hL hw.1 hw.2 (by omega) (by omega)))] at this;refine Eq.trans this ?_;simp only[vw];congr 1<;>simp
 funext a;by_cases e:a=w
 ·subst e;simp
 rw[if_neg e,if_neg (fun g=>e g.symm)]
theorem Z5(hL:La M)(hl:l.length=M.all.toNat)(hw:1≤w∧w≤M.nodes):vw M (put l (M.DK w) v)={vw M l with st:=fun a=>if a=w then v else(vw M l).st a}:=by
 have:=QC (l:=l) (v:=v) hL (q:= .state w);rw[Ei (gY hL hl (p:= .state w) (JJ hL hw.1 hw.2 (by omega) (by omega)))] at this;refine Eq.trans this ?_;simp only[vw];congr 1<;>simp
 funext a;by_cases e:a=w
 ·subst e;simp
 rw[if_neg e,if_neg (fun g=>e g.symm)]
theorem AK(hL:La M)(hl:l.length=M.all.toNat)(hw:1≤w∧w≤M.nodes):vw M (put l (M.D7 w) v)={vw M l with Lh:=fun a=>if a=w then v else(vw M l).Lh a}:=by
 have:=QC (l:=l) (v:=v) hL (q:= .Ea w);rw[Ei (gY hL hl (p:= .Ea w) (JJ hL hw.1 hw.2 (by omega) (by omega)))] at this;refine Eq.trans this ?_;simp only[vw];congr 1<;>simp
 funext a;by_cases e:a=w
 ·subst e;simp
 rw[if_neg e,if_neg (fun g=>e g.symm)]
theorem UP(hL:La M)(hw:1≤w∧w≤M.nodes)(h0:0≤j)(h1:j<M.CU w):0≤ad M (.En w j):=by
 show 0≤M.H8 w j;unfold Bz.H8;rw[if_neg (by omega)];have h:=(hL.node w (4+j) hw.1 hw.2 (by omega) (by omega)).1;have:=hL.DW;have:=hL.Mz;have:=hL.Tw;have:=hL.WT;have:=hL.head;have:=hL.mu;have:=hL.Bq;omega
theorem og(hL:La M)(hl:l.length=M.all.toNat)(hw:1≤w∧w≤M.nodes)(h0:0≤j)(h1:j<M.CU w):vw M (put l (M.H8 w j) v)={vw M l with val:=fun a k=>if a=w∧k=j then v else(vw M l).val a k}:=by
 have:=QC (l:=l) (v:=v) hL (q:= .En w j);rw[Ei (gY hL hl (p:= .En w j) (UP hL hw h0 h1))] at this;refine Eq.trans this ?_;simp only[vw];congr 1<;>simp
 funext a k;by_cases e:a=w∧k=j
 ·obtain⟨rfl,rfl⟩:=e;simp
 rw[if_neg e,if_neg (fun g=>e ⟨g.1.symm,g.2.symm⟩)]
theorem sE(hL:La M)(hl:l.length=M.all.toNat):vw M (put l (M.O8 0) v)={vw M l with a1:=v}:=by
 have hmu:=hL.mu;have:=QC (l:=l) (v:=v) hL (q:= .Jq 0);rw[Ei (gY hL hl (p:= .Jq 0) (rB hL (by omega) (by omega)))] at this;refine Eq.trans this ?_;simp only[vw];congr 1<;>simp
theorem Iq(hL:La M)(h:q≠ .state a):MM M (put l (ad M q) v) a=MM M l a:=by
 unfold MM;rw[show ld (put l (ad M q) v) (M.DK a)=ld l (M.DK a) from DU hL (q:= .state a) h]
theorem l7(hL:La M)(h: ¬(0≤j∧j<M.CU v)):(vw M l).val v j=0:=by
 show ld l (M.H8 v j)=0;unfold Bz.H8;rw[if_pos (by omega)];exact rA (by omega)
theorem WI.Lz(h:WI M n l D x ms Bc P4 P5 hpm T hps Hs F)(hi:i<nm M){t:Int}(ht:t∈Hs i):t∈T:=by
 have h1:=List.count_pos_iff.2 ht;have h2:=JM (f:=fun j=>(Hs j).count t) hi;have h3:=h.ct t;exact List.count_pos_iff.1 (by omega)
theorem UI.NM{V:Vw}(h:UI M n V D x m ms T)(hac:T≠[]∨ ∃j,j<m∧(ms j).next= .Ee):x.AL=D.Ah∧V.w0/8=D.Ah:=by
 have h1:=h.ac hac;have hp:=h.de.p0;have hr:=x8 D.Be;exact⟨h1.1,by omega⟩
end
open Go.Proofs.YtmpcfamcbaineaaGreat.Mo
section
variable{T:List Int}
def Lj(M:Bz)(n:Int)(l:Dk)(D:De)(x:Mu)(ms:Nat→Mk):Prop:= ∃Bc P4 P5 hpm T hps Hs F,WI M n l D x ms Bc P4 P5 hpm T hps Hs F
theorem Qu.Gn:Qu M l l:=⟨rfl,fun _ _=>rfl⟩
theorem Fq.Gn:Fq M l l:=⟨fun _=>rfl,fun _=>rfl⟩
theorem Z7{b:uI}(h:lV b):(⟨b.BI,min (max b.at_ 0) 4,min (max b.Bq 0) 4⟩:uI)=b:=by
 obtain⟨h1,h2,h3,h4⟩:=h;cases b;simp only at*
 congr 1<;>omega
theorem WI.still(h:WI M n l D x ms Bc P4 P5 hpm T hps Hs F)(hi:i<nm M)(hm:MD M l i Bc y (hps i) (Hs i))(h1:(ms i).next≠ .Ee)(h2:y.next≠ .Ee)(hc:Je y=Je (ms i))(hl:y.next= .EN→y.AO.next= .MW→AH M l y.AO.push∧y.AO.push.BO=y.AO.v)
  (hs:Ko y=Ko (ms i)) (hp:Ko y=true→y.AO.part=(ms i).AO.part) (hsw:y.next= .EN→yD M (vw M l) (gs M (vw M l) x (BD (nm M) ms T)) D y.AO):Lj M (n+1) l D x (J3 ms i y):=
 ⟨Bc,P4,P5,hpm,T,hps,_,F,h.qu hi .Gn .Gn hm (fun t=>rfl) (fun v=>by rw[hc];exact Nat.le_refl _) hl (h.ui.cZ hi h1 h2 hs hp hsw)⟩
theorem GU(h:y.next≠ .EN):Ko y=false:=by unfold Ko;rw[decide_eq_false h];rfl
theorem O5(h:y.next≠ .EN):Je y=[]:=if_neg fun g=>h g.1
theorem X4(h:WI M n l D x ms Bc P4 P5 hpm T hps Hs F)(hi:i<nm M)(hx:(ms i).next= .DZ):Lj M (n+1) ((ms i).step M l dr).2 D x (J3 ms i ((ms i).step M l dr).1)∧((ms i).step M l dr).1.Ae=BH:=by
 have hm:=h.nG i hi;obtain⟨m1,m2,m3⟩:=hm;rw[hx] at m3;obtain⟨m3,m4,m5⟩:=m3;have hp0:=h.ui.de.p0;have hph:=x8 D.Be;have hpi:=K4 h.ui.de.dn;have tH:Ko (ms i)=false:=GU (by rw[hx];simp);have hc0:Je (ms i)=[]:=O5 (by rw[hx];simp);unfold Mo.Mk.step;rw[hx];simp only
 repeat' split
 ·refine⟨h.still hi ⟨m1,m2,by simp[Mo.Sk.new],m1,?_,rfl,[],⟨?_,m3,rfl,rfl⟩,by simp[Mo.Sk.new,Mo.Dq.Kq],?_,?_⟩ (by rw[hx];simp) (by simp) (by rw[hc0];exact O5 (by simp)) (fun g=>by cases g) (by rw[tH];exact GU (by simp)) (fun g=>absurd g (by rw[GU (by simp)];simp)) (fun g=>by cases g),rfl⟩
  ·show lV ⟨_,_,_⟩;rw[Z7 m2];exact m2
  ·show M.CS (ms i).i=_;rw[m1]
  ·show _=MK ⟨_,_,_⟩;rw[Z7 m2];exact m4
  show _=Gf M l ⟨_,_,_⟩++[];rw[Z7 m2,List.append_nil];exact m5
 ·rename_i g;have e5:ph D.Be=5:=by have:(vw M l).w0 % 8=5:=g;omega
  have hd:=hpi.2.2.2 e5;have hc1:=h.ui.de.c1 (by omega);have hcy:ld l 0/8=D.Ah:=by show(vw M l).w0/8=_;omega
  refine⟨h.still hi ⟨m1,m2,m3,m4,m5⟩ (by rw[hx];simp) (by simp) (by rw[hc0];unfold Je;simp[Mo.Sw.new]) (fun _ g=>by cases g) (by rw[tH];simp[Ko,ML,Mo.Sw.new]) (fun g=>by simp[Ko,ML,Mo.Sw.new] at g) (fun _=>?_),rfl⟩;refine⟨by show 1≤ld l 0/8;omega,by show ld l 0/8≤_;omega,(fun _=>by omega),(fun g=>by cases g),(fun g=>by cases g),(fun g=>by simp[Mo.Sw.new] at g),(fun g=>by simp[Mo.Sw.new] at g),(fun g=>by cases g),by simp[Mo.Sw.new]⟩
 refine⟨h.still hi ⟨m1,m2,?_⟩ (by rw[hx];simp) (by simp[hx]) (by rw[hc0];exact O5 (by simp[hx])) (fun g=>by simp[hx] at g) (by rw[tH];exact GU (by simp[hx])) (fun g=>absurd g (by rw[GU (by simp[hx])];simp)) (fun g=>by simp[hx] at g),rfl⟩;simp only[hx];exact⟨m3,m4,m5⟩
theorem U4(hL:La M)(hn:n<900000)(h:WI M n l D x ms Bc P4 P5 hpm T hps Hs F)(hi:i<nm M)(hx:(ms i).next= .QU):Lj M (n+1) ((ms i).step M l dr).2 D x (J3 ms i ((ms i).step M l dr).1)∧((ms i).step M l dr).1.Ae=BH:=by
 have hm:=h.nG i hi;obtain⟨m1,m2,m3⟩:=hm;rw[hx] at m3;obtain⟨m3,m4⟩:=m3;have hi0:(i:Int)<M.Ai:=by unfold nm at hi;omega
 have tH:Ko (ms i)=false:=GU (by rw[hx];simp);have hc0:Je (ms i)=[]:=O5 (by rw[hx];simp);obtain⟨EY,QL,SX,hp',H',hO,hs⟩:=cA hL hn (by omega) hi0 (h.e1 hi) m4 m3;unfold Mo.Mk.step;rw[hx];simp only;have QQ: ∀y:Mk,y.next≠ .Ee→y.next≠ .EN→MD M ((ms i).Hq.step M l).2 i EY y hp' H'→Lj M (n+1) ((ms i).Hq.step M l).2 D x (J3 ms i y):=fun y y1 y2 ym=>
  ⟨EY,QL,SX,hpm,T,_,_,F,h.z1 hi hO ym hc0 (O5 y2) y2 (h.ui.cZ hi (by rw[hx];simp) y1 (by rw[tH];exact GU y2) (fun g=>absurd g (by rw[GU y2];simp)) (fun g=>absurd g y2))⟩
 split
 ·rename_i hnil;obtain⟨s1,s2,s3⟩:=hs;rw[hnil] at s3;obtain⟨s3,s4,s5⟩:=s3;cases hf:((ms i).Hq.step M l).1.Ep
  ·refine⟨QQ _ (by simp) (by simp) ⟨m1,s2,s3,s4,?_⟩,rfl⟩;rw[hf] at s5;simpa using s5
  refine⟨QQ _ (by simp) (by simp) ⟨m1,s2,s3,s4,?_⟩,rfl⟩;rw[hf] at s5;simpa using s5
 rename_i hnil;refine⟨QQ _ (by simp[hx]) (by simp[hx]) ⟨m1,m2,?_⟩,rfl⟩;simp only[hx];exact⟨hnil,hs⟩
theorem X5(h:WI M n l D x ms Bc P4 P5 hpm T hps Hs F)(hi:i<nm M)(hx:(ms i).next= .Ym):Lj M (n+1) ((ms i).step M l dr).2 D x (J3 ms i ((ms i).step M l dr).1)∧((ms i).step M l dr).1.Ae=BH:=by
 have hm:=h.nG i hi;obtain⟨m1,m2,m3⟩:=hm;rw[hx] at m3;obtain⟨m3,m4,m5⟩:=m3;have tH:Ko (ms i)=false:=GU (by rw[hx];simp);have hc0:Je (ms i)=[]:=O5 (by rw[hx];simp);have tR:(ms i).BN∈T:=h.Lz hi (by rw[m5];simp);have hcy:=h.ui.NM (.inl (List.ne_nil_of_mem tR));unfold Mo.Mk.step;rw[hx];simp only;split
 ·refine⟨⟨Bc,P4,P5,hpm,T.erase (ms i).BN,hps,_,F,h.qu hi .Gn .Gn (H':=Gf M l (ms i).FY) ⟨m1,m2,[],[],⟨m1,m3,rfl,rfl⟩,by rw[List.append_nil];exact m4,by rw[List.append_nil]⟩ (fun t=>?_) (fun v=>by rw[hc0,O5 (by simp)];exact Nat.le_refl _) (fun g=>by cases g) ?_⟩,rfl⟩
  ·rw[m5,List.count_append,List.count_erase,List.count_singleton];have:=List.count_pos_iff.2 tR;by_cases e:(ms i).BN=t
   ·subst e;simp;omega
   have e': ¬((ms i).BN==t)=true:=by simpa using e
   rw[if_neg e'];omega
  have hw:Jk (ms i)=0:=if_neg (by rw[hx];simp);have hlen:(T.erase (ms i).BN).length+1=T.length:=by
   rw[List.length_erase_of_mem tR];have:=List.length_pos_of_mem tR;omega
  refine h.ui.Qo (w:=(vw M l).w1) hi (fun v j _ hcv=>?_) (fun t ht=>h.ui.tv t (List.mem_of_mem_erase ht)) (fun _=> .inl (List.ne_nil_of_mem tR)) ?_ (by omega) (fun _=>⟨h.ui.tv _ tR,?_,?_⟩) (by rw[tH];exact GU (by simp)) (fun g=>absurd g (by rw[GU (by simp)];simp)) (fun g=>by cases g)
  ·have hT: ∀t∈T,t∈T.erase (ms i).BN∨ ∀j,lo t≤j→BD (nm M) (J3 ms i {(ms i) with Ae:=BH,AU:= .new (ms i).i (ms i).BN (ld l 0/8),next:= .Ee}) (T.erase (ms i).BN) (Mo.hi t) j:=fun t ht=>by
    by_cases e:t=(ms i).BN
    ·subst e;exact .inr fun j hj=>tC hi rfl rfl hj
    exact .inl ((List.mem_erase_of_ne e).2 ht)
   rcases VC hT hcv with g|⟨-,g,-⟩
   ·exact .inl g
   exact absurd (hx.symm.trans g) (by simp)
  ·rw[hw];show(vw M l).w1+T.length+0=(vw M l).w1+(T.erase (ms i).BN).length+(Jk _:Nat);have:Jk {(ms i) with Ae:=BH,AU:= .new (ms i).i (ms i).BN (ld l 0/8),next:= .Ee}=1:=rfl;rw[this];omega
  ·show ld l 0/8=x.AL;rw[hcy.1];exact hcy.2
  exact(KF _).1
 refine⟨h.still hi ⟨m1,m2,?_⟩ (by rw[hx];simp) (by simp[hx]) (by rw[hc0];exact O5 (by simp[hx])) (fun g=>by simp[hx] at g) (by rw[tH];exact GU (by simp[hx])) (fun g=>absurd g (by rw[GU (by simp[hx])];simp)) (fun g=>by simp[hx] at g),rfl⟩;simp only[hx];exact⟨m3,m4,m5⟩
end
open Go.Proofs.YtmpcfamcbaineaaGreat.Mo
section
variable{T:List Int}
theorem oh{h f:Int}(h0:0≤h)(h1:h≤1000)(hf:0≤f):JQ h f=min f h:=by unfold JQ bound;omega
theorem US{h f c:Int}(h0:0≤h)(h1:h≤1000)(hf:0≤f)(hc:1≤c)(hc':c≤16):NF h f c=min (min f h+c) h:=by
 unfold NF;rw[oh h0 h1 hf];unfold bound;omega
theorem UV{h:Int}(h0:0≤h)(h1:h≤1000):bound 0 h 1000=h:=by unfold bound;omega
def TJ(y:Mk)(s:Sc)(e:Ev):Mk:={y with AU:=s,Ae:=e}
theorem Z8(hx:(ms i).next= .Ee):Ko (TJ (ms i) s e)=Ko (ms i)∧Je (TJ (ms i) s e)=[]∧Je (ms i)=[]∧(TJ (ms i) s e).next≠ .EN:=by
 refine⟨?_,O5 (by simp[TJ,hx]),O5 (by simp[hx]),by simp[TJ,hx]⟩;rw[GU (by simp[TJ,hx]),GU (by simp[hx])]
theorem TK{n:pf}(hx:y.next= .Ee):(TJ y s e).next= .Ee:=hx
theorem WI.AU{H2:List Int}(h:WI M n l D x ms Bc P4 P5 hpm T hps Hs F)(hi:i<nm M)(hx:(ms i).next= .Ee)(hH:Hs i=Gf M l (ms i).FY)(hhp:hps i=MK (ms i).FY)
  (hl:l'=l∧w=(vw M l).w1∨l'=put l 1 w∧l.length=M.all.toNat) (hL:La M) (hsi:scI M l' i Bc s [] H2) (hct: ∀t,T'.count t=T.count t+H2.count t)
  (hcov: ∀v j,(gs M (vw M l) x (BD (nm M) ms T)).GK v→BD (nm M) ms T v j→BD (nm M) (J3 ms i (TJ (ms i) s e)) T' v j∨(vw M l).val v j=0∨(gs M (vw M l) x (BD (nm M) ms T)).GK ((vw M l).val v j))
  (ic: ∀t∈T',(gs M (vw M l) x (BD (nm M) ms T)).GK (Mo.hi t)) (hwk:w+T.length+Jk (ms i)=(vw M l).w1+T'.length+Jk (TJ (ms i) s e)) (hwb:w≤(vw M l).w1+1) (hsc:cE (gs M (vw M l) x (BD (nm M) ms T)) s):
  Lj M (n+1) l' D x (J3 ms i (TJ (ms i) s e)):=by
 obtain⟨a1,a2,a3,a4⟩:=Z8 (s:=s) (e:=e) hx;have hq:Qu M l l'∧Fq M l l'∧vw M l'={vw M l with w1:=w}∧ ∀v,MM M l' v=MM M l v:=by
  rcases hl with⟨rfl,rfl⟩|⟨rfl,hl⟩
  ·exact⟨.Gn,.Gn,rfl,fun _=>rfl⟩
  have:=LZ (l:=l) (v:=w) hL (q:= .FW 1) (by simp);exact⟨this.1,this.2,sC hL hl,fun v=>Iq hL (q:= .FW 1) (by simp)⟩
 obtain⟨m1,m2,m3⟩:=h.nG i hi;refine⟨Bc,P4,P5,hpm,T',hps,ZZ Hs i (Gf M l (ms i).FY++H2),F,h.qu hi hq.1 hq.2.1 ?_ (fun t=>by rw[hct,hH,List.count_append];omega) (fun v=>by rw[a2,a3,hq.2.2.2];exact Nat.le_refl _) (fun g=>absurd g a4) ?_⟩
 ·refine⟨m1,m2,?_⟩;simp only[TJ,hx];exact⟨[],H2,hsi,by rw[List.append_nil];exact hhp,by rw[hq.1.Gf]⟩
 rw[hq.2.2.1];have:=h.ui.Qo (w:=w) (y:=TJ (ms i) s e) (T':=T') hi hcov ic (fun _=> .inr hx) hwk hwb (fun _=>hsc) a1 (fun g=>by rw[GU a4] at g;simp at g) (fun g=>absurd g a4);exact this
theorem WI.Ee(h:WI M n l D x ms Bc P4 P5 hpm T hps Hs F)(hi:i<nm M)(hx:(ms i).next= .Ee)(ha:(ms i).AU.next≠ .L9):(ms i).AU.i=i∧bot M l i=Bc i∧hps i=MK (ms i).FY∧Hs i=Gf M l (ms i).FY:=by
 obtain⟨m1,m2,m3⟩:=h.nG i hi;rw[hx] at m3;obtain⟨hp2,H2,⟨b1,b2⟩,b3,b4⟩:=m3;refine⟨b1,?_⟩;cases hs:(ms i).AU.next<;>rw[hs] at b2<;>simp only at b2
 ·obtain⟨c1,rfl,rfl⟩:=b2;exact⟨c1,by rw[b3,List.append_nil],by rw[b4,List.append_nil]⟩
 ·obtain⟨c1,rfl,rfl⟩:=b2;exact⟨c1,by rw[b3,List.append_nil],by rw[b4,List.append_nil]⟩
 ·exact absurd hs ha
 ·obtain⟨c1,rfl,rfl⟩:=b2;exact⟨c1,by rw[b3,List.append_nil],by rw[b4,List.append_nil]⟩
 ·obtain⟨c1,rfl,rfl⟩:=b2;exact⟨c1,by rw[b3,List.append_nil],by rw[b4,List.append_nil]⟩
 obtain⟨c1,rfl,rfl⟩:=b2;exact⟨c1,by rw[b3,List.append_nil],by rw[b4,List.append_nil]⟩
theorem Ky(hx:y.next= .Ee)(h:y.AU.next≠ .BR):Jk y=1:=by
 unfold Jk;rw[if_pos hx,if_neg h]
theorem Nz(hi:i<nm M)(hx:(ms i).next= .Ee)(hv:s.v=(ms i).AU.v)(hT: ∀t∈T,t∈T'){P:Prop}(hc:BD (nm M) ms T v j)(hk:v=(ms i).AU.v→lW (ms i).AU j→(lW s j∨BD (nm M) (J3 ms i (TJ (ms i) s e)) T' v j)∨P):
  BD (nm M) (J3 ms i (TJ (ms i) s e)) T' v j∨P:=by
 rcases VC (i:=i) (y:=TJ (ms i) s e) (T':=T') (fun t ht=> .inl (hT t ht)) hc with g|⟨-,-,g1,g2⟩
 ·exact .inl g
 rcases hk g1.symm g2 with(k|k)|k
 ·exact .inl (tC hi hx (by show s.v=v;rw[hv,g1]) k)
 ·exact .inl k
 exact .inr k
theorem iZ(hL:La M)(h:WI M n l D x ms Bc P4 P5 hpm T hps Hs F)(hi:i<nm M)(hx:(ms i).next= .Ee)(hs:(ms i).AU.next= .head):
  ((ms i).AU.step M l).1.next≠ .nil∧Lj M (n+1) ((ms i).AU.step M l).2 D x (J3 ms i (TJ (ms i) ((ms i).AU.step M l).1 ((ms i).AU.step M l).1.Ae))∧((ms i).AU.step M l).1.Ae=BH:=by
 obtain⟨b1,b2,b3,b4⟩:=h.Ee hi hx (by rw[hs];simp);have hsc:=h.ui.sc i hi hx;obtain⟨c1,c2,c3⟩:=hsc;rw[hs] at c3;have hz:=h.ui.hz (ms i).AU.v c1.1.1.1 c1.1.1.2 c1.1.2;have hroom:=(hL.BM (ms i).AU.v c1.1.1.1 c1.1.1.2).2;have hch:=hL.ch;have eh:min (ld l (M.D7 (ms i).AU.v)) (M.CU (ms i).AU.v)=(vw M l).Lh (ms i).AU.v:=by
  show min ((vw M l).Lh (ms i).AU.v) _=_;have:=hz.2.1;omega
 have hf:0≤(ms i).AU.Df:=c3;have eb:=UV hz.1 (by have:=hz.2.1;omega);have ea:=oh (f:=(ms i).AU.Df) hz.1 (by have:=hz.2.1;omega) hf;have epb:=US (f:=(ms i).AU.Df) hz.1 (by have:=hz.2.1;omega) hf hch.1 hch.2;have hw1:Jk (ms i)=1:=Ky hx (by rw[hs];simp);obtain⟨hh,ehh⟩: ∃hh,(vw M l).Lh (ms i).AU.v=hh:=⟨_,rfl⟩;rw[ehh] at eh eb ea epb hz;by_cases hlt:min (min (ms i).AU.Df hh+M.EE) hh<hh
 ·obtain⟨S,e1,f1,f2,f3,f4,f5,f6,f7,f8⟩: ∃S,(ms i).AU.step M l=(S,l)∧S.next= .count∧S.v=(ms i).AU.v∧S.at_=min (ms i).AU.Df hh∧S.pb=min (min (ms i).AU.Df hh+M.EE) hh∧S.Df=(ms i).AU.Df∧S.i=(ms i).AU.i∧S.Ah=(ms i).AU.Ah∧S.Ae=BH:=by
   refine⟨{(ms i).AU with Ae:=BH,pa:=min (ms i).AU.Df hh,pb:=min (min (ms i).AU.Df hh+M.EE) hh,at_:=min (ms i).AU.Df hh,next:= .count},?_,rfl,rfl,rfl,rfl,rfl,rfl,rfl,rfl⟩;unfold Mo.Sc.step Mo.Sc.Au;simp only[hs];rw[eh,eb,ea,epb,if_pos hlt]
  rw[e1];refine⟨by rw[f1];simp,h.AU (w:=(vw M l).w1) (T':=T) (H2:=[]) (s:=S) hi hx b4 b3 (.inl ⟨rfl,rfl⟩) hL ⟨f6.trans b1,by rw[f1];exact⟨b2,rfl,rfl⟩⟩ (fun t=>by simp) (fun v j _ hcv=>Nz hi hx f2 (fun _ g=>g) hcv fun _ g=>?_) h.ui.tv (by rw[hw1,Ky (TK (n:= .head) hx) (by show S.next≠_;rw[f1];simp)]) (by omega) ⟨by rw[f2];exact c1,f7.trans c2,?_⟩,f8⟩
  ·refine .inl (.inl ?_);unfold lW at g⊢
   rw[hs] at g;rw[f1,f5];exact g
  rw[f1,f3,f4,f5];show 0≤min _ _∧min _ _≤(ms i).AU.Df∧0≤min _ _∧min _ _≤1000;have:=hz.1;have:=hz.2.1;omega
 have hpb:min (min (ms i).AU.Df hh+M.EE) hh=hh:=by omega
 obtain⟨S,e1,f1,f2,f3,f4,f6,f7,f8⟩: ∃S,(ms i).AU.step M l=(S,l)∧S.next=(if min (ms i).AU.Df hh<hh then .En else .DV)∧S.v=(ms i).AU.v∧S.at_=min (ms i).AU.Df hh∧S.pb=hh∧S.i=(ms i).AU.i∧S.Ah=(ms i).AU.Ah∧S.Ae=BH:=by
  refine⟨{(ms i).AU with Ae:=BH,pa:=min (ms i).AU.Df hh,pb:=hh,at_:=min (ms i).AU.Df hh,next:=if min (ms i).AU.Df hh<hh then .En else .DV},?_,rfl,rfl,rfl,rfl,rfl,rfl,rfl⟩;unfold Mo.Sc.step Mo.Sc.Au;simp only[hs];rw[eh,eb,ea,epb,if_neg hlt,hpb]
 have f1':S.next= .En∨S.next= .DV:=by rw[f1];split<;>simp
 rw[e1];refine⟨by rcases f1' with g|g<;>(show S.next≠_;rw[g];simp),h.AU (w:=(vw M l).w1) (T':=T) (H2:=[]) (s:=S) hi hx b4 b3 (.inl ⟨rfl,rfl⟩) hL ⟨f6.trans b1,by rcases f1' with g|g<;>rw[g]<;>exact⟨b2,rfl,rfl⟩⟩ (fun t=>by simp) (fun v j _ hcv=>Nz hi hx f2 (fun _ g=>g) hcv fun ev g=>?_) h.ui.tv (by rw[hw1,Ky (TK (n:= .head) hx) (by show S.next≠_;rcases f1' with g|g<;>rw[g]<;>simp)]) (by omega) ⟨by rw[f2];exact c1,f7.trans c2,by rcases f1' with g|g<;>rw[g]<;>trivial⟩,f8⟩;unfold lW at g;rw[hs] at g;have g:(ms i).AU.Df≤j:=g;by_cases hj:j<hh
 ·refine .inl (.inl ?_);unfold lW;rw[f1,if_pos (by omega),f3,f4];exact⟨by omega,hj⟩
 exact .inr (.inl (by rw[ev];exact hz.2.2 j (by omega)))
end
open Go.Proofs.YtmpcfamcbaineaaGreat.Mo
section
variable{T:List Int}
theorem UI.w1n{V:Vw}(h:UI M n V D x m ms T):0≤V.w1:=by have:=h.wk;omega
theorem UI.w1s{V:Vw}(h:UI M n V D x m ms T)(hi:i<m)(hx:(ms i).next= .Ee):1≤V.w1:=by
 have h1:=h.wk;have h2:=JM (f:=fun j=>Jk (ms j)) hi;have h3:1≤Jk (ms i):=by unfold Jk;rw[if_pos hx];omega
 omega
theorem Z9(h:1≤w∧w<1000000):Hm (w+qg)=w-1:=by unfold Hm qg;omega
theorem LA(h:0≤b∧b≤1000):Mo.hi (pair v b)=v∧lo (pair v b)=b:=⟨Yg (by omega),Vy (by omega)⟩
theorem Zd(hL:La M)(hn:n<900000)(h:WI M n l D x ms Bc P4 P5 hpm T hps Hs F)(hi:i<nm M)(hx:(ms i).next= .Ee)(hs:(ms i).AU.next= .count):
  ((ms i).AU.step M l).1.next≠ .nil∧Lj M (n+1) ((ms i).AU.step M l).2 D x (J3 ms i (TJ (ms i) ((ms i).AU.step M l).1 ((ms i).AU.step M l).1.Ae))∧((ms i).AU.step M l).1.Ae.kind=2:=by
 obtain⟨b1,b2,b3,b4⟩:=h.Ee hi hx (by rw[hs];simp);obtain⟨c1,c2,c3⟩:=h.ui.sc i hi hx;rw[hs] at c3;have c3:0≤(ms i).AU.at_∧(ms i).AU.at_≤(ms i).AU.Df∧0≤(ms i).AU.pb∧(ms i).AU.pb≤1000:=c3;have hw1:Jk (ms i)=1:=Ky hx (by rw[hs];simp);have hwn:=h.ui.w1n;have hwb:=h.ui.wb;obtain⟨hh,hl'⟩:=LA (v:=(ms i).AU.v) (b:=(ms i).AU.pb) ⟨c3.2.2.1,c3.2.2.2⟩;have e1:(ms i).AU.step M l=({(ms i).AU with Ae:=⟨2,0,(ms i).AU.v,(ms i).AU.pb,0⟩,add:= .new M i (pair (ms i).AU.v (ms i).AU.pb),next:= .L9},put l 1 ((vw M l).w1+1)):=by
  unfold Mo.Sc.step Mo.Sc.Au;simp only[hs];unfold Mo.Sc.iE XG;rw[show ld l 1=(vw M l).w1 from rfl,IA (by omega),b1]
 have eb:bot M (put l 1 ((vw M l).w1+1)) i=bot M l i:=by rw[←yK (M:=M)];exact DU hL (q:= .DJ i) (by simp)
 rw[e1];obtain⟨S,hS⟩: ∃S,S=({(ms i).AU with Ae:=⟨2,0,(ms i).AU.v,(ms i).AU.pb,0⟩,add:= .new M i (pair (ms i).AU.v (ms i).AU.pb),next:= .L9}:Sc):=⟨_,rfl⟩;have f1:S.next= .L9:=by rw[hS]
 have f2:S.v=(ms i).AU.v:=by rw[hS]
 have f3:S.add= .new M i (pair (ms i).AU.v (ms i).AU.pb):=by rw[hS]
 have f4:S.i=i:=by rw[hS];exact b1
 have f5:S.Ah=(ms i).AU.Ah:=by rw[hS]
 have f6:S.at_=(ms i).AU.at_∧S.pb=(ms i).AU.pb:=by rw[hS];exact⟨rfl,rfl⟩
 have f7:S.Ae.kind=2:=by rw[hS]
 rw[←hS];refine⟨by rw[f1];simp,h.AU (w:=(vw M l).w1+1) (T':=pair (ms i).AU.v (ms i).AU.pb::T) (H2:=[pair (ms i).AU.v (ms i).AU.pb]) (s:=S) hi hx b4 b3 (.inr ⟨rfl,h.len⟩) hL ⟨f4,?_⟩ (fun t=>?_) (fun v j _ hcv=>Nz hi hx f2 (fun _ g=>List.mem_cons_of_mem _ g) hcv fun ev g=>?_) (fun t ht=>?_) ?_ (Int.le_refl _) ⟨by rw[f2];exact c1,f5.trans c2,by rw[f1];trivial⟩,f7⟩
 ·rw[f1,f3];exact⟨⟨rfl,eb.trans b2,rfl⟩,rfl,rfl⟩
 ·rw[List.count_cons,List.count_cons,List.count_nil];omega
 ·unfold lW at g;rw[hs] at g;have g:(ms i).AU.Df≤j:=g;by_cases hj:j<(ms i).AU.pb
  ·refine .inl (.inl ?_);unfold lW;rw[f1,f6.1,f6.2];exact⟨by omega,hj⟩
  exact .inl (.inr (.inl ⟨_,List.mem_cons_self ..,by rw[hh,ev],by rw[hl'];omega⟩))
 ·rcases List.mem_cons.1 ht with rfl|ht
  ·rw[hh];exact c1
  exact h.ui.tv t ht
 rw[hw1,Ky (TK (n:= .head) hx) (by show S.next≠_;rw[f1];simp)];simp only[List.length_cons];omega
theorem O1.wide{hp b B:List Int}(hO:O1 M n l l' i Bc EY P4 P5 hp QL SX hp' H H'):O1 M n l l' i Bc EY P4 P5 (b++hp) QL SX (b++hp') (B++H) (B++H'):=by
 refine⟨hO.z.LK fun q hq=>List.mem_append_right _ hq,hO.dq,hO.F8,List.perm_iff_count.2 fun t=>?_,fun t=>?_⟩
 ·have:=hO.pm.count_eq t;simp only[List.count_append] at this⊢
  omega
 have:=hO.ct t;simp only[List.count_append] at this⊢
 omega
theorem E1.sub{hp b:List Int}(hE:E1 M n l Bc P4 P5 (b++hp)):E1 M n l Bc P4 P5 hp:=by
 refine⟨hE.len,hE.dq,hE.F8,List.nodup_iff_count.2 fun t=>?_,fun p hp'=>hE.rg p ?_⟩
 ·have:=List.nodup_iff_count.1 hE.nd t;simp only[List.count_append] at this⊢
  omega
 rcases List.mem_append.1 hp' with g|g
 ·exact List.mem_append_left _ g
 exact List.mem_append_right _ (List.mem_append_right _ g)
theorem jA(hL:La M)(hn:n<900000)(h:WI M n l D x ms Bc P4 P5 hpm T hps Hs F)(hi:i<nm M)(hx:(ms i).next= .Ee)(hs:(ms i).AU.next= .L9):
  ((ms i).AU.step M l).1.next≠ .nil∧Lj M (n+1) ((ms i).AU.step M l).2 D x (J3 ms i (TJ (ms i) ((ms i).AU.step M l).1 ((ms i).AU.step M l).1.Ae))∧((ms i).AU.step M l).1.Ae=BH:=by
 obtain⟨m1,m2,m3⟩:=h.nG i hi;rw[hx] at m3;obtain⟨hp2,H2,⟨b1,b2⟩,b3,b4⟩:=m3;rw[hs] at b2;have b2:AG M l i Bc (ms i).AU.add hp2 H2:=b2;obtain⟨c1,c2,c3⟩:=h.ui.sc i hi hx;have hw1:Jk (ms i)=1:=Ky hx (by rw[hs];simp);have hE:=h.e1 hi;have hi0:(i:Int)<M.Ai:=by unfold nm at hi;omega
 rw[b3] at hE;obtain⟨EY,QL,SX,hp',H',hO,k1,k2⟩:=cB hL hn (by omega) hi0 hE.sub b2;have hO':=hO.wide (b:=MK (ms i).FY) (B:=Gf M l (ms i).FY);rw[←b3,←b4] at hO';have AcA:Gf M ((ms i).AU.add.step M l).2 (ms i).FY=Gf M l (ms i).FY:=Ji hO.z.Tt fun q hq hm=>by
  have h1:=List.count_pos_iff.2 hq;have h2:=List.count_pos_iff.2 hm;have:=List.nodup_iff_count.1 hE.nd q;simp only[List.count_append] at this;omega
 have QQ: ∀S:Sc,S.i=i→S.v=(ms i).AU.v→S.at_=(ms i).AU.at_→S.pb=(ms i).AU.pb→S.Ah=(ms i).AU.Ah→(S.next= .L9∧S.add=((ms i).AU.add.step M l).1∧((ms i).AU.add.step M l).1.next≠ .nil∨S.next=(ms i).AU.A7∧((ms i).AU.add.step M l).1.next= .nil)→ ∀e,Lj M (n+1) ((ms i).AU.add.step M l).2 D x (J3 ms i (TJ (ms i) S e)):=fun S s1 s2 s3 s4 s5 s6 e=>by
  obtain⟨a1,a2,a3,a4⟩:=Z8 (s:=S) (e:=e) hx;have sn:S.next= .L9∨S.next= .En∨S.next= .DV∧ ¬S.at_<S.pb:=by
   rcases s6 with⟨g,-⟩|⟨g,-⟩
   ·exact .inl g
   rw[g];unfold Mo.Sc.A7;split
   ·exact .inr (.inl rfl)
   rename_i g2;exact .inr (.inr ⟨rfl,by rw[s3,s4];exact g2⟩)
  refine⟨EY,QL,SX,hpm,T,_,_,F,h.z1 hi hO' ?_ a3 a2 a4 ?_⟩
  ·refine⟨m1,m2,?_⟩;simp only[TJ,hx];refine⟨hp',H',⟨s1,?_⟩,rfl,by rw[AcA]⟩;rcases s6 with⟨g1,g2,g3⟩|⟨g1,g2⟩
   ·rw[g1,g2];rcases k2 with⟨-,k2⟩|⟨k2,-⟩
    ·exact k2
    exact absurd k2 g3
   rcases k2 with⟨k2,-⟩|⟨-,k3,k4,k5⟩
   ·exact absurd g2 k2
   have hsl:S.next= .En∨S.next= .DV:=by rw[g1];unfold Mo.Sc.A7;split<;>simp
   rcases hsl with e|e<;>rw[e]<;>exact⟨k5,k3,k4⟩
  refine h.ui.Qo (w:=(vw M l).w1) hi (fun v j _ hcv=>Nz hi hx s2 (fun _ g=>g) hcv fun ev g=>?_) h.ui.tv (fun _=> .inr hx) (by rw[hw1,Ky (TK (n:= .head) hx) (by show S.next≠_;rcases sn with g|g|⟨g,-⟩<;>rw[g]<;>simp)]) (by omega) (fun _=>⟨by show(gs _ _ _ _).GK S.v;rw[s2];exact c1,s5.trans c2,by show(match S.next with| .head=>_| .count=>_| .L9=>_| .En=>_| .DV=>_| .BR=>_| .nil=>_:Prop);rcases sn with g|g|⟨g,-⟩<;>rw[g]<;>trivial⟩) a1 (fun g=>by rw[GU a4] at g;simp at g) (fun g=>absurd g a4);unfold lW at g;rw[hs] at g;have g:(ms i).AU.at_≤j∧j<(ms i).AU.pb:=g;refine .inl (.inl ?_);unfold lW;rcases sn with k|k|⟨k,k'⟩
  ·rw[k,s3,s4];exact g
  ·rw[k,s3,s4];exact g
  rw[s3,s4] at k';omega
 by_cases hnil:((ms i).AU.add.step M l).1.next= .nil
 ·have e1:(ms i).AU.step M l=({(ms i).AU with Ae:=BH,add:=((ms i).AU.add.step M l).1,next:=(ms i).AU.A7},((ms i).AU.add.step M l).2):=by
   unfold Mo.Sc.step Mo.Sc.Au;simp only[hs];rw[if_pos hnil];rfl
  rw[e1];exact⟨by show(ms i).AU.A7≠_;unfold Mo.Sc.A7;split<;>simp,QQ {(ms i).AU with Ae:=BH,add:=((ms i).AU.add.step M l).1,next:=(ms i).AU.A7} b1 rfl rfl rfl rfl (.inr ⟨rfl,hnil⟩) _,rfl⟩
 have e1:(ms i).AU.step M l=({(ms i).AU with Ae:=BH,add:=((ms i).AU.add.step M l).1},((ms i).AU.add.step M l).2):=by
  unfold Mo.Sc.step Mo.Sc.Au;simp only[hs];rw[if_neg hnil]
 rw[e1];exact⟨by show(ms i).AU.next≠_;rw[hs];simp,QQ {(ms i).AU with Ae:=BH,add:=((ms i).AU.add.step M l).1} b1 rfl rfl rfl rfl (.inl ⟨hs,rfl,hnil⟩) _,rfl⟩
theorem jB(hL:La M)(h:WI M n l D x ms Bc P4 P5 hpm T hps Hs F)(hi:i<nm M)(hx:(ms i).next= .Ee)(hs:(ms i).AU.next= .En):
  ((ms i).AU.step M l).1.next≠ .nil∧Lj M (n+1) ((ms i).AU.step M l).2 D x (J3 ms i (TJ (ms i) ((ms i).AU.step M l).1 ((ms i).AU.step M l).1.Ae))∧((ms i).AU.step M l).1.Ae.kind=3:=by
 obtain⟨b1,b2,b3,b4⟩:=h.Ee hi hx (by rw[hs];simp);obtain⟨c1,c2,c3⟩:=h.ui.sc i hi hx;have hw1:Jk (ms i)=1:=Ky hx (by rw[hs];simp);have sL:=h.ui.co.vr (ms i).AU.v (ms i).AU.at_;have sL:0≤(vw M l).val (ms i).AU.v (ms i).AU.at_∧(vw M l).val (ms i).AU.v (ms i).AU.at_≤M.nodes:=sL;by_cases hu:1≤(vw M l).val (ms i).AU.v (ms i).AU.at_
 ·obtain⟨S,e1,f1,f2,f3,f4,f6,f7,f8,f9,f10⟩: ∃S,(ms i).AU.step M l=(S,l)∧S.next= .BR∧S.v=(ms i).AU.v∧S.at_=(ms i).AU.at_+1∧S.pb=(ms i).AU.pb∧S.i=(ms i).AU.i∧S.Ah=(ms i).AU.Ah∧S.Ae.kind=3∧S.w=(vw M l).val (ms i).AU.v (ms i).AU.at_∧S.AV= .new ((vw M l).val (ms i).AU.v (ms i).AU.at_) (ms i).AU.Ah:=by
   refine⟨{(ms i).AU with Ae:=⟨3,0,(ms i).AU.v,(ms i).AU.at_,0⟩,at_:=(ms i).AU.at_+1,w:=(vw M l).val (ms i).AU.v (ms i).AU.at_,AV:= .new ((vw M l).val (ms i).AU.v (ms i).AU.at_) (ms i).AU.Ah,next:= .BR},?_,rfl,rfl,rfl,rfl,rfl,rfl,rfl,rfl,rfl⟩;unfold Mo.Sc.step Mo.Sc.Au;simp only[hs];rw[if_pos ⟨hu,sL.2⟩];rfl
  rw[e1];have wk1:Jk (TJ (ms i) S S.Ae)=1:=by
   unfold Jk;rw[if_pos (TK (n:= .head) hx)];show 1+(if S.next= .BR then VB S.AV else 0)=1;rw[if_pos f1,f10];rfl
  refine⟨by rw[f1];simp,h.AU (w:=(vw M l).w1) (T':=T) (H2:=[]) (s:=S) hi hx b4 b3 (.inl ⟨rfl,rfl⟩) hL ⟨f6.trans b1,by rw[f1];exact⟨b2,rfl,rfl⟩⟩ (fun t=>by simp) (fun v j _ hcv=>Nz hi hx f2 (fun _ g=>g) hcv fun _ g=>?_) h.ui.tv (by rw[hw1,wk1]) (by omega) ⟨by rw[f2];exact c1,f7.trans c2,?_⟩,f8⟩
  ·refine .inl (.inl ?_);unfold lW at g⊢
   rw[hs] at g;rw[f1,f3,f4];have g:(ms i).AU.at_≤j∧j<(ms i).AU.pb:=g;exact⟨by omega,g.2⟩
  rw[f1,f9,f10,f2,f3];refine⟨⟨rfl,c2,rfl,trivial⟩,hu,.inl ?_⟩;rw[show(ms i).AU.at_+1-1=(ms i).AU.at_ by omega];rfl
 have h0:(vw M l).val (ms i).AU.v (ms i).AU.at_=0:=by omega
 obtain⟨S,e1,f1,f2,f3,f4,f6,f7,f8⟩: ∃S,(ms i).AU.step M l=(S,l)∧S.next=(if(ms i).AU.at_+1<(ms i).AU.pb then .En else .DV)∧S.v=(ms i).AU.v∧S.at_=(ms i).AU.at_+1∧S.pb=(ms i).AU.pb∧S.i=(ms i).AU.i∧S.Ah=(ms i).AU.Ah∧S.Ae.kind=3:=by
  refine⟨{(ms i).AU with Ae:=⟨3,0,(ms i).AU.v,(ms i).AU.at_,0⟩,at_:=(ms i).AU.at_+1,next:=if(ms i).AU.at_+1<(ms i).AU.pb then .En else .DV},?_,rfl,rfl,rfl,rfl,rfl,rfl,rfl⟩;unfold Mo.Sc.step Mo.Sc.Au;simp only[hs];rw[if_neg fun g=>hu g.1]
 have f1':S.next= .En∨S.next= .DV:=by rw[f1];split<;>simp
 rw[e1];refine⟨by rcases f1' with g|g<;>(show S.next≠_;rw[g];simp),h.AU (w:=(vw M l).w1) (T':=T) (H2:=[]) (s:=S) hi hx b4 b3 (.inl ⟨rfl,rfl⟩) hL ⟨f6.trans b1,by rcases f1' with g|g<;>rw[g]<;>exact⟨b2,rfl,rfl⟩⟩ (fun t=>by simp) (fun v j _ hcv=>Nz hi hx f2 (fun _ g=>g) hcv fun ev g=>?_) h.ui.tv (by rw[hw1,Ky (TK (n:= .head) hx) (by show S.next≠_;rcases f1' with g|g<;>rw[g]<;>simp)]) (by omega) ⟨by rw[f2];exact c1,f7.trans c2,by rcases f1' with g|g<;>rw[g]<;>trivial⟩,f8⟩;unfold lW at g;rw[hs] at g;have g:(ms i).AU.at_≤j∧j<(ms i).AU.pb:=g;by_cases hj:j=(ms i).AU.at_
 ·exact .inr (.inl (by rw[hj,ev];exact h0))
 refine .inl (.inl ?_);unfold lW;rw[f1,if_pos (by omega),f3,f4];exact⟨by omega,g.2⟩
end
open Go.Proofs.YtmpcfamcbaineaaGreat.Mo
section
variable{V V':Vw}{T:List Int}{g g':Gs}
structure Gm (g g':Gs):Prop where
 A:g'.A=g.A
 val: ∀v,g.R v→ ∀j,g'.val v j=g.val v j
 LF: ∀v,g.GK v→g'.GK v
 R: ∀v,g.R v→g'.R v
 mw: ∀v,g.R v→g'.mw v=g.mw v∨g'.GK v
theorem Gm.cl(h:Gm g g'){c:Cl}(hR:g.R w)(hc:Qd g c w):Qd g' c w:=by
 obtain⟨h1,h2,h3,h4⟩:=hc;refine⟨h1,by rw[h.A];exact h2,h3,?_⟩;cases hx:c.next<;>rw[hx] at h4<;>simp only[h.A] at h4⊢
 ·refine⟨h4.1,?_⟩;rcases h.mw w hR with e|e
  ·rcases h4.2 with k|k
   ·exact .inl (by rw[e];exact k)
   exact .inr (h.LF _ k)
  exact .inr e
 ·refine⟨h4.1,?_⟩;rcases h.mw w hR with e|e
  ·rcases h4.2 with k|k
   ·exact .inl (by rw[e];exact k)
   exact .inr (h.LF _ k)
  exact .inr e
 exact h.LF _ h4
theorem cJ(h:cE g s)(hs:s.next= .BR)(BS: ∀v,g.al v→1≤v):g.R s.w:=by
 obtain⟨h1,h2,h3⟩:=h;rw[hs] at h3;obtain⟨-,h4,h5⟩:=h3;have hv:g.R s.v:=h1.R (BS _ h1.1);rcases h5 with k|⟨k,-⟩
 ·have:=OM.step (j:=s.at_-1) hv (by rw[k];exact h4);rw[k] at this;exact this
 exact k.R h4
theorem Gm.sc(h:Gm g g')(BS: ∀v,g.al v→1≤v)(hs:cE g s):cE g' s:=by
 have hR:=fun e=>cJ hs e BS
 obtain⟨h1,h2,h3⟩:=hs;refine⟨h.LF _ h1,by rw[h.A];exact h2,?_⟩;cases hx:s.next<;>rw[hx] at h3<;>simp only at h3⊢
 ·exact h3
 ·exact h3
 obtain⟨a1,a2,a3⟩:=h3;have hv:g.R s.v:=h1.R (BS _ h1.1);refine⟨h.cl (hR hx) a1,a2,?_⟩;rw[h.val s.v hv];rcases a3 with k|⟨k1,k2⟩
 ·exact .inl k
 refine .inr ⟨h.LF _ k1,?_⟩;rcases k2 with k|k
 ·exact .inl k
 exact .inr (h.LF _ k)
theorem Gm.node(h:Gm g g'){u:Int}(hu:Gg g u):Gg g' u:=by
 rcases hu with k|k
 ·exact .inl k
 exact .inr (h.LF _ k)
theorem Gm.Bl(h:Gm g g')(hl:lX M g x v):lX M g' x v:=by
 obtain⟨h1,h2,h3⟩:=hl;refine⟨h1,h2,?_⟩;rcases h3 with⟨a,b,c,d⟩|⟨a,b⟩
 ·exact .inl ⟨a,b,h.cl d c,h.R _ d⟩
 exact .inr ⟨a,h.LF _ b⟩
theorem Gm.mu(h:Gm g g')(h1:V'.val=V.val)(h2:V'.Lh=V.Lh)(h3:V'.a1=V.a1)(h4:x.next= .EU→x.alloc.next= .state→V'.mw x.alloc.v=V.mw x.alloc.v)(hm:O4 M V g D x):O4 M V' g' D x:=by
 have ho:nD V x→nD V' x:=fun k=>by unfold nD at k⊢;rw[h2];exact k
 have hw:ZY V D x→ZY V' D x:=fun k=>by unfold ZY at k⊢;rw[h3];exact k
 unfold O4 at hm⊢
 cases hx:x.next with
 |ES=>rw[hx] at hm;exact hm
 |Kq=>rw[hx] at hm;exact hm
 |NU=>rw[hx] at hm;exact hm
 |fail e=>rw[hx] at hm;exact hm
 |EU=>
  rw[hx] at hm;refine⟨hm.1,?_⟩;obtain⟨a1,a2,a3,a4,a5⟩:=hm.2;refine⟨a1,a2,a3,a4,?_⟩;cases ha:x.alloc.next<;>rw[ha] at a5<;>simp only[h1,h2] at a5⊢
  ·exact a5
  ·exact a5
  ·exact a5
  ·exact a5
  ·exact a5
  ·exact a5
  ·exact a5
  exact⟨a5.1,a5.2.1,a5.2.2.1,a5.2.2.2.1,by rw[h4 hx ha];exact a5.2.2.2.2⟩
 |head=>rw[hx] at hm;exact hm
 |G5=>rw[hx] at hm;simp only[h2] at hm⊢;exact hm
 |old=>rw[hx] at hm;exact⟨hm.1,ho hm.2⟩
 |Es=>rw[hx] at hm;simp only[h1] at hm⊢;exact⟨hm.1,ho hm.2.1,h.node hm.2.2.1,h.node hm.2.2.2⟩
 |Jq w=>
  rw[hx] at hm;refine⟨hm.1,?_⟩;rcases hm.2 with k|⟨k1,k2,k3⟩
  ·exact .inl k
  exact .inr ⟨k1,hw k2,fun r hr=>h.node (k3 r hr)⟩
 |Dt t=>
  rw[hx] at hm;cases t with
  |BX=>exact hm
  |DZ=>exact⟨hw hm.1,hm.2.1,hm.2.2.1,fun i hi=>h.node (hm.2.2.2.1 i hi),h.Bl hm.2.2.2.2⟩
  |F5=>exact⟨hw hm.1,fun r hr=>h.node (hm.2.1 r hr),hm.2.2⟩
  |DN=>simp only[h1] at hm⊢;exact⟨ho hm.1,h.Bl hm.2⟩
  |FN=>simp only[h1] at hm⊢;exact⟨ho hm.1,h.node hm.2.1,h.Bl hm.2.2⟩
def tJ(V:Vw)(w A:Int):Vw:={V with mw:=fun a=>if a=w then A else V.mw a}
theorem VD{Vz:Int→Int→Prop}(hR:(gs M V x Vz).R w)(hal:(gs M V x Vz).al w):Gm (gs M V x Vz) (gs M (tJ V w x.AL) x XQ):=by
 have mk: ∀v,(gs M V x Vz).GK v→(gs M (tJ V w x.AL) x XQ).GK v:=fun v h=>⟨h.1,by
  show x.AL≤if v=w then x.AL else V.mw v
  split
  ·exact Int.le_refl _
  exact h.2⟩
 refine⟨rfl,fun _ _ _=>rfl,mk,fun v hv=>OM.mono hv fun v k h1=>?_,fun v _=>?_⟩
 ·rcases k with k|k
  ·exact .DX (.inl k) h1
  exact .DX (.inr (mk v k)) h1
 by_cases e:v=w
 ·subst e;exact .inr ⟨hal,by show x.AL≤if v=v then x.AL else V.mw v;rw[if_pos rfl];exact Int.le_refl _⟩
 exact .inl (if_neg e)
theorem aA{Vz:Int→Int→Prop}(h:IB M.nodes (gs M V x (BD m ms T)))(hR:(gs M V x (BD m ms T)).R w)(hz: ∀v j,j<0→V.val v j=0)
  (hcov: ∀v j,(gs M (tJ V w x.AL) x Vz).GK v→BD m ms T v j∨v=w∧0≤j→Vz v j∨V.val v j=0∨(gs M (tJ V w x.AL) x Vz).GK (V.val v j)):IB M.nodes (gs M (tJ V w x.AL) x Vz):=by
 have h1:=h.AV (XQ:=fun v j=>BD m ms T v j∨v=w∧0≤j) hR (fun _ _ k=> .inl k) (fun j=>by
  by_cases hj:0≤j
  ·exact .inl (.inr ⟨rfl,hj⟩)
  exact .inr (hz w j (by omega)))
 exact h1.Lw hcov
theorem UI.Vc(h:UI M n V D x m ms T)(hR:(gs M V x (BD m ms T)).R w)(hk:V.mw w<x.AL):D.Be≤8∧1≤D.Be∧x.AL=D.Ah:=by
 have hq:=h.qm;have ha:=h.pi.a0;by_cases c:9≤D.Be∨D.Be=0∨x.AL<D.Ah
 ·have h2:x.AL≤V.mw w:=(hq c w hR).2;omega
 omega
theorem UI.AV(h:UI M n V D x m ms T)(hi:i<m)(hx:(ms i).next= .Ee)(hR:(gs M V x (BD m ms T)).R w)(hk:V.mw w<x.AL)(hz: ∀v j,j<0→V.val v j=0)(hy:y.next= .Ee)
  (hcov: ∀v j,(gs M (tJ V w x.AL) x (BD m (J3 ms i y) (pair w 0::T))).GK v→BD m ms T v j→BD m (J3 ms i y) (pair w 0::T) v j∨V.val v j=0∨(gs M (tJ V w x.AL) x (BD m (J3 ms i y) (pair w 0::T))).GK (V.val v j))
  (hwk:Jk (ms i)=Jk y+1) (hsc:cE (gs M (tJ V w x.AL) x (BD m (J3 ms i y) (pair w 0::T))) y.AU) (hal:x.next= .EU→LP x.alloc.next=true→V.st x.alloc.v≠1):
  UI M (n+1) (tJ V w x.AL) D x m (J3 ms i y) (pair w 0::T):=by
 have haw:(gs M V x (BD m ms T)).al w:=h.co.ra w hR;have hm:Gm (gs M V x (BD m ms T)) (gs M (tJ V w x.AL) x (BD m (J3 ms i y) (pair w 0::T))):=VD hR haw;have BS: ∀v,(gs M V x (BD m ms T)).al v→1≤v:=fun v hv=>hv.1.1
 have hnf:=h.Vc hR hk;have hh:Mo.hi (pair w 0)=w∧lo (pair w 0)=0:=LA (by omega);have mkw:(gs M (tJ V w x.AL) x (BD m (J3 ms i y) (pair w 0::T))).GK w:=⟨haw,by show x.AL≤if w=w then x.AL else V.mw w;rw[if_pos rfl];exact Int.le_refl _⟩;have hs0:Ko y=false:=GU (by rw[hy];simp);have hs1:Ko (ms i)=false:=GU (by rw[hx];simp);have si:=h.si.JL (y:=y) hi (by rw[hs0,hs1]) (fun g=>by rw[hs0] at g;simp at g);refine⟨aA h.co hR hz fun v j hv hc=>?_,h.hz,fun t ht=>?_,fun g=>h.ac (.inr ⟨i,hi,hx⟩),fun g=>?_,?_,by have:=h.wb;show V.w1≤n+1;omega,⟨h.de.LK.c0,h.de.dn,h.de.p0,h.de.tn,h.de.c1⟩,⟨h.pi.a0,h.pi.a1,h.pi.t0,h.pi.t6,h.pi.k0,h.pi.k2,h.pi.k3⟩,fun j hj g=>?_,⟨si.h2,si.k2,si.p3,si.z2,si.z3,si.ct,si.no,si.fu,si.ds⟩,fun j hj g=>?_,?_⟩
 ·rcases hc with hc|⟨rfl,hj⟩
  ·exact hcov v j hv hc
  exact .inl (.inl ⟨_,List.mem_cons_self ..,hh.1,by rw[hh.2];exact hj⟩)
 ·rcases List.mem_cons.1 ht with rfl|ht
  ·rw[hh.1];exact mkw
  exact hm.LF _ (h.tv t ht)
 ·omega
 ·have e:=yF (ms:=ms) (y:=y) hi;have:=h.wk;show V.w1=_;simp only[List.length_cons];omega
 ·by_cases e:j=i
  ·subst e;rw[EM];exact hsc
  rw[Gy e] at g⊢;exact hm.sc BS (h.sc j hj g)
 ·by_cases e:j=i
  ·subst e;rw[EM] at g;rw[hy] at g;cases g
  rw[Gy e] at g⊢
  obtain⟨a1,a2,a3,a4,a5,a6,a7,a8,a9⟩:=h.sw j hj g;refine⟨a1,a2,a3,a4,a5,a6,a7,fun k=>?_,a9⟩;have:=(a5 (by rw[k];rfl)).2.1;omega
 refine hm.mu (V:=V) (V':=tJ V w x.AL) rfl rfl rfl (fun k1 k2=>?_) h.mu;refine if_neg fun e=>?_
 exact hal k1 (by rw[k2];rfl) (e▸haw.2)
end
open Go.Proofs.YtmpcfamcbaineaaGreat.Mo
section
variable{T:List Int}
theorem WI.il(hL:La M)(v j:Int)(h:j<0):(vw M l).val v j=0:=l7 hL (by omega)
theorem WI.aB(h:WI M n l D x ms Bc P4 P5 hpm T hps Hs F)(h1:x.next= .EU)(h2:LP x.alloc.next=true):(vw M l).st x.alloc.v≠1:=fun e=>by
 have h3:=h.cn x.alloc.v;have h4:JA x=[x.alloc.v]:=if_pos ⟨h1,h2⟩;have h5:MM M l x.alloc.v=1:=if_pos e;rw[h4,h5,List.count_cons,List.count_nil] at h3;simp at h3
theorem AM(hx:(ms i).next= .Ee)(hs:s.next= .BR):Jk (TJ (ms i) s e)=1+VB s.AV:=by
 unfold Jk;rw[if_pos (TK (n:= .head) hx)];show 1+(if s.next= .BR then VB s.AV else 0)=_;rw[if_pos hs]
theorem oq(hL:La M)(hl:l.length=M.all.toNat)(hw:1≤w∧w≤M.nodes):QS l (M.Mark w):=gY hL hl (p:= .mark w) (JJ hL hw.1 hw.2 (by omega) (by omega))
theorem Wh(hL:La M)(hn:n<900000)(h:WI M n l D x ms Bc P4 P5 hpm T hps Hs F)(hi:i<nm M)(hx:(ms i).next= .Ee)(hs:(ms i).AU.next= .BR):
  ((ms i).AU.step M l).1.next≠ .nil∧Lj M (n+1) ((ms i).AU.step M l).2 D x (J3 ms i (TJ (ms i) ((ms i).AU.step M l).1 ((ms i).AU.step M l).1.Ae))∧(((ms i).AU.step M l).1.Ae.kind=0∨((ms i).AU.step M l).1.Ae.kind=1):=by
 obtain⟨b1,b2,b3,b4⟩:=h.Ee hi hx (by rw[hs];simp);have hsc:=h.ui.sc i hi hx;have hR:=cJ hsc hs (fun v hv=>hv.1.1);obtain⟨c1,c2,c3⟩:=hsc;rw[hs] at c3;obtain⟨⟨d1,d2,d3,d4⟩,d5,d6⟩:=c3;have haw:=h.ui.co.ra _ hR;have hwr:=haw.1;obtain⟨c,hc⟩: ∃c,c=(ms i).AU.AV:=⟨_,rfl⟩;obtain⟨w,hw⟩: ∃w,w=(ms i).AU.w:=⟨_,rfl⟩;rw[←hc] at d1 d2 d3 d4;rw[←hw] at d1 d4 d5 d6 hR haw hwr;have hwk:Jk (ms i)=1+VB c:=by
  unfold Jk;rw[if_pos hx,if_pos hs,hc]
 have hwn:=h.ui.w1n;have hwb:=h.ui.wb;have hws:=h.ui.w1s hi hx;have dA:c.Ah=x.AL:=d2;have drop: ∀(S:Sc) (e:Ev) (T':List Int),S.v=(ms i).AU.v→S.at_=(ms i).AU.at_→S.pb=(ms i).AU.pb→(S.next=(ms i).AU.A7∨S.next= .L9)→(∀t∈T,t∈T')→
   ∀v j,BD (nm M) ms T v j→BD (nm M) (J3 ms i (TJ (ms i) S e)) T' v j∨v=(ms i).AU.v∧j=(ms i).AU.at_-1:=fun S e T' s1 s2 s3 s4 hT v j hcv=>Nz hi hx s1 hT hcv fun ev g=>by
  unfold lW at g;rw[hs] at g;have g:(ms i).AU.at_-1≤j∧j<(ms i).AU.pb:=g;by_cases hj:j=(ms i).AU.at_-1
  ·exact .inr ⟨ev,hj⟩
  refine .inl (.inl ?_);unfold lW;rcases s4 with k|k
  ·have hsl:(ms i).AU.A7= .En:=if_pos (by omega);rw[k,hsl,s2,s3];exact⟨by omega,g.2⟩
  rw[k,s2,s3];exact⟨by omega,g.2⟩
 have go: ∀(c':Cl) (w1:Int) (l':Dk),(ms i).AU.step M l=({(ms i).AU with Ae:=BH,AV:=c'},l')→(l'=l∧w1=(vw M l).w1∨l'=put l 1 w1∧l.length=M.all.toNat)→w1+VB c=(vw M l).w1+VB c'→w1≤(vw M l).w1+1→Qd (gs M (vw M l) x (BD (nm M) ms T)) c' w→
   ((ms i).AU.step M l).1.next≠ .nil∧Lj M (n+1) ((ms i).AU.step M l).2 D x (J3 ms i (TJ (ms i) ((ms i).AU.step M l).1 ((ms i).AU.step M l).1.Ae))∧(((ms i).AU.step M l).1.Ae.kind=0∨((ms i).AU.step M l).1.Ae.kind=1):=fun c' w1 l' e1 hl' ow yM hcl=>by
  obtain⟨S,hS⟩: ∃S,S=({(ms i).AU with Ae:=BH,AV:=c'}:Sc):=⟨_,rfl⟩;have f1:S.next= .BR:=by rw[hS];exact hs
  have f2:S.v=(ms i).AU.v:=by rw[hS]
  have f3:S.at_=(ms i).AU.at_∧S.pb=(ms i).AU.pb∧S.i=(ms i).AU.i∧S.Ah=(ms i).AU.Ah∧S.w=(ms i).AU.w∧S.AV=c'∧S.Ae=BH:=by rw[hS];exact⟨rfl,rfl,rfl,rfl,rfl,rfl,rfl⟩
  obtain⟨f3,f4,f5,f6,f7,f8,f9⟩:=f3;have eb:bot M l' i=bot M l i:=by
   rcases hl' with⟨rfl,-⟩|⟨rfl,-⟩
   ·rfl
   rw[←yK (M:=M)];exact DU hL (q:= .DJ i) (by simp)
  rw[e1,←hS];refine⟨by rw[f1];simp,h.AU (w:=w1) (T':=T) (H2:=[]) (s:=S) hi hx b4 b3 hl' hL ⟨f5.trans b1,by rw[f1];exact⟨eb.trans b2,rfl,rfl⟩⟩ (fun t=>by simp) (fun v j _ hcv=>Nz hi hx f2 (fun _ g=>g) hcv fun _ g=>?_) h.ui.tv (by rw[hwk,AM hx f1,f8];omega) yM ⟨by rw[f2];exact c1,f6.trans c2,?_⟩,.inl (by rw[f9];rfl)⟩
  ·refine .inl (.inl ?_);unfold lW at g⊢
   rw[hs] at g;rw[f1,f3,f4];exact g
  rw[f1,f2,f3,f7,f8,←hw];exact⟨hcl,d5,d6⟩
 have lost: ∀(c':Cl) (w1:Int) (l':Dk),(ms i).AU.step M l=({(ms i).AU with Ae:=BH,AV:=c',next:=(ms i).AU.A7},l')→(l'=l∧w1=(vw M l).w1∨l'=put l 1 w1∧l.length=M.all.toNat)→w1+VB c=(vw M l).w1→w1≤(vw M l).w1+1→(gs M (vw M l) x (BD (nm M) ms T)).GK w→
   ((ms i).AU.step M l).1.next≠ .nil∧Lj M (n+1) ((ms i).AU.step M l).2 D x (J3 ms i (TJ (ms i) ((ms i).AU.step M l).1 ((ms i).AU.step M l).1.Ae))∧(((ms i).AU.step M l).1.Ae.kind=0∨((ms i).AU.step M l).1.Ae.kind=1):=fun c' w1 l' e1 hl' ow yM hmk=>by
  obtain⟨S,hS⟩: ∃S,S=({(ms i).AU with Ae:=BH,AV:=c',next:=(ms i).AU.A7}:Sc):=⟨_,rfl⟩;have f1:S.next=(ms i).AU.A7:=by rw[hS]
  have f1':S.next= .En∨S.next= .DV:=by rw[f1];unfold Mo.Sc.A7;split<;>simp
  have f2:S.v=(ms i).AU.v:=by rw[hS]
  have f3:S.at_=(ms i).AU.at_∧S.pb=(ms i).AU.pb∧S.i=(ms i).AU.i∧S.Ah=(ms i).AU.Ah∧S.Ae=BH:=by rw[hS];exact⟨rfl,rfl,rfl,rfl,rfl⟩
  obtain⟨f3,f4,f5,f6,f9⟩:=f3;have eb:bot M l' i=bot M l i:=by
   rcases hl' with⟨rfl,-⟩|⟨rfl,-⟩
   ·rfl
   rw[←yK (M:=M)];exact DU hL (q:= .DJ i) (by simp)
  rw[e1,←hS];refine⟨by rcases f1' with g|g<;>(show S.next≠_;rw[g];simp),h.AU (w:=w1) (T':=T) (H2:=[]) (s:=S) hi hx b4 b3 hl' hL ⟨f5.trans b1,by rcases f1' with g|g<;>rw[g]<;>exact⟨eb.trans b2,rfl,rfl⟩⟩ (fun t=>by simp) (fun v j _ hcv=>?_) h.ui.tv (by rw[hwk,Ky (TK (n:= .head) hx) (by show S.next≠_;rcases f1' with g|g<;>rw[g]<;>simp)];omega) yM ⟨by rw[f2];exact c1,f6.trans c2,by rcases f1' with g|g<;>rw[g]<;>trivial⟩,.inl (by rw[f9];rfl)⟩;rcases drop S S.Ae T f2 f3 f4 (.inl f1) (fun _ g=>g) v j hcv with k|⟨rfl,rfl⟩
  ·exact .inl k
  refine .inr ?_;rcases d6 with k|⟨-,k⟩
  ·exact .inr (by rw[show(vw M l).val (ms i).AU.v ((ms i).AU.at_-1)=w from k];exact hmk)
  exact k
 have step:(ms i).AU.step M l=(if(c.step M l).1.next= .nil then
   if(c.step M l).1.JO=true then({(ms i).AU with Ae:=⟨1,0,w,0,0⟩,AV:=(c.step M l).1,add:= .new M i (pair w 0),next:= .L9},(c.step M l).2)
   else({(ms i).AU with Ae:=BH,AV:=(c.step M l).1,next:=(ms i).AU.A7},(c.step M l).2)
  else({(ms i).AU with Ae:=BH,AV:=(c.step M l).1},(c.step M l).2)):=by
  unfold Mo.Sc.step Mo.Sc.Au;simp only[hs];unfold Mo.Sc.iE;rw[←hc,←hw,b1];rfl
 cases hcn:c.next<;>rw[hcn] at d4<;>simp only at d4
 ·by_cases hm:(vw M l).mw w≥c.Ah
  ·have ec:c.step M l=({c with k:=(vw M l).mw w,next:= .nil},l):=by
    unfold Mo.Cl.step;rw[hcn,d1];exact if_pos hm
   rw[ec] at step;simp only[if_pos,d3] at step;refine lost {c with k:=(vw M l).mw w,next:= .nil} (vw M l).w1 l ?_ (.inl ⟨rfl,rfl⟩) (by unfold VB;rw[hcn];simp) (by omega) ⟨haw,?_⟩
   ·rw[step];simp[d3]
   show x.AL≤(vw M l).mw w;rw[←dA];exact hm
  have ec:c.step M l=({c with k:=(vw M l).mw w,next:= .count},l):=by
   unfold Mo.Cl.step;rw[hcn,d1];exact if_neg hm
  rw[ec] at step;refine go {c with k:=(vw M l).mw w,next:= .count} (vw M l).w1 l ?_ (.inl ⟨rfl,rfl⟩) (by unfold VB;rw[hcn];simp) (by omega) ⟨d1,d2,d3,?_,.inl rfl⟩
  ·rw[step];simp
  show(vw M l).mw w<x.AL;omega
 ·have ec:c.step M l=({c with next:= .swap},put l 1 ((vw M l).w1+1)):=by
   unfold Mo.Cl.step;rw[hcn];show(_,XG l 1 1)=_;unfold XG;rw[show ld l 1=(vw M l).w1 from rfl,IA (by omega)]
  rw[ec] at step;refine go {c with next:= .swap} ((vw M l).w1+1) _ (by rw[step];simp) (.inr ⟨rfl,h.len⟩) (by unfold VB;rw[hcn];simp) (Int.le_refl _) ⟨d1,d2,d3,d4⟩
 ·have hin:=oq hL h.len hwr;by_cases hk:(vw M l).mw w=c.k
  ·have hcas:KX l (M.Mark w) c.k=true:=decide_eq_true ⟨hin,hk⟩;have ec:c.step M l=({c with JO:=true,next:= .nil},put l (M.Mark w) x.AL):=by
    unfold Mo.Cl.step;rw[hcn,d1,dA];simp only;rw[if_pos hcas,show KL l (M.Mark w) c.k x.AL=put l (M.Mark w) x.AL from if_pos hcas]
   rw[ec] at step;simp only[if_pos] at step;obtain⟨S,hS⟩: ∃S,S=({(ms i).AU with Ae:=⟨1,0,w,0,0⟩,AV:={c with JO:=true,next:= .nil},add:= .new M i (pair w 0),next:= .L9}:Sc):=⟨_,rfl⟩;rw[←hS] at step;have f1:S.next= .L9:=by rw[hS]
   have f2:S.v=(ms i).AU.v:=by rw[hS]
   have f3:S.at_=(ms i).AU.at_∧S.pb=(ms i).AU.pb∧S.i=(ms i).AU.i∧S.Ah=(ms i).AU.Ah∧S.Ae.kind=1∧S.add= .new M i (pair w 0):=by rw[hS];exact⟨rfl,rfl,rfl,rfl,rfl,rfl⟩
   obtain⟨f3,f4,f5,f6,f9,f10⟩:=f3;obtain⟨a1,a2,a3,a4⟩:=Z8 (s:=S) (e:=S.Ae) hx;obtain⟨hq,hf⟩:=LZ (l:=l) (v:=x.AL) hL (q:= .mark w) (by simp);have hvw:vw M (put l (M.Mark w) x.AL)=tJ (vw M l) w x.AL:=lZ hL h.len hwr;obtain⟨m1,m2,m3⟩:=h.nG i hi;rw[step];refine⟨by rw[f1];simp,⟨Bc,P4,P5,hpm,pair w 0::T,hps,ZZ Hs i (Gf M l (ms i).FY++[pair w 0]),F,h.qu hi hq hf ?_ (fun t=>?_) (fun v=>?_) (fun g=>absurd g a4) ?_⟩,.inr f9⟩
   ·refine⟨m1,m2,?_⟩;simp only[TJ,hx];refine⟨[],[pair w 0],⟨f5.trans b1,?_⟩,by rw[List.append_nil];exact b3,congrArg (· ++[pair w 0]) (hq.Gf _).symm⟩;rw[f1,f10];exact⟨⟨rfl,(hq.bot i).trans b2,rfl⟩,rfl,rfl⟩
   ·rw[b4,List.count_append,List.count_cons,List.count_cons,List.count_nil];omega
   ·rw[a2,a3,show MM M (put l (M.Mark w) x.AL) v=MM M l v from Iq hL (q:= .mark w) (by simp)];exact Nat.le_refl _
   rw[hvw];have hgm:=VD (M:=M) (V:=vw M l) (x:=x) (Vz:=BD (nm M) ms T) (XQ:=BD (nm M) (J3 ms i (TJ (ms i) S S.Ae)) (pair w 0::T)) hR haw;refine h.ui.AV hi hx hR (by rw[hk,←dA];exact d2▸d4.1) (WI.il hL) (TK (n:= .head) hx) (fun v j _ hcv=>?_) ?_ ⟨by show(gs _ _ _ _).GK S.v;rw[f2];exact hgm.LF _ c1,f6.trans c2,by show(match S.next with| .head=>_| .count=>_| .L9=>_| .En=>_| .DV=>_| .BR=>_| .nil=>_:Prop);rw[f1];trivial⟩ (h.aB)
   ·rcases drop S S.Ae (pair w 0::T) f2 f3 f4 (.inr f1) (fun _ g=>List.mem_cons_of_mem _ g) v j hcv with k|⟨rfl,rfl⟩
    ·exact .inl k
    refine .inr ?_;rcases d6 with k|⟨-,k⟩
    ·refine .inr ⟨by rw[show(vw M l).val (ms i).AU.v ((ms i).AU.at_-1)=w from k];exact haw,?_⟩;show x.AL≤if(vw M l).val (ms i).AU.v ((ms i).AU.at_-1)=w then x.AL else _
     rw[if_pos (show(vw M l).val (ms i).AU.v ((ms i).AU.at_-1)=w from k)];exact Int.le_refl _
    exact hgm.node k
   rw[hwk,Ky (TK (n:= .head) hx) (by show S.next≠_;rw[f1];simp)];unfold VB;rw[hcn];simp
  have hcas: ¬KX l (M.Mark w) c.k=true:=fun g=>hk (Qy g).2
  have ec:c.step M l=({c with JO:=false,next:= .Jr},l):=by
   unfold Mo.Cl.step;rw[hcn,d1];simp only;rw[if_neg hcas,show KL l (M.Mark w) c.k c.Ah=l from if_neg hcas]
  rw[ec] at step;refine go {c with JO:=false,next:= .Jr} (vw M l).w1 l (by rw[step];simp) (.inl ⟨rfl,rfl⟩) (by unfold VB;rw[hcn];simp) (by omega) ⟨d1,d2,rfl,?_⟩;rcases d4.2 with k|k
  ·exact absurd k hk
  exact k
 have ec:c.step M l=({c with next:= .nil},put l 1 ((vw M l).w1-1)):=by
  unfold Mo.Cl.step;rw[hcn];show(_,XG l 1 qg)=_;unfold XG;rw[show ld l 1=(vw M l).w1 from rfl,Z9 (by omega)]
 rw[ec] at step;exact lost {c with next:= .nil} ((vw M l).w1-1) _ (by rw[step];simp[d3]) (.inr ⟨rfl,h.len⟩) (by unfold VB;rw[hcn];simp) (by omega) d4
end
open Go.Proofs.YtmpcfamcbaineaaGreat.Mo
section
variable{T:List Int}
def Xa(e:Ev):Prop:=0≤e.kind∧e.kind≤7
theorem Zg(hL:La M)(hn:n<900000)(h:WI M n l D x ms Bc P4 P5 hpm T hps Hs F)(hi:i<nm M)(hx:(ms i).next= .Ee):Lj M (n+1) ((ms i).step M l dr).2 D x (J3 ms i ((ms i).step M l dr).1)∧Xa ((ms i).step M l dr).1.Ae:=by
 have go:(((ms i).AU.step M l).1.next≠ .nil∧Lj M (n+1) ((ms i).AU.step M l).2 D x (J3 ms i (TJ (ms i) ((ms i).AU.step M l).1 ((ms i).AU.step M l).1.Ae))∧Xa ((ms i).AU.step M l).1.Ae)→Lj M (n+1) ((ms i).step M l dr).2 D x (J3 ms i ((ms i).step M l dr).1)∧Xa ((ms i).step M l dr).1.Ae:=fun⟨g1,g2,g3⟩=>by
  have e1:(ms i).step M l dr=(TJ (ms i) ((ms i).AU.step M l).1 ((ms i).AU.step M l).1.Ae,((ms i).AU.step M l).2):=by
   unfold Mo.Mk.step;rw[hx];simp only;rw[if_neg g1];simp only[TJ,hx]
  rw[e1];exact⟨g2,g3⟩
 cases hs:(ms i).AU.next with
 |nil=>exact(((h.ui.sc i hi hx).2.2):_)|>fun k=>by rw[hs] at k;exact k.elim
 |head=>obtain⟨a,b,c⟩:=iZ hL h hi hx hs;exact go ⟨a,b,by rw[c];exact⟨Int.le_refl _,by decide⟩⟩
 |count=>obtain⟨a,b,c⟩:=Zd hL hn h hi hx hs;exact go ⟨a,b,by unfold Xa;omega⟩
 |L9=>obtain⟨a,b,c⟩:=jA hL hn h hi hx hs;exact go ⟨a,b,by rw[c];exact⟨Int.le_refl _,by decide⟩⟩
 |En=>obtain⟨a,b,c⟩:=jB hL h hi hx hs;exact go ⟨a,b,by unfold Xa;omega⟩
 |BR=>obtain⟨a,b,c⟩:=Wh hL hn h hi hx hs;exact go ⟨a,b,by unfold Xa;omega⟩
 |DV=>
  obtain⟨b1,b2,b3,b4⟩:=h.Ee hi hx (by rw[hs];simp);have hw1:Jk (ms i)=1:=Ky hx (by rw[hs];simp);have hwn:=h.ui.w1s hi hx;have hwb:=h.ui.wb;obtain⟨S,e1,f1⟩: ∃S,(ms i).step M l dr=({(ms i) with AU:=S,Ae:=⟨4,0,(ms i).AU.v,(ms i).AU.Df,0⟩,BN:=0,has:=false,next:= .DZ},put l 1 ((vw M l).w1-1))∧S=S:=by
   refine⟨{(ms i).AU with Ae:=⟨4,0,(ms i).AU.v,(ms i).AU.Df,0⟩,next:= .nil},?_,rfl⟩;unfold Mo.Mk.step;rw[hx];simp only;unfold Mo.Sc.step Mo.Sc.Au;simp only[hs,if_pos];unfold XG;rw[show ld l 1=(vw M l).w1 from rfl,Z9 (by omega)]
  rw[e1];obtain⟨m1,m2,m3⟩:=h.nG i hi;obtain⟨hq,hf⟩:=LZ (l:=l) (v:=(vw M l).w1-1) hL (q:= .FW 1) (by simp);rw[yK] at hq hf;have hs0:Ko (ms i)=false:=GU (by rw[hx];simp);refine⟨⟨Bc,P4,P5,hpm,T,hps,ZZ Hs i (Gf M l (ms i).FY),F,h.qu hi hq hf ⟨m1,m2,(hq.bot i).trans b2,b3,(hq.Gf _).symm⟩ (fun t=>by rw[b4]) (fun v=>by rw[O5 (by simp),O5 (by rw[hx];simp),show MM M (put l 1 ((vw M l).w1-1)) v=MM M l v from Iq hL (q:= .FW 1) (by simp)];exact Nat.le_refl _) (fun g=>by cases g) ?_⟩,⟨by show(0:Int)≤4;decide,by show(4:Int)≤7;decide⟩⟩;rw[sC hL h.len];refine h.ui.Qo (w:=(vw M l).w1-1) (T':=T) hi (fun v j _ hcv=>?_) h.ui.tv (fun g=> .inr hx) ?_ (by omega) (fun g=>by cases g) (by rw[hs0];exact GU (by simp)) (fun g=>absurd g (by rw[GU (by simp)];simp)) (fun g=>by cases g)
  ·rcases VC (i:=i) (y:={(ms i) with AU:=S,Ae:=⟨4,0,(ms i).AU.v,(ms i).AU.Df,0⟩,BN:=0,has:=false,next:= .DZ}) (T':=T) (fun t ht=> .inl ht) hcv with g|⟨-,-,-,g⟩
   ·exact .inl g
   unfold lW at g;rw[hs] at g;exact g.elim
  rw[hw1];have:Jk {(ms i) with AU:=S,Ae:=⟨4,0,(ms i).AU.v,(ms i).AU.Df,0⟩,BN:=0,has:=false,next:= .DZ}=0:=if_neg (by simp);rw[this];omega
end
open Go.Proofs.YtmpcfamcbaineaaGreat.Mo
section
variable{V V':Vw}{T:List Int}{g g':Gs}
theorem RG(hs:1≤M.AO)(hp:0≤p∧p<M.parts)(h1:M.KN p≤v)(h2:v≤M.Ll p):p*M.AO<v∧v≤(p+1)*M.AO∧1≤v∧v≤M.nodes:=by
 unfold Bz.KN at h1;unfold Bz.Ll at h2;rw[if_neg (by omega)] at h1 h2;have:=Int.mul_nonneg hp.1 (show 0≤M.AO by omega);omega
theorem LI{q:Int}(hs:1≤M.AO)(hp:0≤p∧p<M.parts)(hq:0≤q∧q<M.parts)(h1:M.KN p≤v)(h2:v≤M.Ll p)(h3:M.KN q≤v)(h4:v≤M.Ll q):p=q:=by
 have a:=RG hs hp h1 h2;have b:=RG hs hq h3 h4;rcases(show p<q∨p=q∨q<p by omega) with k|k|k
 ·have:=Int.mul_le_mul_of_nonneg_right (show p+1≤q by omega) (show 0≤M.AO by omega);omega
 ·exact k
 have:=Int.mul_le_mul_of_nonneg_right (show q+1≤p by omega) (show 0≤M.AO by omega);omega
theorem cK(h:y.next≠ .Ee):Jk y=0:=if_neg h
theorem UI.AO{w2 w3:Int}{st:Int→Int}(h:UI M n V D x m ms T)(hi:i<m)(h1:(ms i).next≠ .Ee)(h2:y.next≠ .Ee)
  (hco:IB M.nodes (gs M {V with w2:=w2,w3:=w3,st:=st} x (BD m ms T))) (hst: ∀v,st v=1→V.st v=1) (hmk: ∀v,(gs M V x (BD m ms T)).GK v→(gs M {V with w2:=w2,w3:=w3,st:=st} x (BD m ms T)).GK v)
  (hsi:SI M {V with w2:=w2,w3:=w3,st:=st} D m (J3 ms i y)) (hsw:y.next= .EN→yD M {V with w2:=w2,w3:=w3,st:=st} (gs M {V with w2:=w2,w3:=w3,st:=st} x (BD m ms T)) D y.AO)
  (hot: ∀j,j<m→j≠i→(ms j).next= .EN→yD M {V with w2:=w2,w3:=w3,st:=st} (gs M {V with w2:=w2,w3:=w3,st:=st} x (BD m ms T)) D (ms j).AO):
  UI M (n+1) {V with w2:=w2,w3:=w3,st:=st} D x m (J3 ms i y) T:=by
 have cv: ∀v j,BD m ms T v j→BD m (J3 ms i y) T v j:=fun v j hc=>by
  rcases VC (i:=i) (y:=y) (T':=T) (fun t ht=> .inl ht) hc with g|⟨-,g,-⟩
  ·exact g
  exact absurd g h1
 have dn: ∀v,(gs M {V with w2:=w2,w3:=w3,st:=st} x (BD m ms T)).GK v→(gs M V x (BD m ms T)).GK v:=fun v hv=>⟨⟨hv.1.1,hst v hv.1.2⟩,hv.2⟩
 have hR: ∀v,(gs M {V with w2:=w2,w3:=w3,st:=st} x (BD m ms T)).R v→(gs M V x (BD m ms T)).R v:=fun v hv=>OM.mono hv fun v k h1=>by
  rcases k with k|k
  ·exact .DX (.inl k) h1
  exact .DX (.inr (dn v k)) h1
 have hR': ∀v,(gs M V x (BD m ms T)).R v→(gs M {V with w2:=w2,w3:=w3,st:=st} x (BD m ms T)).R v:=fun v hv=>OM.mono hv fun v k h1=>by
  rcases k with k|k
  ·exact .DX (.inl k) h1
  exact .DX (.inr (hmk v k)) h1
 have hm:Gm (gs M V x (BD m ms T)) (gs M {V with w2:=w2,w3:=w3,st:=st} x (BD m ms T)):=⟨rfl,fun _ _ _=>rfl,hmk,hR',fun _ _=> .inl rfl⟩;have BS: ∀v,(gs M V x (BD m ms T)).al v→1≤v:=fun v hv=>hv.1.1
 refine⟨hco.Lw fun v j _ k=> .inl (cv v j k),fun v a b c=>h.hz v a b (hst v c),fun t ht=>hmk _ (h.tv t ht),fun g=>h.ac ?_,fun g v hv=>hmk v (h.qm g v (hR v hv)),?_,by have:=h.wb;show V.w1≤n+1;omega,⟨h.de.LK.c0,h.de.dn,h.de.p0,h.de.tn,h.de.c1⟩,⟨h.pi.a0,h.pi.a1,h.pi.t0,h.pi.t6,h.pi.k0,h.pi.k2,h.pi.k3⟩,fun j hj g=>?_,hsi,fun j hj g=>?_,?_⟩
 ·rcases g with g|⟨j,hj,g⟩
  ·exact .inl g
  by_cases e:j=i
  ·subst e;rw[EM] at g;exact absurd g h2
  rw[Gy e] at g;exact .inr ⟨j,hj,g⟩
 ·have e:=yF (ms:=ms) (y:=y) hi;rw[cK h1,cK h2] at e;have:=h.wk;show V.w1=_;omega
 ·by_cases e:j=i
  ·subst e;rw[EM] at g;exact absurd g h2
  rw[Gy e] at g⊢;exact hm.sc BS (h.sc j hj g)
 ·by_cases e:j=i
  ·subst e;rw[EM] at g⊢;exact hsw g
  rw[Gy e] at g⊢;exact hot j hj e g
 exact hm.mu (V:=V) (V':={V with w2:=w2,w3:=w3,st:=st}) rfl rfl rfl (fun _ _=>rfl) h.mu
theorem UI.take(hpb:M.parts≤100000)(h:UI M n V D x m ms T)(hi:i<m)(hx:(ms i).next= .EN)(hs:(ms i).AO.next= .take)(hw:V.w2=(ms i).AO.w)(hy:y.next= .EN)(hon:ML y.AO.next=true)(hc:y.AO.Ah=(ms i).AO.Ah)
  (hp:y.AO.part=lo V.w2) (hl:y.AO.DV=M.Ll (lo V.w2)) (hv:y.AO.v=M.KN (lo V.w2)) (hn:y.AO.next=(if M.KN (lo V.w2)≤M.Ll (lo V.w2) then .state else .done)):
  UI M (n+1) {V with w2:=pair (Mo.hi V.w2) (lo V.w2+1)} D x m (J3 ms i y) T:=by
 have hS:=h.si;obtain⟨a1,a2,a3,a4,a5,a6,a7,a8,a9⟩:=h.sw i hi hx;obtain⟨b1,b2⟩:=a4 hs;rw[←hw] at b1 b2;have hlo:=KF V.w2;have hd:D.Be=12:=by
  rcases hS.fu b2 with k|k|k|k
  ·have:=hS.h2;rw[if_pos (by omega)] at this;have:=a3 (by omega);omega
  ·have:=hS.h2;rw[if_pos (by omega)] at this;have:=a3 (by omega);omega
  ·exact k
  omega
 have hcy:(ms i).AO.Ah=D.Ah:=by have:=hS.h2;rw[if_pos (by omega)] at this;omega
 have hlo1:lo (pair (Mo.hi V.w2) (lo V.w2+1))=lo V.w2+1:=Vy (by omega);have hhi1:Mo.hi (pair (Mo.hi V.w2) (lo V.w2+1))=Mo.hi V.w2:=Yg (by omega);have hsy:Ko y=true:=by unfold Ko;rw[decide_eq_true hy,hon];rfl
 have hsi:Ko (ms i)=false:=by unfold Ko;rw[hs];simp[ML]
 have hct:=hS.ct hd;have hup:=yG (ms:=ms) (y:=y) hi;rw[hsy,hsi] at hup;simp only[if_pos,Bool.false_eq_true,if_false] at hup;have sw': ∀j,j<m→j≠i→(ms j).next= .EN→yD M {V with w2:=pair (Mo.hi V.w2) (lo V.w2+1)} (gs M V x (BD m ms T)) D (ms j).AO:=fun j hj hne hg=>by
  obtain⟨c1,c2,c3,c4,c5,c6,c7,c8,c9⟩:=h.sw j hj hg;refine⟨c1,c2,c3,c4,fun k=>?_,c6,c7,c8,c9⟩;obtain⟨d1,d2,d3,d4,d5,d6⟩:=c5 k;exact⟨d1,d2,d3,by show(ms j).AO.part<lo (pair _ _);rw[hlo1];omega,d5,d6⟩
 refine h.AO (w2:=pair (Mo.hi V.w2) (lo V.w2+1)) (w3:=V.w3) (st:=V.st) hi (by rw[hx];simp) (by rw[hy];simp) h.co (fun _ k=>k) (fun _ k=>k) ⟨?_,?_,hS.p3,?_,?_,?_,?_,?_,?_⟩ (fun _=>?_) sw'
 ·show Mo.hi (pair _ _)=_;rw[hhi1];exact hS.h2
 ·show lo (pair _ _)≤_;rw[hlo1];omega
 ·intro k;omega
 ·intro k;omega
 ·intro _;show V.w3+_=lo (pair _ _);rw[hlo1];omega
 ·intro k;omega
 ·intro _;exact .inr (.inr (.inl hd))
 ·intro a b ha hb hne ga gb;have key: ∀j,j<m→j≠i→Ko (ms j)=true→(ms j).AO.part<lo V.w2:=fun j hj _ gj=>by
   unfold Ko at gj;rw[Bool.and_eq_true] at gj;exact((h.sw j hj (of_decide_eq_true gj.1)).2.2.2.2.1 gj.2).2.2.2.1
  by_cases ea:a=i
  ·subst ea;rw[EM,Gy (fun e=>hne e.symm)];rw[Gy (fun e=>hne e.symm)] at gb;have:=key b hb (fun e=>hne e.symm) gb;omega
  rw[Gy ea] at ga⊢
  by_cases eb:b=i
  ·subst eb;rw[EM];have:=key a ha ea ga;omega
  rw[Gy eb] at gb⊢
  exact hS.ds a b ha hb hne ga gb
 refine⟨by rw[hc];exact a1,by rw[hc];exact a2,fun _=> .inl hd,fun k=>?_,fun _=>⟨by rw[hc];exact hcy,hd,by omega,?_,by rw[hl,hp],by rw[hp,hv];exact Int.le_refl _⟩,fun k=>?_,fun k=>?_,fun k=>?_,fun k=>?_⟩
 ·rw[k] at hon;simp[ML] at hon
 ·show y.AO.part<lo (pair _ _);rw[hlo1];omega
 ·rw[hv,hl];rw[hn] at k;by_cases e:M.KN (lo V.w2)≤M.Ll (lo V.w2)
  ·exact e
  rw[if_neg e] at k;simp at k
 ·rw[hn] at k;split at k<;>simp at k
 ·rw[hn] at k;split at k<;>simp at k
 rw[k] at hon;simp[ML] at hon
end
open Go.Proofs.YtmpcfamcbaineaaGreat.Mo
section
variable{T:List Int}
theorem IB.congr{N:Int}{g g':Gs}(h:IB N g)(e1:g'.val=g.val)(e2: ∀v,g'.al v↔g.al v)(e3:g'.mw=g.mw)(e4:g'.Af=g.Af)(e5:g'.A=g.A)(e6:g'.Bh=g.Bh)(e7:g'.Vz=g.Vz):IB N g':=by
 have:g'=g:=by
  cases g;cases g';simp only at*
  subst e1 e3 e4 e5 e6 e7;congr 1;exact funext fun v=>propext (e2 v)
 rw[this];exact h
def l9(y:Mk)(s:Sw):Mk:={y with AO:=s,Ae:=s.Ae}
theorem XD{s:Sw}(hx:y.next= .EN):Ko (l9 y s)=ML s.next∧Ko y=ML y.AO.next:=by
 unfold Ko l9;simp only[hx];exact⟨by simp,by simp⟩
theorem LL{s:Sw}(hx:y.next= .EN):Je (l9 y s)=if s.next= .MW then[s.push.BO] else[]:=by
 unfold Je l9;simp only[hx,true_and]
theorem Wi(hL:La M)(hC:x9 M)(hS1:1≤M.AO)(hpb:M.parts≤100000)(hn:n<900000)(h:WI M n l D x ms Bc P4 P5 hpm T hps Hs F)(hi:i<nm M)(hx:(ms i).next= .EN):Lj M (n+1) ((ms i).step M l dr).2 D x (J3 ms i ((ms i).step M l dr).1)∧Xa ((ms i).step M l dr).1.Ae:=by
 obtain⟨m1,m2,m3⟩:=h.nG i hi;rw[hx] at m3;obtain⟨m3,m4,m5⟩:=m3;have hs:=h.ui.sw i hi hx;obtain⟨a1,a2,a3,a4,a5,a6,a7,a8,a9⟩:=hs;have yN:=h.ui.si
 have QQ: ∀s:Sw,s.next= .nil→ML (ms i).AO.next=false→s.Ae=BH→(ms i).AO.step M l=(s,l)→Lj M (n+1) ((ms i).step M l dr).2 D x (J3 ms i ((ms i).step M l dr).1)∧Xa ((ms i).step M l dr).1.Ae:=fun s s1 s2 s3 e1=>by
  have e2:(ms i).step M l dr=({(ms i) with AO:=s,Ae:=s.Ae,BN:=0,has:=false,next:= .DZ},l):=by
   unfold Mo.Mk.step;rw[hx];simp only[e1,if_pos s1]
  rw[e2];refine⟨h.still hi ⟨m1,m2,m3,m4,m5⟩ (by rw[hx];simp) (by simp) ?_ (fun g=>by cases g) (by rw[GU (by simp),(XD (s:=s) hx).2,s2]) (fun g=>absurd g (by rw[GU (by simp)];simp)) (fun g=>by cases g),by show Xa s.Ae;rw[s3];exact⟨Int.le_refl _,by show(0:Int)≤7;decide⟩⟩;rw[O5 (by simp)];unfold Je;rw[if_neg];rintro⟨-,g⟩;rw[g] at s2;simp[ML] at s2
 have io: ∀(s:Sw) (l':Dk),(ms i).AO.step M l=(s,l')→s.next≠ .nil→(ms i).step M l dr=(l9 (ms i) s,l'):=fun s l' e1 s1=>by
  unfold Mo.Mk.step;rw[hx];simp only[e1,if_neg s1];simp only[l9,hx]
 have go: ∀s:Sw,s.next≠ .nil→ML s.next=ML (ms i).AO.next→s.part=(ms i).AO.part→(s.next= .MW→False)→((ms i).AO.next= .MW→False)→Xa s.Ae→(ms i).AO.step M l=(s,l)→yD M (vw M l) (gs M (vw M l) x (BD (nm M) ms T)) D s→Lj M (n+1) ((ms i).step M l dr).2 D x (J3 ms i ((ms i).step M l dr).1)∧Xa ((ms i).step M l dr).1.Ae:=fun s s1 s2 s3 s4 s5 s6 e1 s7=>by
  rw[io s l e1 s1];obtain⟨w1,w2⟩:=XD (s:=s) hx;refine⟨h.still hi ?_ (by rw[hx];simp) (by simp[l9,hx]) ?_ (fun _ g=>(s4 g).elim) (by rw[w1,w2,s2]) (fun _=>s3) (fun _=>s7),s6⟩
  ·refine⟨m1,m2,?_⟩;simp only[l9,hx];exact⟨m3,m4,m5⟩
  rw[LL hx,if_neg (fun g=>s4 g)];unfold Je;rw[if_neg (fun g=>s5 g.2)]
 have K0:Xa BH:=⟨Int.le_refl _,by decide⟩;have AL:D.Be=12→x.AL=D.Ah:=fun hd=>h.ui.pi.a1 (by omega)
 have on:ML (ms i).AO.next=true→ ∀s:Sw,s.Ah=(ms i).AO.Ah→s.part=(ms i).AO.part→s.DV=(ms i).AO.DV→s.v=(ms i).AO.v+1→s.next=(if(ms i).AO.v+1≤(ms i).AO.DV then .state else .done)→yD M (vw M l) (gs M (vw M l) x (BD (nm M) ms T)) D s:=fun ho s s1 s2 s3 s4 s5=>by
  obtain⟨c1,c2,c3,c4,c5,c6⟩:=a5 ho;refine⟨by rw[s1];exact a1,by rw[s1];exact a2,fun _=> .inl c2,fun k=>?_,fun _=>⟨by rw[s1];exact c1,c2,by rw[s2];exact c3,by rw[s2];exact c4,by rw[s2,s3];exact c5,by rw[s2,s4];omega⟩,fun k=>?_,fun k=>?_,fun k=>?_,fun k=>?_⟩
  ·rw[s5] at k;split at k<;>simp at k
  ·rw[s3,s4];rw[s5] at k;by_cases e:(ms i).AO.v+1≤(ms i).AO.DV
   ·exact e
   rw[if_neg e] at k;simp at k
  ·rw[s5] at k;split at k<;>simp at k
  ·rw[s5] at k;split at k<;>simp at k
  rw[s5] at k;split at k<;>simp at k
 cases hn':(ms i).AO.next with
 |nil=>exact absurd hn' a9
 |DZ=>
  by_cases hc:Mo.hi (ld l 2)=NR (ms i).AO.Ah∧lo (ld l 2)<M.parts
  ·refine go {(ms i).AO with Ae:=BH,w:=ld l 2,next:= .take} (by simp) (by rw[hn'];rfl) rfl (by simp) (by rw[hn'];simp) K0 ?_ ⟨a1,a2,a3,fun _=>⟨?_,hc.2⟩,fun g=>by simp[ML] at g,fun g=>by simp at g,fun g=>by simp at g,fun g=>by simp at g,by simp⟩
   ·unfold Mo.Sw.step Mo.Sw.Au;simp only[hn'];rw[if_pos hc]
   have:=h.ui.de.c0;rw[hc.1];exact WX (by omega)
  refine QQ {(ms i).AO with Ae:=BH,w:=ld l 2,next:= .nil} rfl (by rw[hn'];rfl) rfl ?_;unfold Mo.Sw.step Mo.Sw.Au;simp only[hn'];rw[if_neg hc]
 |take=>
  obtain⟨b1,b2⟩:=a4 hn';have hin:=Tf hL h.len (a:=2) (by omega) (by omega);by_cases hc:ld l 2=(ms i).AO.w
  ·have hcas:KX l 2 (ms i).AO.w=true:=decide_eq_true ⟨hin,hc⟩;have hlo:=KF (ms i).AO.w;have e32:NR (lo (ms i).AO.w+1)=lo (ms i).AO.w+1:=WX (by omega);have hc':(vw M l).w2=(ms i).AO.w:=hc;obtain⟨S,hS,e1⟩: ∃S:Sw,S={(ms i).AO with Ae:=BH,part:=lo (ms i).AO.w,v:=M.KN (lo (ms i).AO.w),DV:=M.Ll (lo (ms i).AO.w),next:=if M.KN (lo (ms i).AO.w)≤M.Ll (lo (ms i).AO.w) then .state else .done}∧
     (ms i).AO.step M l=(S,put l 2 (pair (Mo.hi (vw M l).w2) (lo (vw M l).w2+1))):=by
    refine⟨_,rfl,?_⟩;unfold Mo.Sw.step Mo.Sw.Au;simp only[hn'];rw[if_pos hcas,show KL l 2 (ms i).AO.w (pair (Mo.hi (ms i).AO.w) (NR (lo (ms i).AO.w+1)))=put l 2 (pair (Mo.hi (ms i).AO.w) (NR (lo (ms i).AO.w+1))) from if_pos hcas,e32,hc']
   have f1:S.next= .state∨S.next= .done:=by rw[hS];simp only;split<;>simp
   have f2:S.next≠ .nil:=by rcases f1 with g|g<;>rw[g]<;>simp
   have f3:S.next≠ .MW:=by rcases f1 with g|g<;>rw[g]<;>simp
   rw[io S _ e1 f2];obtain⟨hq,hf⟩:=LZ (l:=l) (v:=pair (Mo.hi (vw M l).w2) (lo (vw M l).w2+1)) hL (q:= .FW 2) (by simp);rw[rI] at hq hf;refine⟨⟨Bc,P4,P5,hpm,T,hps,_,F,h.qu hi hq hf (H':=Hs i) ?_ (fun t=>rfl) (fun v=>?_) (fun _ g=>absurd g f3) ?_⟩,by rw[show(l9 (ms i) S).Ae=BH by simp only[l9,hS]];exact K0⟩
   ·refine⟨m1,m2,?_⟩;simp only[l9,hx];exact⟨(hq.bot i).trans m3,m4,m5.trans (hq.Gf _).symm⟩
   ·rw[LL hx,if_neg f3,show MM M (put l 2 (pair (Mo.hi (vw M l).w2) (lo (vw M l).w2+1))) v=MM M l v from Iq hL (q:= .FW 2) (by simp)];simp
   rw[ii hL h.len];refine h.ui.take (y:=l9 (ms i) S) hpb hi hx hn' hc' hx ?_ ?_ ?_ ?_ ?_ ?_
   ·show ML S.next=true;rcases f1 with g|g<;>rw[g]<;>rfl
   ·show S.Ah=_;rw[hS]
   ·show S.part=_;rw[hS,hc']
   ·show S.DV=_;rw[hS,hc']
   ·show S.v=_;rw[hS,hc']
   show S.next=_;rw[hS,hc']
  have hcas: ¬KX l 2 (ms i).AO.w=true:=fun g=>hc (Qy g).2
  refine QQ {(ms i).AO with Ae:=BH,next:= .nil} rfl (by rw[hn'];rfl) rfl ?_;unfold Mo.Sw.step Mo.Sw.Au;simp only[hn'];rw[if_neg hcas,show KL l 2 (ms i).AO.w (pair (Mo.hi (ms i).AO.w) (NR (lo (ms i).AO.w+1)))=l from if_neg hcas]
 |state=>
  have ho:ML (ms i).AO.next=true:=by rw[hn'];rfl
  obtain⟨c1,c2,c3,c4,c5,c6⟩:=a5 ho;have hv:=a6 (.inl hn');by_cases hc:ld l (M.DK (ms i).AO.v)=1
  ·have hr:=RG hS1 ⟨c3,by have:=yN.k2;omega⟩ c6 (c5▸hv);refine go {(ms i).AO with Ae:=BH,next:= .mark} (by simp) (by rw[hn'];rfl) rfl (by simp) (by rw[hn'];simp) K0 ?_ ⟨a1,a2,a3,fun g=>by simp at g,fun _=>⟨c1,c2,c3,c4,c5,c6⟩,fun _=>hv,fun _=>⟨⟨hr.2.2.1,hr.2.2.2⟩,hc⟩,fun g=>by simp at g,by simp⟩;unfold Mo.Sw.step Mo.Sw.Au;simp only[hn'];rw[if_pos hc]
  refine go {(ms i).AO with Ae:=BH,v:=(ms i).AO.v+1,next:=if(ms i).AO.v+1≤(ms i).AO.DV then .state else .done} (by simp only;split<;>simp) (by rw[ho];simp only;split<;>rfl) rfl (by simp only;split<;>simp) (by rw[hn'];simp) K0 ?_ (on ho _ rfl rfl rfl rfl rfl);unfold Mo.Sw.step Mo.Sw.Au;simp only[hn'];rw[if_neg hc];rfl
 |mark=>
  have ho:ML (ms i).AO.next=true:=by rw[hn'];rfl
  obtain⟨c1,c2,c3,c4,c5,c6⟩:=a5 ho;have hv:=a6 (.inr (.inl hn'));have hal:=a7 (.inl hn');by_cases hc:ld l (M.Mark (ms i).AO.v)<(ms i).AO.Ah
  ·refine go {(ms i).AO with Ae:=BH,next:= .free} (by simp) (by rw[hn'];rfl) rfl (by simp) (by rw[hn'];simp) K0 ?_ ⟨a1,a2,a3,fun g=>by simp at g,fun _=>⟨c1,c2,c3,c4,c5,c6⟩,fun _=>hv,fun _=>hal,fun _ g=>?_,by simp⟩
   ·unfold Mo.Sw.step Mo.Sw.Au;simp only[hn'];rw[if_pos hc]
   have g2:x.AL≤ld l (M.Mark (ms i).AO.v):=g.2;have:=AL c2;omega
  refine go {(ms i).AO with Ae:=BH,v:=(ms i).AO.v+1,next:=if(ms i).AO.v+1≤(ms i).AO.DV then .state else .done} (by simp only;split<;>simp) (by rw[ho];simp only;split<;>rfl) rfl (by simp only;split<;>simp) (by rw[hn'];simp) K0 ?_ (on ho _ rfl rfl rfl rfl rfl);unfold Mo.Sw.step Mo.Sw.Au;simp only[hn'];rw[if_neg hc];rfl
 |free=>
  have ho:ML (ms i).AO.next=true:=by rw[hn'];rfl
  obtain⟨c1,c2,c3,c4,c5,c6⟩:=a5 ho;have hv:=a6 (.inr (.inr (.inl hn')));have hal:=a7 (.inr hn');have hnm:=a8 hn';have hr:=RG hS1 ⟨c3,by have:=yN.k2;omega⟩ c6 (c5▸hv);have hnR: ¬(gs M (vw M l) x (BD (nm M) ms T)).R (ms i).AO.v:=fun g=>hnm (h.ui.qm (.inl (by omega)) _ g)
  obtain⟨S,hS,e1⟩: ∃S:Sw,S={(ms i).AO with Ae:=⟨5,0,(ms i).AO.v,0,0⟩,push:= .push (M.Eg (M.Ew (ms i).AO.v)) true (ms i).AO.v,next:= .MW}∧(ms i).AO.step M l=(S,put l (M.DK (ms i).AO.v) 0):=by
   refine⟨_,rfl,?_⟩;unfold Mo.Sw.step Mo.Sw.Au;simp only[hn']
  have f1:S.next= .MW:=by rw[hS]
  have f2:S.push= .push (M.Eg (M.Ew (ms i).AO.v)) true (ms i).AO.v:=by rw[hS]
  have f3:S.v=(ms i).AO.v:=by rw[hS]
  rw[io S _ e1 (by rw[f1];simp)];obtain⟨hq,hf⟩:=LZ (l:=l) (v:=0) hL (q:= .state (ms i).AO.v) (by simp);have hq:Qu M l (put l (M.DK (ms i).AO.v) 0):=hq;have hf:Fq M l (put l (M.DK (ms i).AO.v) 0):=hf;have hvw:=Z5 (v:=0) hL h.len (w:=(ms i).AO.v) ⟨hr.2.2.1,hr.2.2.2⟩;have So: ∀v,v≠(ms i).AO.v→MM M (put l (M.DK (ms i).AO.v) 0) v=MM M l v:=fun v hne=>Iq hL (q:= .state (ms i).AO.v) (by simp;exact fun e=>hne e.symm)
  have hst1:MM M (put l (M.DK (ms i).AO.v) 0) (ms i).AO.v=0:=by
   have:(vw M (put l (M.DK (ms i).AO.v) 0)).st (ms i).AO.v=0:=by rw[hvw];exact if_pos rfl
   unfold MM;rw[show ld (put l (M.DK (ms i).AO.v) 0) (M.DK (ms i).AO.v)=0 from this];rfl
  have hc0:Je (ms i)=[]:=by unfold Je;rw[if_neg];rintro⟨-,g⟩;rw[hn'] at g;cases g
  refine⟨⟨Bc,P4,P5,hpm,T,hps,_,F,h.qu hi hq hf (H':=Hs i) ?_ (fun t=>rfl) (fun v=>?_) (fun _ _=>?_) ?_⟩,?_⟩
  ·refine⟨m1,m2,?_⟩;simp only[l9,hx];exact⟨(hq.bot i).trans m3,m4,m5.trans (hq.Gf _).symm⟩
  ·rw[LL hx,if_pos f1,hc0,f2];simp only[Mo.St.push,List.count_nil,Nat.zero_add];by_cases e:v=(ms i).AO.v
   ·subst e;rw[hst1,List.count_cons,List.count_nil];have:MM M l (ms i).AO.v=1:=if_pos hal.2;rw[this];simp
   rw[So v e,List.count_cons,List.count_nil];have: ¬((ms i).AO.v==v)=true:=by simpa using fun g=>e g.symm
   rw[if_neg this];omega
  ·show AH M _ S.push∧S.push.BO=S.v;rw[f2,f3];exact⟨sA,rfl⟩
  ·rw[hvw];have hmk: ∀v,(gs M (vw M l) x (BD (nm M) ms T)).GK v→(gs M {vw M l with st:=fun a=>if a=(ms i).AO.v then 0 else(vw M l).st a} x (BD (nm M) ms T)).GK v:=fun v hv'=>by
    refine⟨⟨hv'.1.1,?_⟩,hv'.2⟩;show(if v=(ms i).AO.v then 0 else(vw M l).st v)=1;rw[if_neg (show¬v=(ms i).AO.v from fun e=>hnm (e▸hv'))];exact hv'.1.2
   have dn: ∀v,(gs M {vw M l with st:=fun a=>if a=(ms i).AO.v then 0 else(vw M l).st a} x (BD (nm M) ms T)).GK v→(gs M (vw M l) x (BD (nm M) ms T)).GK v:=fun v hv'=>by
    refine⟨⟨hv'.1.1,?_⟩,hv'.2⟩;have k:(if v=(ms i).AO.v then 0 else(vw M l).st v)=1:=hv'.1.2;split at k
    ·omega
    exact k
   have hsame:=yN.JL (y:=l9 (ms i) S) hi (by rw[(XD hx).1,(XD (s:=S) hx).2,f1,hn'];rfl) (fun _=>by show S.part=_;rw[hS]);refine h.ui.AO (w2:=(vw M l).w2) (w3:=(vw M l).w3) (st:=fun a=>if a=(ms i).AO.v then 0 else(vw M l).st a) hi (by rw[hx];simp) (by simp[l9,hx]) ?_ (fun v k=>?_) hmk ⟨hsame.h2,hsame.k2,hsame.p3,hsame.z2,hsame.z3,hsame.ct,hsame.no,hsame.fu,hsame.ds⟩ (fun _=>?_) (fun j hj hne hg=>?_)
   ·refine(h.ui.co.free hnR hr.2.2.1).congr rfl (fun v=>?_) rfl rfl rfl rfl rfl;show((1≤v∧v≤M.nodes)∧(if v=(ms i).AO.v then 0 else(vw M l).st v)=1)↔((1≤v∧v≤M.nodes)∧(vw M l).st v=1)∧v≠(ms i).AO.v;by_cases e:v=(ms i).AO.v
    ·rw[if_pos e];simp[e]
    rw[if_neg e];simp[e]
   ·have k:(if v=(ms i).AO.v then 0 else(vw M l).st v)=1:=k;split at k
    ·omega
    exact k
   ·show yD _ _ _ _ S;refine⟨by rw[hS];exact a1,by rw[hS];exact a2,(fun _=> .inl c2),(fun g=>by rw[f1] at g;cases g),(fun _=>by rw[hS];exact⟨c1,c2,c3,c4,c5,c6⟩),(fun _=>by rw[hS];exact hv),(fun g=>by rw[f1] at g;simp at g),(fun g=>by rw[f1] at g;cases g),by rw[f1];simp⟩
   obtain⟨d1,d2,d3,d4,d5,d6,d7,d8,d9⟩:=h.ui.sw j hj hg;refine⟨d1,d2,d3,d4,d5,d6,fun k=>?_,fun k g=>d8 k (dn _ g),d9⟩;have k1:=d7 k;refine⟨k1.1,?_⟩;show(if(ms j).AO.v=(ms i).AO.v then 0 else(vw M l).st (ms j).AO.v)=1;have hoj:ML (ms j).AO.next=true:=by rcases k with e|e<;>rw[e]<;>rfl
   have k2:=d5 hoj;have k3:=d6 (by rcases k with e|e;exact .inr (.inl e);exact .inr (.inr (.inl e)));rw[if_neg fun e=>?_]
   ·exact k1.2
   have ga:Ko (ms j)=true:=by unfold Ko;rw[decide_eq_true hg,hoj];rfl
   have gb:Ko (ms i)=true:=by unfold Ko;rw[decide_eq_true hx,ho];rfl
   exact yN.ds j i hj hi hne ga gb (LI hS1 ⟨k2.2.2.1,by have:=yN.k2;omega⟩ ⟨c3,by have:=yN.k2;omega⟩ k2.2.2.2.2.2 (k2.2.2.2.2.1▸k3) (e▸c6) (e▸c5▸hv))
  show Xa S.Ae;rw[hS];exact⟨by show(0:Int)≤5;decide,by show(5:Int)≤7;decide⟩
 |MW=>
  have ho:ML (ms i).AO.next=true:=by rw[hn'];rfl
  obtain⟨c1,c2,c3,c4,c5,c6⟩:=a5 ho;have hv:=a6 (.inr (.inr (.inr hn')));have hr:=RG hS1 ⟨c3,by have:=yN.k2;omega⟩ c6 (c5▸hv);obtain⟨k1,k2⟩:=h.cs i hi hx hn';have ME:Je (ms i)=[(ms i).AO.push.BO]:=if_pos ⟨hx,hn'⟩;have hni: ∀k:Nat,k<5→(ms i).AO.push.BO∉F k:=fun k hk hm=>by
   have b1:=h.cn (ms i).AO.push.BO;have b2:=JM (f:=fun j=>(Je (ms j)).count (ms i).AO.push.BO) hi;have b3:=JM (f:=fun k=>(F k).count (ms i).AO.push.BO) hk;have b4:=List.count_pos_iff.2 hm;rw[ME,List.count_cons,List.count_nil] at b2;simp at b2;omega
  obtain⟨r1,r2,r3⟩:=AI hL hC h.len k1 h.ce (by rw[k2];exact⟨hr.2.2.1,hr.2.2.2⟩) hn hni;rcases r3 with⟨g1,g2⟩|⟨g1,g2⟩
  ·have hnn: ¬((ms i).AO.push.step M l).1.next= .nil:=fun e=>by rcases g1.2.2.1 with g|g|g<;>rw[e] at g<;>cases g
   obtain⟨S,hS,e1⟩: ∃S:Sw,S={(ms i).AO with Ae:=BH,push:=((ms i).AO.push.step M l).1}∧(ms i).AO.step M l=(S,((ms i).AO.push.step M l).2):=by
    refine⟨_,rfl,?_⟩;unfold Mo.Sw.step Mo.Sw.Au;simp only[hn'];rw[if_neg hnn]
   have f1:S.next= .MW:=by rw[hS];exact hn'
   have f2:S.push=((ms i).AO.push.step M l).1:=by rw[hS]
   rw[io S _ e1 (by rw[f1];simp)];refine⟨⟨Bc,P4,P5,hpm,T,hps,Hs,F,h.cell hi r1 (fun v hv'=>by rw[ME];exact hv') ?_ g2 (fun v=>?_) h.cc (fun _ _=>?_) ?_⟩,by show Xa S.Ae;rw[hS];exact K0⟩
   ·refine⟨m1,m2,?_⟩;simp only[l9,hx];exact⟨((Td r1).bot i).trans m3,m4,m5.trans ((Td r1).Gf _).symm⟩
   ·rw[LL hx,if_pos f1,ME,f2,r2];exact Nat.le_refl _
   ·show AH M _ S.push∧S.push.BO=S.v;rw[f2,r2,k2,hS];exact⟨g1,rfl⟩
   refine h.ui.cZ hi (by rw[hx];simp) (by simp[l9,hx]) (by rw[(XD hx).1,(XD (s:=S) hx).2,f1,hn']) (fun _=>by show S.part=_;rw[hS]) (fun _=>?_);show yD _ _ _ _ S;refine⟨by rw[hS];exact a1,by rw[hS];exact a2,(fun _=> .inl c2),(fun g=>by rw[f1] at g;cases g),(fun _=>by rw[hS];exact⟨c1,c2,c3,c4,c5,c6⟩),(fun _=>by rw[hS];exact hv),(fun g=>by rw[f1] at g;simp at g),(fun g=>by rw[f1] at g;cases g),by rw[f1];simp⟩
  obtain⟨S,hS,e1⟩: ∃S:Sw,S={(ms i).AO with Ae:=BH,push:=((ms i).AO.push.step M l).1,v:=(ms i).AO.v+1,next:=if(ms i).AO.v+1≤(ms i).AO.DV then .state else .done}∧(ms i).AO.step M l=(S,((ms i).AO.push.step M l).2):=by
   refine⟨_,rfl,?_⟩;unfold Mo.Sw.step Mo.Sw.Au;simp only[hn'];rw[if_pos g1];rfl
  have f1:S.next= .state∨S.next= .done:=by rw[hS];simp only;split<;>simp
  have f2:S.next≠ .nil:=by rcases f1 with g|g<;>rw[g]<;>simp
  have f3:S.next≠ .MW:=by rcases f1 with g|g<;>rw[g]<;>simp
  have hcl:=hC (ms i).AO.push.BO (by rw[k2];exact hr.2.2.1) (by rw[k2];exact hr.2.2.2);obtain⟨k,hk⟩: ∃k:Nat,(k:Int)=M.Ew (ms i).AO.push.BO:=⟨(M.Ew (ms i).AO.push.BO).toNat,by omega⟩;rw[io S _ e1 f2];refine⟨⟨Bc,P4,P5,hpm,T,hps,Hs,_,h.cell hi r1 (fun v hv'=>by rw[ME];exact hv') ?_ g2 (fun v=>?_) (fun j hj v hv'=>?_) (fun _ g=>absurd g f3) ?_⟩,by show Xa S.Ae;rw[hS];exact K0⟩
  ·refine⟨m1,m2,?_⟩;simp only[l9,hx];exact⟨((Td r1).bot i).trans m3,m4,m5.trans ((Td r1).Gf _).symm⟩
  ·have:=Nw (m:=5) (k:=k) (f:=fun j=>((fun(k:Nat)=>if(k:Int)=M.Ew (ms i).AO.push.BO then(ms i).AO.push.BO::F k else F k) j).count v) (g:=fun j=>(F j).count v) (by omega) (fun j _ hne=>by simp only[if_neg (show¬(j:Int)=M.Ew (ms i).AO.push.BO by omega)]);simp only[if_pos hk,List.count_cons] at this;rw[LL hx,if_neg f3,ME,List.count_cons];simp only[List.count_nil] at this⊢
   omega
  ·have hv':v∈(if(j:Int)=M.Ew (ms i).AO.push.BO then(ms i).AO.push.BO::F j else F j):=hv';by_cases e:(j:Int)=M.Ew (ms i).AO.push.BO
   ·rw[if_pos e] at hv';rcases List.mem_cons.1 hv' with rfl|hv'
    ·exact⟨by rw[k2];exact⟨hr.2.2.1,hr.2.2.2⟩,e.symm⟩
    exact h.cc j hj v hv'
   rw[if_neg e] at hv';exact h.cc j hj v hv'
  refine h.ui.cZ hi (by rw[hx];simp) (by simp[l9,hx]) (by rw[(XD hx).1,(XD (s:=S) hx).2,ho];rcases f1 with g|g<;>rw[g]<;>rfl) (fun _=>by show S.part=_;rw[hS]) (fun _=>?_);exact on ho S (by rw[hS]) (by rw[hS]) (by rw[hS]) (by rw[hS]) (by rw[hS])
 |done=>
  have ho:ML (ms i).AO.next=true:=by rw[hn'];rfl
  obtain⟨c1,c2,c3,c4,c5,c6⟩:=a5 ho;have hgb:Ko (ms i)=true:=by unfold Ko;rw[decide_eq_true hx,ho];rfl
  have hct:=yN.ct c2;have hge:=JM (f:=fun j=>if Ko (ms j)=true then 1 else 0) hi;simp only[hgb,if_pos] at hge;have hp3:=yN.p3;have hk2:=yN.k2;have e3:Hm (ld l 3+1)=(vw M l).w3+1:=IA (by show 0≤(vw M l).w3+1∧(vw M l).w3+1<_;omega);obtain⟨S,hS,e1⟩: ∃S:Sw,S={(ms i).AO with Ae:=⟨6,0,(ms i).AO.part,0,0⟩,next:= .nil}∧(ms i).AO.step M l=(S,put l 3 ((vw M l).w3+1)):=by
   refine⟨_,rfl,?_⟩;unfold Mo.Sw.step Mo.Sw.Au;simp only[hn'];unfold XG;rw[e3]
  have e2:(ms i).step M l dr=({(ms i) with AO:=S,Ae:=S.Ae,BN:=0,has:=false,next:= .DZ},put l 3 ((vw M l).w3+1)):=by
   unfold Mo.Mk.step;rw[hx];simp only[e1];rw[if_pos (by rw[hS])]
  rw[e2];obtain⟨hq,hf⟩:=LZ (l:=l) (v:=(vw M l).w3+1) hL (q:= .FW 3) (by simp);rw[rK] at hq hf;have hc0:Je (ms i)=[]:=by unfold Je;rw[if_neg];rintro⟨-,g⟩;rw[hn'] at g;cases g
  obtain⟨Y,hY⟩: ∃Y:Mk,Y={(ms i) with AO:=S,Ae:=S.Ae,BN:=0,has:=false,next:= .DZ}:=⟨_,rfl⟩;have hy0:Ko Y=false:=GU (by rw[hY];simp);rw[←hY];have hyn:Y.next= .DZ:=by rw[hY]
  have hyb:Y.i=(ms i).i∧Y.FY=(ms i).FY∧Y.Ae=S.Ae:=by rw[hY];exact⟨rfl,rfl,rfl⟩
  have hup:(GY (nm M) fun j=>if Ko (J3 ms i Y j)=true then 1 else 0)+1=GY (nm M) fun j=>if Ko (ms j)=true then 1 else 0:=by
   have:=yG (ms:=ms) (y:=Y) hi;rw[hgb,hy0,if_pos rfl,if_neg (by simp)] at this;exact this
  refine⟨⟨Bc,P4,P5,hpm,T,hps,_,F,h.qu hi hq hf (H':=Hs i) ⟨hyb.1.trans m1,by rw[hyb.2.1];exact m2,by rw[hyn,hyb.2.1];exact⟨(hq.bot i).trans m3,m4,m5.trans (hq.Gf _).symm⟩⟩ (fun t=>rfl) (fun v=>?_) (fun g=>by rw[hyn] at g;cases g) ?_⟩,?_⟩
  ·rw[O5 (by rw[hyn];simp),hc0,show MM M (put l 3 ((vw M l).w3+1)) v=MM M l v from Iq hL (q:= .FW 3) (by simp)];exact Nat.le_refl _
  ·rw[ij hL h.len];refine h.ui.AO (w2:=(vw M l).w2) (w3:=(vw M l).w3+1) (st:=(vw M l).st) hi (by rw[hx];simp) (by rw[hyn];simp) h.ui.co (fun _ k=>k) (fun _ k=>k) ⟨yN.h2,yN.k2,by show 0≤(vw M l).w3+1;omega,yN.z2,fun g=>by omega,fun _=>?_,fun g=>absurd c2 g,yN.fu,fun a b ha hb hne ga gb=>?_⟩ (fun g=>by rw[hyn] at g;cases g) (fun j hj _ hg=>h.ui.sw j hj hg)
   ·show(vw M l).w3+1+((GY (nm M) fun j=>if Ko (J3 ms i Y j)=true then 1 else 0:Nat):Int)=lo (vw M l).w2;omega
   have na:a≠i:=fun e=>by subst e;rw[EM,hy0] at ga;cases ga
   have nb:b≠i:=fun e=>by subst e;rw[EM,hy0] at gb;cases gb
   rw[Gy na] at ga⊢
   rw[Gy nb] at gb⊢
   exact yN.ds a b ha hb hne ga gb
  show Xa Y.Ae;rw[hyb.2.2,hS];exact⟨by show(0:Int)≤6;decide,by show(6:Int)≤7;decide⟩
end
open Go.Proofs.YtmpcfamcbaineaaGreat.Mo
section
variable{D':De}{T:List Int}
theorem UI.Ik{V:Vw}{w0 w2 w3:Int}(h:UI M n V D x m ms T)(hac:D.Be≤8→1≤D.Be→x.AL=D.Ah→D'.Ah=D.Ah∧(1≤D'.Be∧D'.Be≤8∨T=[]∧ ∀j,j<m→(ms j).next≠ .Ee))
  (hqm:(9≤D'.Be∨D'.Be=0∨x.AL<D'.Ah)→ ∀v,(gs M V x (BD m ms T)).R v→(gs M V x (BD m ms T)).GK v)
  (hde:DI (n+1) {V with w0:=w0,w2:=w2,w3:=w3} D') (hpi:PI V D' x) (hsi:SI M {V with w0:=w0,w2:=w2,w3:=w3} D' m ms)
  (hsw: ∀j,j<m→(ms j).next= .EN→yD M {V with w0:=w0,w2:=w2,w3:=w3} (gs M V x (BD m ms T)) D' (ms j).AO) (hmu:O4 M V (gs M V x (BD m ms T)) D' x):UI M (n+1) {V with w0:=w0,w2:=w2,w3:=w3} D' x m ms T:=by
 refine⟨h.co,h.hz,h.tv,fun g=>?_,hqm,h.wk,by have:=h.wb;show V.w1≤n+1;omega,hde,⟨hpi.a0,hpi.a1,hpi.t0,hpi.t6,hpi.k0,hpi.k2,hpi.k3⟩,h.sc,hsi,hsw,hmu⟩;have k:=h.ac g;obtain⟨e,k2⟩:=hac k.2.2 k.2.1 k.1;refine⟨by rw[e];exact k.1,?_⟩;rcases k2 with k2|⟨k2,k3⟩
 ·exact k2
 rcases g with g|⟨j,hj,g⟩
 ·exact absurd k2 g
 exact absurd g (k3 j hj)
theorem WI.Ik(h:WI M n l D x ms Bc P4 P5 hpm T hps Hs F)(hq:Qu M l l')(hf:Fq M l l')(hst: ∀v,MM M l' v=MM M l v)(AJ:UI M (n+1) (vw M l') D' x (nm M) ms T):Lj M (n+1) l' D' x ms:=by
 have hq4: ∀{P4 P5 hp:List Int},E1 M n l Bc P4 P5 hp→E1 M (n+1) l' Bc P4 P5 hp:=fun hE=>hq.e1 hE
 have hE:=h.eM;have hE':=hq4 hE;refine⟨Bc,P4,P5,hpm,T,hps,Hs,F,hq.len.trans h.len,hE'.dq,hE'.F8,h.nd,h.rg,fun j hj=>sZ hq (h.nG j hj),yI hq h.mp,fun t=>?_,hf.cells h.ce,fun v=>by rw[hst];exact h.cn v,h.cc,fun j hj g1 g2=>⟨hf.cp (h.cs j hj g1 g2).1,(h.cs j hj g1 g2).2⟩,fun g=>hf.hp (h.cm g),h.cv,AJ⟩;rw[hq.cD hE,hq.cP];exact h.ct t
theorem tK{V:Vw}{g:Gs}(h:O4 M V g D x)(hw:ZY V D x→ZY V D' x)(hc:D.Ah≤D'.Ah)(he:x.Ah≤D.Ah→x.Ah=D'.Ah→x.Ah=D.Ah∧D'.Ah=D.Ah):O4 M V g D' x:=by
 unfold O4 at h⊢
 cases hx:x.next with
 |Jq w=>
  rw[hx] at h;refine⟨h.1,?_⟩;rcases h.2 with⟨a,b,c,d⟩|⟨a,b,c⟩
  ·refine .inl ⟨a,b,by omega,fun e=>?_⟩;obtain⟨e1,e2⟩:=he c e;rw[e2];exact d e1
  exact .inr ⟨a,hw b,c⟩
 |Dt t=>
  rw[hx] at h;cases t with
  |DZ=>exact⟨hw h.1,h.2⟩
  |F5=>exact⟨hw h.1,h.2⟩
  |_=>exact h
 |_=>rw[hx] at h;exact h
theorem AN{V V':Vw}{g:Gs}{s:Sw}(h:yD M V g D s)(h2:V'.w2=V.w2)(hc:D.Ah≤D'.Ah)(hd:s.Ah=D'.Ah→D'.Be=12∨D'.Be=13∨D'.Be=0)(ho:ML s.next=false):yD M V' g D' s:=by
 obtain⟨a1,a2,a3,a4,a5,a6,a7,a8,a9⟩:=h;exact⟨a1,by omega,hd,a4,(fun k=>by rw[ho] at k;cases k),a6,a7,a8,a9⟩
theorem SI.off{V:Vw}(h:SI M V D m ms)(hd:D.Be≠12){j:Nat}(hj:j<m)(hg:(ms j).next= .EN):ML (ms j).AO.next=false:=by
 have:=h.no hd j hj;unfold Ko at this;rw[decide_eq_true hg] at this;exact this
theorem ip(hL:La M)(Ai0:M.Ak=1)(hpb:0≤M.parts∧M.parts≤100000)(hn:n<900000)(h:WI M n l D x ms Bc P4 P5 hpm T hps Hs F):Lj M (n+1) (D.step M l dr).2 (D.step M l dr).1 x ms∧Xa (D.step M l dr).1.Ae:=by
 have hU:=h.ui;have hde:=hU.de;have hpi:=hU.pi;have hsi:=hU.si;have hc0:=hde.c0;have K0:Xa BH:=⟨Int.le_refl _,by show(0:Int)≤7;decide⟩
 have cZ: ∀e:Ev,Xa e→Lj M (n+1) l {D with Ae:=e} x ms∧Xa e:=fun e he=>by
  refine⟨h.Ik .Gn .Gn (fun _=>rfl) ?_,he⟩;refine hU.Ik (w0:=(vw M l).w0) (w2:=(vw M l).w2) (w3:=(vw M l).w3) (fun a b c=>⟨rfl,.inl ⟨b,a⟩⟩) hU.qm ⟨by show 0≤D.Ah∧D.Ah≤n+1;omega,hde.dn,hde.p0,hde.tn,hde.c1⟩ ⟨hpi.a0,hpi.a1,hpi.t0,hpi.t6,hpi.k0,hpi.k2,hpi.k3⟩ ⟨hsi.h2,hsi.k2,hsi.p3,hsi.z2,hsi.z3,hsi.ct,hsi.no,hsi.fu,hsi.ds⟩ hU.sw ?_;exact tK hU.mu (fun k=>k) (Int.le_refl _) (fun _ e=>⟨e,rfl⟩)
 have next: ∀(d:Nat) (t w0:Int) (e:Ev) (l':Dk),(l'=l∧w0=(vw M l).w0∨l'=put l 0 w0)→D.Be≠12→d≠12→d≤13→(D.Be=0∨10≤D.Be↔d=0∨10≤d)→1≤D.Be→(1≤d∧d≤8∨T=[]∧ ∀j,j<nm M→(ms j).next≠ .Ee)→((9≤d∨d=0∨x.AL<D.Ah)→ ∀v,(gs M (vw M l) x (BD (nm M) ms T)).R v→(gs M (vw M l) x (BD (nm M) ms T)).GK v)→
   w0=8*D.Ah+ph d→(d=1∨d=3∨d=5→t=0)→PI (vw M l) {D with Be:=d,Bg:=t} x→(D.Be=10∨D.Be=11∨d=10∨d=11→False)→(d=12∨d=13∨d=0→False)→(D.Be=12∨D.Be=13∨D.Be=0→False)→(ZY (vw M l) D x→d=5)→Xa e→Lj M (n+1) l' {D with Be:=d,Bg:=t,Ae:=e} x ms∧Xa e:=fun d t w0 e l' hl q1 q2 q3 q4 q5 q6 q7 q8 q9 q10 q11 q12 q13 q14 q15=>by
  refine⟨?_,q15⟩;have hq:Qu M l l'∧Fq M l l'∧(∀v,MM M l' v=MM M l v)∧vw M l'={vw M l with w0:=w0,w2:=(vw M l).w2,w3:=(vw M l).w3}:=by
   rcases hl with⟨rfl,rfl⟩|rfl
   ·exact⟨.Gn,.Gn,fun _=>rfl,rfl⟩
   have:=LZ (l:=l) (v:=w0) hL (q:= .FW 0) (by simp);rw[K5] at this;exact⟨this.1,this.2,fun v=>Iq hL (q:= .FW 0) (by simp),Uv hL h.len⟩
  refine h.Ik hq.1 hq.2.1 hq.2.2.1 ?_;rw[hq.2.2.2];refine hU.Ik (D':={D with Be:=d,Bg:=t,Ae:=e}) (w0:=w0) (w2:=(vw M l).w2) (w3:=(vw M l).w3) (fun a b c=>⟨rfl,q6⟩) q7 ⟨by show 0≤D.Ah∧D.Ah≤n+1;omega,q3,q8,q9,fun _=>hde.c1 q5⟩ ⟨q10.a0,q10.a1,q10.t0,q10.t6,q10.k0,q10.k2,q10.k3⟩ ⟨?_,hsi.k2,hsi.p3,fun g=>(q11 (by rcases g with g|g;exact .inr (.inr (.inl g));exact .inr (.inr (.inr g)))).elim,fun g=>(q11 (.inr (.inr (.inr g)))).elim,fun g=>absurd g q2,fun _=>hsi.no q1,fun g=>?_,hsi.ds⟩ (fun j hj g=>?_) ?_
  ·have:=hsi.h2;show Mo.hi (vw M l).w2=if d=0∨10≤d then D.Ah else D.Ah-1
   by_cases e:d=0∨10≤d
   ·rw[if_pos e];rw[if_pos (q4.2 e)] at this;exact this
   rw[if_neg e];rw[if_neg (fun k=>e (q4.1 k))] at this;exact this
  ·rcases hsi.fu g with k|k|k|k
   ·exact(q11 (.inl k)).elim
   ·exact(q11 (.inr (.inl k))).elim
   ·exact absurd k q1
   exact .inr (.inr (.inr k))
  ·refine AN (hU.sw j hj g) rfl (Int.le_refl _) (fun e=>?_) (hsi.off q1 hj g);exact(q13 ((hU.sw j hj g).2.2.1 e)).elim
  refine tK hU.mu (fun k=>⟨k.1,k.2.1,q14 k,k.2.2.2⟩) (Int.le_refl _) (fun _ e=>⟨e,rfl⟩)
 have K7: ∀a b:Int,Xa ⟨7,0,a,b,0⟩:=fun _ _=>⟨by show(0:Int)≤7;decide,by show(7:Int)≤7;decide⟩
 have pw: ∀p:Nat,p≤5→EZ D.Ah p=8*D.Ah+p:=fun p hp=>by unfold EZ;rw[IA (by omega)];omega
 have ir:EZ D.Ah 0=8*D.Ah∧EZ D.Ah 2=8*D.Ah+2∧EZ D.Ah 3=8*D.Ah+3∧EZ D.Ah 4=8*D.Ah+4∧EZ D.Ah 5=8*D.Ah+5:=by
  refine⟨?_,?_,?_,?_,?_⟩<;>(unfold EZ;rw[IA (by omega)];omega)
 have Bg:D.Be=1∨D.Be=3∨D.Be=5→D.Bg=0:=hde.tn;have O6:D.Be≠5→ ¬ZY (vw M l) D x:=fun a b=>a b.2.2.1
 have KD: ∀least:Int,D.Bg=0→ld l (M.O8 0)≥least→De.KD M {D with Ae:=BH} least l=({D with Ae:=BH,Bg:=1,Be:=D.Be+1},l):=fun least ht hge=>by
  unfold Mo.De.KD;simp only[ht];rw[if_neg (by omega),if_neg (by omega)];rfl
 have LN: ∀least:Int,D.Bg=0→ld l (M.O8 0)<least→De.KD M {D with Ae:=BH} least l=({D with Ae:=BH},l):=fun least ht hlt=>by
  unfold Mo.De.KD;simp only[ht];rw[if_pos hlt]
 have Ai3:=hde.dn;unfold Mo.De.step Mo.De.Au;have hcases:D.Be=0∨D.Be=1∨D.Be=2∨D.Be=3∨D.Be=4∨D.Be=5∨D.Be=6∨D.Be=7∨D.Be=8∨D.Be=9∨D.Be=10∨D.Be=11∨D.Be=12∨D.Be=13:=by omega
 rcases hcases with hd|hd|hd|hd|hd|hd|hd|hd|hd|hd|hd|hd|hd|hd
 ·simp only[hd];have hA:x.AL=D.Ah:=hpi.a1 (by omega);have hT:x.Bh=D.Ah:=hpi.t6 (.inl hd);split
  ·have:=cZ BH K0;rw[hd] at this;exact this
  have ec:Hm (D.Ah+1)=D.Ah+1:=IA (by omega);unfold Mo.De.Ti;simp only[ec];refine⟨?_,K7 _ _⟩;have e1:EZ (D.Ah+1) 1=8*(D.Ah+1)+1:=by unfold EZ;rw[IA (by omega)];omega
  obtain⟨hq,hf⟩:=LZ (l:=l) (v:=EZ (D.Ah+1) 1) hL (q:= .FW 0) (by simp);rw[K5] at hq hf;refine h.Ik hq hf (fun v=>Iq hL (q:= .FW 0) (by simp)) ?_;rw[Uv hL h.len];refine hU.Ik (w0:=EZ (D.Ah+1) 1) (w2:=(vw M l).w2) (w3:=(vw M l).w3) (fun a b c=>by omega) (fun _=>hU.qm (.inr (.inl hd))) ⟨by show 0≤D.Ah+1∧D.Ah+1≤n+1;omega,by show(0+1) % 14≤13;decide,by show EZ (D.Ah+1) 1=8*(D.Ah+1)+ph 1;rw[e1];rfl,fun _=>rfl,fun _=>by show 1≤D.Ah+1;omega⟩
   ⟨by show x.AL≤D.Ah+1∧D.Ah+1-1≤x.AL∧0≤x.AL;have:=hpi.a0;omega,fun k=>absurd rfl k,by show x.Bh≤x.AL∧D.Ah+1-1≤x.Bh∧0≤x.Bh;omega,fun k=>by simp at k,by have:=hpi.k0;show 0≤(vw M l).a1∧(vw M l).a1≤3*(D.Ah+1);omega,fun k=>by have k:3*(D.Ah+1)-2≤(vw M l).a1:=k;have:=hpi.k0;omega,fun k=>by have k:3*(D.Ah+1)≤(vw M l).a1:=k;have:=hpi.k0;omega⟩
   ⟨?_,hsi.k2,hsi.p3,fun k=>by simp at k,fun k=>by simp at k,fun k=>by simp at k,fun _=>hsi.no (by omega),fun g=>?_,hsi.ds⟩ (fun j hj g=>?_) ?_
  ·have:=hsi.h2;rw[if_pos (.inl hd)] at this;show Mo.hi (vw M l).w2=if(1=0∨10≤1) then D.Ah+1 else D.Ah+1-1
   rw[if_neg (by omega),this];omega
  ·rcases hsi.fu g with k|k|k|k
   ·omega
   ·omega
   ·omega
   exact .inr (.inr (.inr k))
  ·refine AN (hU.sw j hj g) rfl (by show D.Ah≤D.Ah+1;omega) (fun e=>?_) (hsi.off (by omega) hj g);have e:(ms j).AO.Ah=D.Ah+1:=e;have:=(hU.sw j hj g).2.1;omega
  refine tK hU.mu (fun k=>absurd k (O6 (by omega))) (by show D.Ah≤D.Ah+1;omega) (fun a e=>?_);have e:x.Ah=D.Ah+1:=e;omega
 ·simp only[hd];have ht:=Bg (.inl hd);have e1:Hm (3*D.Ah-2)=3*D.Ah-2:=IA (by have:=hde.c1 (by omega);omega);rw[e1];rcases(show ld l (M.O8 0)≥3*D.Ah-2∨ld l (M.O8 0)<3*D.Ah-2 by omega) with g|g
  ·have:=KD _ ht g;rw[hd] at this;rw[this];have hA:x.AL=D.Ah:=hpi.k2 g;exact next 2 1 (vw M l).w0 BH l (.inl ⟨rfl,rfl⟩) (by omega) (by omega) (by omega) (by omega) (by omega) (.inl (by omega)) (fun k=>by omega) (by have:=hde.p0;rw[hd] at this;exact this) (by omega) ⟨hpi.a0,fun _=>hA,hpi.t0,fun k=>by simp at k,hpi.k0,hpi.k2,hpi.k3⟩ (by omega) (by omega) (by omega) (fun k=>absurd k (O6 (by omega))) K0
  have:=LN _ ht g;rw[hd] at this;rw[this];have:=cZ BH K0;rw[hd] at this;exact this
 ·simp only[hd];have hA:x.AL=D.Ah:=hpi.a1 (by omega);unfold Mo.De.Ti;exact next 3 0 (EZ D.Ah 2) ⟨7,0,2,_,0⟩ (put l 0 (EZ D.Ah 2)) (.inr rfl) (by omega) (by omega) (by omega) (by omega) (by omega) (.inl (by omega)) (fun k=>by omega) (by rw[ir.2.1];rfl) (by omega) ⟨hpi.a0,fun _=>hA,hpi.t0,fun k=>by simp at k,hpi.k0,hpi.k2,hpi.k3⟩ (by omega) (by omega) (by omega) (fun k=>absurd k (O6 (by omega))) (K7 _ _)
 ·simp only[hd];have ht:=Bg (by omega);have hA:x.AL=D.Ah:=hpi.a1 (by omega);have e1:Hm (3*D.Ah-1)=3*D.Ah-1:=IA (by have:=hde.c1 (by omega);omega);rw[e1];rcases(show ld l (M.O8 0)≥3*D.Ah-1∨ld l (M.O8 0)<3*D.Ah-1 by omega) with g|g
  ·have:=KD _ ht g;rw[hd] at this;rw[this];exact next 4 1 (vw M l).w0 BH l (.inl ⟨rfl,rfl⟩) (by omega) (by omega) (by omega) (by omega) (by omega) (.inl (by omega)) (fun k=>by omega) (by have:=hde.p0;rw[hd] at this;exact this) (by omega) ⟨hpi.a0,fun _=>hA,hpi.t0,fun k=>by simp at k,hpi.k0,hpi.k2,hpi.k3⟩ (by omega) (by omega) (by omega) (fun k=>absurd k (O6 (by omega))) K0
  have:=LN _ ht g;rw[hd] at this;rw[this];have:=cZ BH K0;rw[hd] at this;exact this
 ·simp only[hd];have hA:x.AL=D.Ah:=hpi.a1 (by omega);unfold Mo.De.Ti;exact next 5 0 (EZ D.Ah 3) ⟨7,0,3,_,0⟩ (put l 0 (EZ D.Ah 3)) (.inr rfl) (by omega) (by omega) (by omega) (by omega) (by omega) (.inl (by omega)) (fun k=>by omega) (by rw[ir.2.2.1];rfl) (by omega) ⟨hpi.a0,fun _=>hA,hpi.t0,fun k=>by simp at k,hpi.k0,hpi.k2,hpi.k3⟩ (by omega) (by omega) (by omega) (fun k=>absurd k (O6 (by omega))) (K7 _ _)
 ·simp only[hd];have ht:=Bg (by omega);have hA:x.AL=D.Ah:=hpi.a1 (by omega);have e1:Hm (3*D.Ah)=3*D.Ah:=IA (by have:=hde.c1 (by omega);omega);rw[e1];rcases(show ld l (M.O8 0)≥3*D.Ah∨ld l (M.O8 0)<3*D.Ah by omega) with g|g
  ·have:=KD _ ht g;rw[hd] at this;rw[this];exact next 6 1 (vw M l).w0 BH l (.inl ⟨rfl,rfl⟩) (by omega) (by omega) (by omega) (by omega) (by omega) (.inl (by omega)) (fun k=>by omega) (by have:=hde.p0;rw[hd] at this;exact this) (by omega) ⟨hpi.a0,fun _=>hA,hpi.t0,fun _=>hpi.k3 g,hpi.k0,hpi.k2,hpi.k3⟩ (by omega) (by omega) (by omega) (fun k=>absurd k.2.2.2 (by show¬(ld l (M.O8 0)<_);omega)) K0
  have:=LN _ ht g;rw[hd] at this;rw[this];have:=cZ BH K0;rw[hd] at this;exact this
 ·simp only[hd];have hA:x.AL=D.Ah:=hpi.a1 (by omega);unfold Mo.De.Ti;exact next 7 0 (EZ D.Ah 4) ⟨7,0,4,_,0⟩ (put l 0 (EZ D.Ah 4)) (.inr rfl) (by omega) (by omega) (by omega) (by omega) (by omega) (.inl (by omega)) (fun k=>by omega) (by rw[ir.2.2.2.1];rfl) (by omega) ⟨hpi.a0,fun _=>hA,hpi.t0,fun _=>hpi.t6 (.inr (by omega)),hpi.k0,hpi.k2,hpi.k3⟩ (by omega) (by omega) (by omega) (fun k=>absurd k (O6 (by omega))) (K7 _ _)
 ·simp only[hd];have hA:x.AL=D.Ah:=hpi.a1 (by omega);unfold Mo.De.count;have key: ∀d:Nat,d=7∨d=8→Lj M (n+1) l {D with Be:=d,Ae:=BH} x ms∧Xa BH:=fun d hdd=>next d D.Bg (vw M l).w0 BH l (.inl ⟨rfl,rfl⟩) (by omega) (by omega) (by omega) (by omega) (by omega) (.inl (by omega)) (fun k=>by omega) (by have:=hde.p0;rw[hd] at this;rcases hdd with rfl|rfl<;>exact this) (by omega) ⟨hpi.a0,fun _=>hA,hpi.t0,fun _=>hpi.t6 (.inr (by omega)),hpi.k0,hpi.k2,hpi.k3⟩ (by omega) (by omega) (by omega) (fun k=>absurd k (O6 (by omega))) K0
  exact key _ (by split<;>simp)
 ·simp only[hd];have hA:x.AL=D.Ah:=hpi.a1 (by omega);unfold Mo.De.count;by_cases hw:ld l 1≠0
  ·simp only[if_pos hw];exact next 7 D.Bg (vw M l).w0 BH l (.inl ⟨rfl,rfl⟩) (by omega) (by omega) (by omega) (by omega) (by omega) (.inl (by omega)) (fun k=>by omega) (by have:=hde.p0;rw[hd] at this;exact this) (by omega) ⟨hpi.a0,fun _=>hA,hpi.t0,fun _=>hpi.t6 (.inr (by omega)),hpi.k0,hpi.k2,hpi.k3⟩ (by omega) (by omega) (by omega) (fun k=>absurd k (O6 (by omega))) K0
  simp only[if_neg hw];have hw0:(vw M l).w1=0:=by have: ¬(vw M l).w1≠0:=hw;omega
  have hwk:=hU.wk;have hT0:T=[]:=List.eq_nil_of_length_eq_zero (by omega);have hns: ∀j,j<nm M→(ms j).next≠ .Ee:=fun j hj e=>by
   have:=hU.w1s hj e;omega
  have hcov: ∀v j,¬BD (nm M) ms T v j:=fun v j hc=>by
   rcases hc with⟨t,k,-⟩|⟨k,k1,k2,-⟩
   ·rw[hT0] at k;simp at k
   exact hns k k1 k2
  exact next 9 D.Bg (vw M l).w0 BH l (.inl ⟨rfl,rfl⟩) (by omega) (by omega) (by omega) (by omega) (by omega) (.inr ⟨hT0,hns⟩) (fun _ v hv=>hU.co.done (by show x.Bh=x.AL;rw[hpi.t6 (.inr (by omega)),hA]) hcov hv) (by have:=hde.p0;rw[hd] at this;exact this) (by omega) ⟨hpi.a0,fun _=>hA,hpi.t0,fun _=>hpi.t6 (.inr (by omega)),hpi.k0,hpi.k2,hpi.k3⟩ (by omega) (by omega) (by omega) (fun k=>absurd k (O6 (by omega))) K0
 ·simp only[hd];have hA:x.AL=D.Ah:=hpi.a1 (by omega);have hT:x.Bh=D.Ah:=hpi.t6 (.inr (by omega));have hcy:NR D.Ah=D.Ah:=WX (by omega);refine⟨?_,K0⟩;obtain⟨hq,hf⟩:=LZ (l:=l) (v:=pair (NR D.Ah) 0) hL (q:= .FW 2) (by simp);rw[rI] at hq hf;refine h.Ik hq hf (fun v=>Iq hL (q:= .FW 2) (by simp)) ?_;rw[ii hL h.len];refine hU.Ik (D':=⟨10,D.Ah,D.Bg,BH⟩) (w0:=(vw M l).w0) (w2:=(pair (NR D.Ah) 0)) (w3:=(vw M l).w3) (fun a b c=>by omega) (fun _=>hU.qm (.inl (by omega))) ⟨by show 0≤D.Ah∧D.Ah≤n+1;omega,by show 10≤13;decide,by have:=hde.p0;rw[hd] at this;exact this,fun k=>by simp at k,fun _=>hde.c1 (by omega)⟩
   ⟨hpi.a0,fun _=>hA,hpi.t0,fun _=>hT,hpi.k0,hpi.k2,hpi.k3⟩ ⟨?_,?_,hsi.p3,fun _=>?_,fun k=>by simp at k,fun k=>by simp at k,fun _=>hsi.no (by omega),fun _=> .inl rfl,hsi.ds⟩ (fun j hj g=>?_) ?_
  ·show Mo.hi (pair (NR D.Ah) 0)=if(10=0∨10≤10) then D.Ah else D.Ah-1
   rw[if_pos (by omega)];rw[hcy];exact Yg (by omega)
  ·show lo (pair (NR D.Ah) 0)≤_;rw[Vy (by omega)];exact hpb.1
  ·show lo (pair (NR D.Ah) 0)=0;exact Vy (by omega)
  ·obtain⟨a1,a2,a3,a4,a5,a6,a7,a8,a9⟩:=hU.sw j hj g;have ho:=hsi.off (by omega) hj g;exact⟨a1,a2,(fun e=>by have:=a3 e;omega),a4,(fun k=>by rw[ho] at k;cases k),a6,a7,a8,a9⟩
  exact tK hU.mu (fun k=>absurd k (O6 (by omega))) (Int.le_refl _) (fun _ e=>⟨e,rfl⟩)
 ·simp only[hd];have hA:x.AL=D.Ah:=hpi.a1 (by omega);have hT:x.Bh=D.Ah:=hpi.t6 (.inr (by omega));have hcy:NR D.Ah=D.Ah:=WX (by omega);refine⟨?_,K0⟩;obtain⟨hq,hf⟩:=LZ (l:=l) (v:=0) hL (q:= .FW 3) (by simp);rw[rK] at hq hf;refine h.Ik hq hf (fun v=>Iq hL (q:= .FW 3) (by simp)) ?_;rw[ij hL h.len];refine hU.Ik (D':=⟨11,D.Ah,D.Bg,BH⟩) (w0:=(vw M l).w0) (w2:=(vw M l).w2) (w3:=0) (fun a b c=>by omega) (fun _=>hU.qm (.inl (by omega))) ⟨by show 0≤D.Ah∧D.Ah≤n+1;omega,by show 11≤13;decide,by have:=hde.p0;rw[hd] at this;exact this,fun k=>by simp at k,fun _=>hde.c1 (by omega)⟩
   ⟨hpi.a0,fun _=>hA,hpi.t0,fun _=>hT,hpi.k0,hpi.k2,hpi.k3⟩ ⟨?_,?_,Int.le_refl _,fun _=>?_,fun k=>rfl,fun k=>by simp at k,fun _=>hsi.no (by omega),fun _=> .inr (.inl rfl),hsi.ds⟩ (fun j hj g=>?_) ?_
  ·show Mo.hi (vw M l).w2=if(11=0∨10≤11) then D.Ah else D.Ah-1
   rw[if_pos (by omega)];have:=hsi.h2;rw[if_pos (by omega)] at this;exact this
  ·show lo (vw M l).w2≤_;exact hsi.k2
  ·show lo (vw M l).w2=0;exact hsi.z2 (.inl hd)
  ·refine AN (hU.sw j hj g) rfl (Int.le_refl _) (fun e=>?_) (hsi.off (by omega) hj g);have:=(hU.sw j hj g).2.2.1 e;omega
  exact tK hU.mu (fun k=>absurd k (O6 (by omega))) (Int.le_refl _) (fun _ e=>⟨e,rfl⟩)
 ·simp only[hd];have hA:x.AL=D.Ah:=hpi.a1 (by omega);have hT:x.Bh=D.Ah:=hpi.t6 (.inr (by omega));unfold Mo.De.Ti;refine⟨?_,K7 _ _⟩;obtain⟨hq,hf⟩:=LZ (l:=l) (v:=EZ D.Ah 5) hL (q:= .FW 0) (by simp);rw[K5] at hq hf;refine h.Ik hq hf (fun v=>Iq hL (q:= .FW 0) (by simp)) ?_;rw[Uv hL h.len];have hact:GY (nm M) (fun j=>if Ko (ms j)=true then 1 else 0)=0:=by
   rw[QA (g:=fun _=>0) fun j hj=>by rw[hsi.no (by omega) j hj];rfl];generalize nm M=k;induction k with
   |zero=>rfl
   |succ k ih=>exact ih
  refine hU.Ik (D':=⟨12,D.Ah,0,_⟩) (w0:=EZ D.Ah 5) (w2:=(vw M l).w2) (w3:=(vw M l).w3) (fun a b c=>by omega) (fun _=>hU.qm (.inl (by omega))) ⟨by show 0≤D.Ah∧D.Ah≤n+1;omega,by show 12≤13;decide,by show EZ D.Ah 5=8*D.Ah+ph 12;rw[ir.2.2.2.2];rfl,fun _=>rfl,fun _=>hde.c1 (by omega)⟩
   ⟨hpi.a0,fun _=>hA,hpi.t0,fun _=>hT,hpi.k0,hpi.k2,hpi.k3⟩ ⟨?_,hsi.k2,hsi.p3,fun k=>by simp at k,fun k=>by simp at k,fun _=>?_,fun k=>absurd rfl k,fun _=> .inr (.inr (.inl rfl)),hsi.ds⟩ (fun j hj g=>?_) ?_
  ·have:=hsi.h2;rw[if_pos (by omega)] at this;show Mo.hi (vw M l).w2=if(12=0∨10≤12) then D.Ah else D.Ah-1
   rw[if_pos (by omega)];exact this
  ·show(vw M l).w3+((GY (nm M) fun j=>if Ko (ms j)=true then 1 else 0:Nat):Int)=lo (vw M l).w2;have e1:=hsi.z3 hd;have e2:=hsi.z2 (.inr hd);rw[hact];omega
  ·exact AN (hU.sw j hj g) rfl (Int.le_refl _) (fun _=> .inl rfl) (hsi.off (by omega) hj g)
  exact tK hU.mu (fun k=>absurd k (O6 (by omega))) (Int.le_refl _) (fun _ e=>⟨e,rfl⟩)
 ·simp only[hd];have hA:x.AL=D.Ah:=hpi.a1 (by omega);have hT:x.Bh=D.Ah:=hpi.t6 (.inr (by omega));by_cases hw:ld l 3≠M.parts
  ·rw[if_pos hw];have:=cZ BH K0;rw[hd] at this;exact this
  rw[if_neg hw];refine⟨?_,K0⟩;have hw3:(vw M l).w3=M.parts:=by have: ¬(vw M l).w3≠M.parts:=hw;omega
  have hct:=hsi.ct hd;have hk2:=hsi.k2;have hno: ∀j,j<nm M→Ko (ms j)=false:=fun j hj=>by
   have hge:=JM (f:=fun j=>if Ko (ms j)=true then 1 else 0) hj;cases hb:Ko (ms j)
   ·rfl
   rw[hb,if_pos rfl] at hge;omega
  refine h.Ik .Gn .Gn (fun _=>rfl) ?_;refine hU.Ik (D':=⟨13,D.Ah,D.Bg,BH⟩) (w0:=(vw M l).w0) (w2:=(vw M l).w2) (w3:=(vw M l).w3) (fun a b c=>by omega) (fun _=>hU.qm (.inl (by omega))) ⟨by show 0≤D.Ah∧D.Ah≤n+1;omega,by show 13≤13;decide,by have:=hde.p0;rw[hd] at this;exact this,fun k=>by simp at k,fun _=>hde.c1 (by omega)⟩
   ⟨hpi.a0,fun _=>hA,hpi.t0,fun _=>hT,hpi.k0,hpi.k2,hpi.k3⟩ ⟨?_,hsi.k2,hsi.p3,fun k=>by simp at k,fun k=>by simp at k,fun k=>by simp at k,fun _=>hno,fun g=>by have g:lo (vw M l).w2<M.parts:=g;omega,hsi.ds⟩ (fun j hj g=>?_) ?_
  ·have:=hsi.h2;rw[if_pos (by omega)] at this;show Mo.hi (vw M l).w2=if(13=0∨10≤13) then D.Ah else D.Ah-1
   rw[if_pos (by omega)];exact this
  ·have ho:ML (ms j).AO.next=false:=by
    have:=hno j hj;unfold Ko at this;rw[decide_eq_true g] at this;exact this
   exact AN (hU.sw j hj g) rfl (Int.le_refl _) (fun _=> .inr (.inl rfl)) ho
  exact tK hU.mu (fun k=>absurd k (O6 (by omega))) (Int.le_refl _) (fun _ e=>⟨e,rfl⟩)
 simp only[hd];have hA:x.AL=D.Ah:=hpi.a1 (by omega);have hT:x.Bh=D.Ah:=hpi.t6 (.inr (by omega));unfold Mo.De.Ti;simp only[show(13+1) % 14=0 from rfl];refine⟨?_,K7 _ _⟩;obtain⟨hq,hf⟩:=LZ (l:=l) (v:=EZ D.Ah 0) hL (q:= .FW 0) (by simp);rw[K5] at hq hf;refine h.Ik hq hf (fun v=>Iq hL (q:= .FW 0) (by simp)) ?_;rw[Uv hL h.len];refine hU.Ik (D':=⟨0,D.Ah,0,_⟩) (w0:=EZ D.Ah 0) (w2:=(vw M l).w2) (w3:=(vw M l).w3) (fun a b c=>by omega) (fun _=>hU.qm (.inl (by omega))) ⟨by show 0≤D.Ah∧D.Ah≤n+1;omega,by show 0≤13;decide,by show EZ D.Ah 0=8*D.Ah+ph 0;rw[ir.1];show _=_+0;omega,fun _=>rfl,fun k=>by simp at k⟩
  ⟨hpi.a0,fun _=>hA,hpi.t0,fun _=>hT,hpi.k0,hpi.k2,hpi.k3⟩ ⟨?_,hsi.k2,hsi.p3,fun k=>by simp at k,fun k=>by simp at k,fun k=>by simp at k,fun _=>hsi.no (by omega),fun g=>?_,hsi.ds⟩ (fun j hj g=>?_) ?_
 ·have:=hsi.h2;rw[if_pos (by omega)] at this;show Mo.hi (vw M l).w2=if(0=0∨10≤0) then D.Ah else D.Ah-1
  rw[if_pos (by omega)];exact this
 ·rcases hsi.fu g with k|k|k|k
  ·omega
  ·omega
  ·omega
  exact .inr (.inr (.inr k))
 ·exact AN (hU.sw j hj g) rfl (Int.le_refl _) (fun _=> .inr (.inr rfl)) (hsi.off (by omega) hj g)
 exact tK hU.mu (fun k=>absurd k (O6 (by omega))) (Int.le_refl _) (fun _ e=>⟨e,rfl⟩)
end
open Go.Proofs.YtmpcfamcbaineaaGreat.Mo
section
variable{V V':Vw}{XT T:List Int}{k':Nat}
structure UX (M:Bz) (n:Int) (V:Vw) (D:De) (x:Mu) (m:Nat) (ms:Nat→Mk) (T:List Int) (k:Nat):Prop where
 co:IB M.nodes (gs M V x (BD m ms T))
 hz: ∀v,1≤v→v≤M.nodes→V.st v=1→0≤V.Lh v∧V.Lh v≤M.CU v∧ ∀j,V.Lh v≤j→V.val v j=0
 tv: ∀t∈T,(gs M V x (BD m ms T)).GK (hi t)
 ac:(T≠[]∨ ∃j,j<m∧(ms j).next= .Ee)→x.AL=D.Ah∧1≤D.Be∧D.Be≤8
 qm:(9≤D.Be∨D.Be=0∨x.AL<D.Ah)→ ∀v,(gs M V x (BD m ms T)).R v→(gs M V x (BD m ms T)).GK v
 wk:V.w1=T.length+GY m (fun j=>Jk (ms j))+k
 wb:V.w1≤n
 de:DI n V D
 pi:PI V D x
 sc: ∀j,j<m→(ms j).next= .Ee→cE (gs M V x (BD m ms T)) (ms j).AU
 si:SI M V D m ms
 sw: ∀j,j<m→(ms j).next= .EN→yD M V (gs M V x (BD m ms T)) D (ms j).AO
theorem UI.ux(h:UI M n V D x m ms T):UX M n V D x m ms T (IX x):=⟨h.co,h.hz,h.tv,h.ac,h.qm,h.wk,h.wb,h.de,h.pi,h.sc,h.si,h.sw⟩
theorem UX.ui(h:UX M n V D x m ms T k)(hk:k=IX x)(hm:O4 M V (gs M V x (BD m ms T)) D x):UI M n V D x m ms T:=⟨h.co,h.hz,h.tv,h.ac,h.qm,by rw[←hk];exact h.wk,h.wb,h.de,h.pi,h.sc,h.si,h.sw,hm⟩
theorem RH(h1:x'.Af=x.Af)(h2:x'.AL=x.AL)(h3:x'.Bh=x.Bh){c:Int→Int→Prop}:gs M V x' c=gs M V x c:=by unfold gs;rw[h1,h2,h3]
theorem PI.congr(h:PI V D x)(h2:x'.AL=x.AL)(h3:x'.Bh=x.Bh):PI V D x':=⟨by rw[h2];exact h.a0,fun g=>by rw[h2];exact h.a1 g,by rw[h2,h3];exact h.t0,fun g=>by rw[h3];exact h.t6 g,h.k0,fun g=>by rw[h2];exact h.k2 g,fun g=>by rw[h3];exact h.k3 g⟩
theorem UX.congr(h:UX M n V D x m ms T k)(h1:x'.Af=x.Af)(h2:x'.AL=x.AL)(h3:x'.Bh=x.Bh):UX M n V D x' m ms T k:=by
 have e:=fun c=>RH (M:=M) (V:=V) (x:=x) (x':=x') (c:=c) h1 h2 h3
 exact⟨by rw[e];exact h.co,h.hz,by rw[e];exact h.tv,fun g=>by rw[h2];exact h.ac g,by rw[e,h2];exact h.qm,h.wk,h.wb,h.de,h.pi.congr h2 h3,by rw[e];exact h.sc,h.si,by rw[e];exact h.sw⟩
theorem UX.LK(h:UX M n V D x m ms T k):UX M (n+1) V D x m ms T k:=⟨h.co,h.hz,h.tv,h.ac,h.qm,h.wk,by have:=h.wb;omega,h.de.LK,h.pi,h.sc,h.si,h.sw⟩
theorem UX.w1(h:UX M n V D x m ms T k)(hw:w+k=V.w1+k')(hb:w≤V.w1+1):UX M (n+1) {V with w1:=w} D x m ms T k':=
 ⟨h.co,h.hz,h.tv,h.ac,h.qm,by have:=h.wk;show w=_;omega,by have:=h.wb;show w≤n+1;omega,h.de.LK.w1,h.pi.w1,h.sc,h.si.w1,h.sw⟩
theorem UX.gm(h:UX M n V D x m ms T k)(hco:IB M.nodes (gs M V' x' (BD m ms T')))(hm:Gm (gs M V x (BD m ms T)) (gs M V' x' (BD m ms T')))
  (hal: ∀v,(gs M V x (BD m ms T)).al v→(gs M V' x' (BD m ms T')).al v) (hmw: ∀v,(gs M V x (BD m ms T)).al v→(gs M V' x' (BD m ms T')).GK v→(gs M V x (BD m ms T)).GK v∨1≤D.Be∧D.Be≤8)
  (hhz: ∀v,1≤v→v≤M.nodes→V'.st v=1→0≤V'.Lh v∧V'.Lh v≤M.CU v∧ ∀j,V'.Lh v≤j→V'.val v j=0) (ic: ∀t∈T',(gs M V' x' (BD m ms T')).GK (hi t)) (hac:T'≠[]→T≠[]∨x.AL=D.Ah∧1≤D.Be∧D.Be≤8)
  (hqm:(9≤D.Be∨D.Be=0∨x.AL<D.Ah)→ ∀v,(gs M V' x' (BD m ms T')).R v→(gs M V' x' (BD m ms T')).GK v) (hw0:V'.w0=V.w0) (hw2:V'.w2=V.w2) (hw3:V'.w3=V.w3) (ha1:V'.a1=V.a1) (hA:x'.AL=x.AL) (hT:x'.Bh=x.Bh)
  (hwk:V'.w1+T.length+k=V.w1+T'.length+k') (hwb:V'.w1≤V.w1+1):UX M (n+1) V' D x' m ms T' k':=by
 have BS: ∀v,(gs M V x (BD m ms T)).al v→1≤v:=fun v hv=>hv.1.1
 have hd:=h.de;have hp:=h.pi.congr hA hT;have hs:=h.si;refine⟨hco,hhz,ic,fun g=>?_,fun g=>hqm (by rw[hA] at g;exact g),by have:=h.wk;omega,by have:=h.wb;omega,⟨by have:=hd.c0;omega,hd.dn,by rw[hw0];exact hd.p0,hd.tn,hd.c1⟩,⟨hp.a0,hp.a1,hp.t0,hp.t6,by rw[ha1];exact hp.k0,by rw[ha1];exact hp.k2,by rw[ha1];exact hp.k3⟩,fun j hj g=>hm.sc BS (h.sc j hj g),⟨by rw[hw2];exact hs.h2,by rw[hw2];exact hs.k2,by rw[hw3];exact hs.p3,by rw[hw2];exact hs.z2,by rw[hw3];exact hs.z3,by rw[hw2,hw3];exact hs.ct,hs.no,by rw[hw2];exact hs.fu,hs.ds⟩,fun j hj g=>?_⟩
 ·rw[hA];rcases g with g|g
  ·rcases hac g with k|k
   ·exact h.ac (.inl k)
   exact k
  exact h.ac (.inr g)
 obtain⟨a1,a2,a3,a4,a5,a6,a7,a8,a9⟩:=h.sw j hj g;refine⟨a1,a2,a3,a4,fun k=>by rw[hw2];exact a5 k,a6,fun k=>hal _ (a7 k),fun k g'=>?_,a9⟩;rcases hmw _ (a7 (.inr k)) g' with k2|k2
 ·exact a8 k k2
 have:=(a5 (by rw[k];rfl)).2.1;omega
theorem UX.AV(h:UX M n V D x m ms T k)(hR:(gs M V x (BD m ms T)).R w)(hk:V.mw w<x.AL)(hz: ∀v j,j<0→V.val v j=0)(hkk:k=k'+1):
  UX M (n+1) (tJ V w x.AL) D x m ms (pair w 0::T) k':=by
 have haw:(gs M V x (BD m ms T)).al w:=h.co.ra w hR;have hm:Gm (gs M V x (BD m ms T)) (gs M (tJ V w x.AL) x (BD m ms (pair w 0::T))):=VD hR haw;have hh:Mo.hi (pair w 0)=w∧lo (pair w 0)=0:=LA (by omega);have mkw:(gs M (tJ V w x.AL) x (BD m ms (pair w 0::T))).GK w:=⟨haw,by show x.AL≤if w=w then x.AL else V.mw w;rw[if_pos rfl];exact Int.le_refl _⟩;have hnf:1≤D.Be∧D.Be≤8∧x.AL=D.Ah:=by
  have hq:=h.qm;have ha:=h.pi.a0;by_cases c:9≤D.Be∨D.Be=0∨x.AL<D.Ah
  ·have h2:x.AL≤V.mw w:=(hq c w hR).2;omega
  omega
 have cv: ∀v j,BD m ms T v j→BD m ms (pair w 0::T) v j:=fun v j hc=>by
  rcases hc with⟨t,h1,h2⟩|k
  ·exact .inl ⟨t,List.mem_cons_of_mem _ h1,h2⟩
  exact .inr k
 refine h.gm (aA h.co hR hz fun v j _ hc=>?_) hm (fun v hv=>hv) (fun v _ _=> .inr ⟨hnf.1,hnf.2.1⟩) h.hz (fun t ht=>?_) (fun _=> .inr ⟨hnf.2.2,hnf.1,hnf.2.1⟩) (fun g=>by omega) rfl rfl rfl rfl rfl rfl ?_ (by show V.w1≤V.w1+1;omega)
 ·rcases hc with hc|⟨rfl,hj⟩
  ·exact .inl (cv v j hc)
  exact .inl (.inl ⟨_,List.mem_cons_self ..,hh.1,by rw[hh.2];exact hj⟩)
 ·rcases List.mem_cons.1 ht with rfl|ht
  ·rw[hh.1];exact mkw
  exact hm.LF _ (h.tv t ht)
 show V.w1+(T.length:Int)+k=V.w1+((pair w 0::T).length:Int)+k';simp only[List.length_cons];omega
theorem UX.Af{rs:List Int}(h:UX M n V D x m ms T k)(hr:x'.Af=rs)(hA:x'.AL=x.AL)(hT:x'.Bh=x.Bh)(hrs: ∀r∈rs,r=0∨r∈x.Af∨ ∃v j,v∈x.Af∧1≤v∧V.val v j=r):UX M (n+1) V D x' m ms T k:=by
 have e: ∀c,gs M V x' c={gs M V x c with Af:=rs}:=fun c=>by unfold gs;rw[hr,hA,hT]
 have hco:=h.co.root hrs;rw[←e] at hco;have hp:=h.pi.congr hA hT;have hR: ∀v,(gs M V x' (BD m ms T)).R v→(gs M V x (BD m ms T)).R v:=fun v hv=>OM.mono hv fun v k h1=>by
  rcases k with k|k
  ·rw[e] at k;rcases hrs v k with g|g|⟨u,j,g1,g2,g3⟩
   ·omega
   ·exact .DX (.inl g) h1
   subst g3;exact .step (.DX (.inl g1) g2) h1
  rw[e] at k;exact .DX (.inr k) h1
 have mk: ∀v,(gs M V x' (BD m ms T)).GK v↔(gs M V x (BD m ms T)).GK v:=fun v=>by rw[e];exact Iff.rfl
 have BS: ∀v,(gs M V x (BD m ms T)).al v→1≤v:=fun v hv=>hv.1.1
 refine⟨hco,h.hz,fun t ht=>(mk _).2 (h.tv t ht),fun g=>by rw[hA];exact h.ac g,fun g v hv=>(mk v).2 (h.qm (by rw[hA] at g;exact g) v (hR v hv)),h.wk,by have:=h.wb;omega,h.de.LK,hp,fun j hj g=>?_,h.si,fun j hj g=>by rw[e];exact h.sw j hj g⟩;obtain⟨b1,b2,b3⟩:=h.sc j hj g;rw[e];exact⟨b1,b2,b3⟩
theorem UX.Es{y s nv:Int}(h:UX M n V D x m ms T k)(hn:nv=0∨nv∈x.Af)(hm:Gg (gs M V x (BD m ms T)) nv)(ho:Gg (gs M V x (BD m ms T)) (V.val y s))(hs:0≤s∧s<V.Lh y):
  UX M (n+1) {V with val:=fun v j=>if v=y∧j=s then nv else V.val v j} D x m ms T k:=by
 have hm1:1≤nv→(gs M V x (BD m ms T)).GK nv:=fun g=>by
  rcases hm with k|k
  ·omega
  exact k
 have hco:=h.co.Es (y:=y) (s:=s) hn hm1 ho;have hR: ∀v,(gs M {V with val:=fun v j=>if v=y∧j=s then nv else V.val v j} x (BD m ms T)).R v→(gs M V x (BD m ms T)).R v:=fun v hv=>by
  refine OM.Gt (P:=fun v=>(gs M V x (BD m ms T)).R v) hv (fun v k h1=> .DX k h1) fun v j k h1=>?_
  have h1:1≤(if v=y∧j=s then nv else V.val v j):=h1;show(gs M V x (BD m ms T)).R (if v=y∧j=s then nv else V.val v j);split at h1
  ·rename_i c;rw[if_pos c];exact(hm1 h1).R h1
  rename_i c;rw[if_neg c];exact OM.step k h1
 have BS: ∀v,(gs M V x (BD m ms T)).al v→1≤v:=fun v hv=>hv.1.1
 have hp:=h.pi;have hs':=h.si;refine⟨hco,fun v a b c=>?_,h.tv,h.ac,fun g v hv=>h.qm g v (hR v hv),h.wk,by have:=h.wb;show V.w1≤n+1;omega,⟨h.de.LK.c0,h.de.dn,h.de.p0,h.de.tn,h.de.c1⟩,⟨hp.a0,hp.a1,hp.t0,hp.t6,hp.k0,hp.k2,hp.k3⟩,fun j hj g=>?_,⟨hs'.h2,hs'.k2,hs'.p3,hs'.z2,hs'.z3,hs'.ct,hs'.no,hs'.fu,hs'.ds⟩,fun j hj g=>h.sw j hj g⟩
 ·have:=h.hz v a b c;refine⟨this.1,this.2.1,fun j hj=>?_⟩;show(if v=y∧j=s then nv else V.val v j)=0;rw[if_neg]
  ·exact this.2.2 j hj
  rintro⟨rfl,rfl⟩;have hj:V.Lh v≤j:=hj;omega
 have hsc:=h.sc j hj g;obtain⟨b1,b2,b3⟩:=hsc;refine⟨b1,b2,?_⟩;cases hx:(ms j).AU.next<;>rw[hx] at b3<;>simp only at b3⊢
 ·exact b3
 ·exact b3
 obtain⟨c1,c2,c3⟩:=b3;refine⟨c1,c2,?_⟩;show(if(ms j).AU.v=y∧(ms j).AU.at_-1=s then nv else V.val (ms j).AU.v ((ms j).AU.at_-1))=(ms j).AU.w∨_;by_cases c:(ms j).AU.v=y∧(ms j).AU.at_-1=s
 ·refine .inr ⟨?_,?_⟩
  ·rcases c3 with k|⟨k,-⟩
   ·have k:V.val (ms j).AU.v ((ms j).AU.at_-1)=(ms j).AU.w:=k;rw[c.1,c.2] at k;rcases ho with k2|k2
    ·omega
    rw[k] at k2;exact k2
   exact k
  show Gg _ (if(ms j).AU.v=y∧(ms j).AU.at_-1=s then nv else V.val (ms j).AU.v ((ms j).AU.at_-1));rw[if_pos c];exact hm
 rw[if_neg c];rcases c3 with k|⟨k1,k2⟩
 ·exact .inl k
 refine .inr ⟨k1,?_⟩;show Gg _ (if(ms j).AU.v=y∧(ms j).AU.at_-1=s then nv else V.val (ms j).AU.v ((ms j).AU.at_-1));rw[if_neg c];exact k2
end
open Go.Proofs.YtmpcfamcbaineaaGreat.Mo
section
variable{V V':Vw}{T:List Int}{k':Nat}
theorem IB.raw{N:Int}{g:Gs}{XE:Int→Int}(hc:IB N g)(hw: ¬g.al w)(hv: ∀v j,v≠w→val' v j=g.val v j)(hm: ∀v,v≠w→XE v=g.mw v)(sL: ∀j,0≤val' w j∧val' w j≤N)(hmr:0≤XE w∧XE w≤g.A):
  IB N {g with val:=val',mw:=XE}∧(∀v,({g with val:=val',mw:=XE}:Gs).GK v↔g.GK v)∧ ∀v,({g with val:=val',mw:=XE}:Gs).R v↔g.R v:=by
 have nR: ¬g.R w:=fun h=>hw (hc.ra w h)
 have mk: ∀v,({g with val:=val',mw:=XE}:Gs).GK v↔g.GK v:=fun v=>by
  by_cases e:v=w
  ·subst e;exact⟨fun h=>absurd h.1 hw,fun h=>absurd h.1 hw⟩
  show(g.al v∧g.A≤XE v)↔_;rw[hm v e];exact Iff.rfl
 have R1: ∀v,({g with val:=val',mw:=XE}:Gs).R v→g.R v:=fun v h=>by
  refine OM.Gt (P:=g.R) h (fun v k h1=>?_) fun v j k h1=>?_
  ·rcases k with k|k
   ·exact .DX (.inl k) h1
   exact .DX (.inr ((mk v).1 k)) h1
  have e:v≠w:=fun e=>nR (e▸k)
  have h1:1≤val' v j:=h1;show g.R (val' v j);rw[hv v j e] at h1⊢
  exact OM.step k h1
 have R2: ∀v,g.R v→({g with val:=val',mw:=XE}:Gs).R v:=fun v h=>by
  have:({g with val:=val',mw:=XE}:Gs).R v∧g.R v:=by
   refine OM.Gt (P:=fun v=>({g with val:=val',mw:=XE}:Gs).R v∧g.R v) h (fun v k h1=>?_) fun v j k h1=>?_
   ·refine⟨?_,.DX k h1⟩;rcases k with k|k
    ·exact .DX (.inl k) h1
    exact .DX (.inr ((mk v).2 k)) h1
   refine⟨?_,.step k.2 h1⟩;have e:v≠w:=fun e=>nR (e▸k.2)
   have:=OM.step (j:=j) k.1 (by show 1≤val' v j;rw[hv v j e];exact h1);rw[←hv v j e];exact this
  exact this.1
 have G2: ∀v,g.G v→({g with val:=val',mw:=XE}:Gs).G v:=fun v h=>by
  have:({g with val:=val',mw:=XE}:Gs).G v∧g.R v:=by
   refine OM.Gt (P:=fun v=>({g with val:=val',mw:=XE}:Gs).G v∧g.R v) h (fun v k h1=>⟨.DX ((mk v).2 k) h1,.DX (.inr k) h1⟩) fun v j k h1=>⟨?_,.step k.2 h1⟩
   have e:v≠w:=fun e=>nR (e▸k.2)
   have:=OM.step (j:=j) k.1 (by show 1≤val' v j;rw[hv v j e];exact h1);rw[←hv v j e];exact this
  exact this.1
 refine⟨⟨fun v j=>?_,fun v hv'=>hc.ra v (R1 v hv'),fun v j hv'=>?_,fun ht r hr h1=>G2 r (hc.gr ht r hr h1),fun v=>?_,hc.rr,hc.an⟩,mk,fun v=>⟨R1 v,R2 v⟩⟩
 ·show 0≤val' v j∧val' v j≤N;by_cases e:v=w
  ·subst e;exact sL j
  rw[hv v j e];exact hc.vr v j
 ·have iu:=(mk v).1 hv';have e:v≠w:=fun e=>hw (e▸iu.1)
  show g.Vz v j∨val' v j=0∨({g with val:=val',mw:=XE}:Gs).GK (val' v j);rw[hv v j e];rcases hc.tc v j iu with a|a|a
  ·exact .inl a
  ·exact .inr (.inl a)
  exact .inr (.inr ((mk _).2 a))
 show 0≤XE v∧XE v≤g.A;by_cases e:v=w
 ·subst e;exact hmr
 rw[hm v e];exact hc.ma v
theorem UX.raw{XE hdr':Int→Int}(h:UX M n V D x m ms T k)(hw:V.st w≠1)(hv: ∀v j,v≠w→val' v j=V.val v j)(hm: ∀v,v≠w→XE v=V.mw v)(hh: ∀v,v≠w→hdr' v=V.Lh v)(sL: ∀j,0≤val' w j∧val' w j≤M.nodes)(hmr:0≤XE w∧XE w≤x.AL):
  UX M (n+1) {V with val:=val',mw:=XE,Lh:=hdr'} D x m ms T k:=by
 have tS: ¬(gs M V x (BD m ms T)).al w:=fun g=>hw g.2
 obtain⟨c1,c2,c3⟩:=h.co.raw tS hv hm sL hmr;have nR: ¬(gs M V x (BD m ms T)).R w:=fun g=>tS (h.co.ra w g)
 have ne: ∀v,(gs M V x (BD m ms T)).R v→v≠w:=fun v g e=>nR (e▸g)
 refine h.gm (V':={V with val:=val',mw:=XE,Lh:=hdr'}) (x':=x) (T':=T) (k':=k) c1 ⟨rfl,fun v g j=>hv v j (ne v g),fun v g=>(c2 v).2 g,fun v g=>(c3 v).2 g,fun v g=> .inl (hm v (ne v g))⟩ (fun v g=>g) (fun v _ g=> .inl ((c2 v).1 g)) (fun v a b c=>?_) (fun t ht=>(c2 _).2 (h.tv t ht)) (fun g=> .inl g) (fun g v hv'=>(c2 v).2 (h.qm g v ((c3 v).1 hv'))) rfl rfl rfl rfl rfl rfl rfl (by show V.w1≤V.w1+1;omega);have e:v≠w:=fun e=>hw (e▸c)
 show 0≤hdr' v∧hdr' v≤M.CU v∧ ∀j,hdr' v≤j→val' v j=0;rw[hh v e];have:=h.hz v a b c;exact⟨this.1,this.2.1,fun j hj=>by rw[hv v j e];exact this.2.2 j hj⟩
theorem UX.EU(h:UX M n V D x m ms T k)(hw:V.st w≠1)(hn:1≤w∧w≤M.nodes)(hz: ∀j,V.val w j=0)(hh:0≤V.Lh w∧V.Lh w≤M.CU w)(hm:V.mw w=x.Bh)(hr:x'.Af=x.Af++[w])(hA:x'.AL=x.AL)(hT:x'.Bh=x.Bh):
  UX M (n+1) {V with st:=fun a=>if a=w then 1 else V.st a} D x' m ms T k:=by
 have tS: ¬(gs M V x (BD m ms T)).al w:=fun g=>hw g.2
 have nR: ¬(gs M V x (BD m ms T)).R w:=fun g=>tS (h.co.ra w g)
 have ht0:=h.pi.t0;have hst: ∀v,(if v=w then 1 else V.st v)=1↔V.st v=1∨v=w:=fun v=>by
  by_cases e:v=w
  ·simp[e]
  simp[e]
 have AcC:=h.co.EU (w:=w) (t:=x.Bh) (mk':=V.mw) (val':=V.val) tS hn hz (fun _ _ _=>rfl) rfl ⟨ht0.2.2,ht0.1⟩ hm (fun _ _=>rfl);have hal: ∀v,(gs M {V with st:=fun a=>if a=w then 1 else V.st a} x' (BD m ms T)).al v↔(gs M V x (BD m ms T)).al v∨v=w:=fun v=>by
  show((1≤v∧v≤M.nodes)∧(if v=w then 1 else V.st v)=1)↔((1≤v∧v≤M.nodes)∧V.st v=1)∨v=w;rw[hst v];constructor
  ·rintro⟨a,b|b⟩
   ·exact .inl ⟨a,b⟩
   exact .inr b
  rintro(⟨a,b⟩|b)
  ·exact⟨a,.inl b⟩
  exact⟨by rw[b];exact hn,.inr b⟩
 have hco:IB M.nodes (gs M {V with st:=fun a=>if a=w then 1 else V.st a} x' (BD m ms T)):=AcC.congr rfl (fun v=>hal v) rfl hr hA hT rfl;have mk1: ∀v,(gs M V x (BD m ms T)).GK v→(gs M {V with st:=fun a=>if a=w then 1 else V.st a} x' (BD m ms T)).GK v:=fun v g=>⟨(hal v).2 (.inl g.1),by show x'.AL≤V.mw v;rw[hA];exact g.2⟩
 have mk2: ∀v,(gs M {V with st:=fun a=>if a=w then 1 else V.st a} x' (BD m ms T)).GK v→(gs M V x (BD m ms T)).GK v∨v=w:=fun v g=>by
  rcases(hal v).1 g.1 with a|a
  ·exact .inl ⟨a,by have:x'.AL≤V.mw v:=g.2;rw[hA] at this;exact this⟩
  exact .inr a
 have hR: ∀v,(gs M V x (BD m ms T)).R v→(gs M {V with st:=fun a=>if a=w then 1 else V.st a} x' (BD m ms T)).R v:=fun v g=>OM.mono g fun v c h1=>by
  rcases c with c|c
  ·exact .DX (.inl (by show v∈x'.Af;rw[hr];exact List.mem_append_left _ c)) h1
  exact .DX (.inr (mk1 v c)) h1
 have hR2: ∀v,(gs M {V with st:=fun a=>if a=w then 1 else V.st a} x' (BD m ms T)).R v→(gs M V x (BD m ms T)).R v∨v=w:=fun v g=>by
  refine OM.Gt (P:=fun v=>(gs M V x (BD m ms T)).R v∨v=w) g (fun v c h1=>?_) fun v j c h1=>?_
  ·rcases c with c|c
   ·have c:v∈x'.Af:=c;rw[hr] at c;rcases List.mem_append.1 c with c|c
    ·exact .inl (.DX (.inl c) h1)
    exact .inr (List.mem_singleton.1 c)
   rcases mk2 v c with c|c
   ·exact .inl (.DX (.inr c) h1)
   exact .inr c
  rcases c with c|rfl
  ·exact .inl (OM.step c h1)
  have h1:1≤V.val v j:=h1;rw[hz] at h1;omega
 refine h.gm (V':={V with st:=fun a=>if a=w then 1 else V.st a}) hco ⟨hA,fun _ _ _=>rfl,mk1,hR,fun _ _=> .inl rfl⟩ (fun v g=>(hal v).2 (.inl g)) (fun v g1 g2=>?_) (fun v a b c=>?_) (fun t ht=>mk1 _ (h.tv t ht)) (fun g=> .inl g) (fun g v hv=>?_) rfl rfl rfl rfl hA hT rfl (by show V.w1≤V.w1+1;omega)
 ·rcases mk2 v g2 with c|c
  ·exact .inl c
  subst c;exact absurd g1 tS
 ·rcases(hst v).1 c with c|rfl
  ·exact h.hz v a b c
  exact⟨hh.1,hh.2,fun j _=>hz j⟩
 rcases hR2 v hv with c|rfl
 ·exact mk1 v (h.qm g v c)
 refine⟨(hal v).2 (.inr rfl),?_⟩;show x'.AL≤V.mw v;rw[hA,hm];have a0:=h.pi.a0;rcases g with g|g|g
 ·have:=h.pi.t6 (.inr (by omega));have:=h.pi.a1 (by omega);omega
 ·have:=h.pi.t6 (.inl g);have:=h.pi.a1 (by omega);omega
 omega
theorem UX.arm(h:UX M n V D x m ms T k)(hd:D.Be=1∨D.Be=2)(hne:x.AL≠D.Ah)(hr:x'.Af=x.Af)(hA:x'.AL=D.Ah)(hT:x'.Bh=x.Bh):UX M (n+1) V D x' m ms T k∧T=[]∧D.Be=1:=by
 have hd1:D.Be=1:=by
  rcases hd with e|e
  ·exact e
  exact absurd (h.pi.a1 (by omega)) hne
 have a0:=h.pi.a0;have hT0:T=[]:=Classical.byContradiction fun g=>hne (h.ac (.inl g)).1
 have hns: ∀j,j<m→(ms j).next≠ .Ee:=fun j hj g=>hne (h.ac (.inr ⟨j,hj,g⟩)).1
 have hcov: ∀v j,¬BD m ms T v j:=fun v j hc=>by
  rcases hc with⟨t,k,-⟩|⟨k,k1,k2,-⟩
  ·rw[hT0] at k;simp at k
  exact hns k k1 k2
 have e: ∀c,gs M V x' c={gs M V x c with A:=x.AL+1}:=fun c=>by unfold gs;rw[hr,hA,hT];congr 1;omega
 have hco:=h.co.arm hcov h.pi.t0.1;have hco:IB M.nodes (gs M V x' (BD m ms T)):=by rw[e];exact hco
 have p:=h.pi;have hp:PI V D x':=⟨by rw[hA];omega,fun _=>hA,by rw[hA,hT];have:=p.t0;omega,fun g=>by omega,p.k0,fun _=>hA,fun g=>absurd (p.k2 (by omega)) hne⟩;refine⟨⟨hco,h.hz,fun t ht=>by rw[hT0] at ht;simp at ht,fun g=>?_,fun g=>?_,h.wk,by have:=h.wb;omega,h.de.LK,hp,fun j hj g=>absurd g (hns j hj),h.si,fun j hj g=>?_⟩,hT0,hd1⟩
 ·rcases g with g|⟨j,hj,g⟩
  ·exact absurd hT0 g
  exact absurd g (hns j hj)
 ·rw[hA] at g;omega
 obtain⟨a1,a2,a3,a4,a5,a6,a7,a8,a9⟩:=h.sw j hj g;have ho:=h.si.off (by omega) hj g;refine⟨a1,a2,a3,a4,a5,a6,a7,fun g=>?_,a9⟩;rw[g] at ho;simp[ML] at ho
theorem UX.Jq(h:UX M n V D x m ms T k)(hr:x'.Af=x.Af)(hA:x'.AL=x.AL)(hw:0≤w)
  (hc:x'.Bh=x.Bh∧w<3*D.Ah∧(3*D.Ah-2≤w→x.AL=D.Ah)∨x'.Bh=D.Ah∧x.AL=D.Ah∧w=3*D.Ah∧ ∀r∈x.Af,Gg (gs M V x (BD m ms T)) r):UX M (n+1) {V with a1:=w} D x' m ms T k:=by
 have p:=h.pi;have hco:IB M.nodes (gs M {V with a1:=w} x' (BD m ms T)):=by
  rcases hc with⟨c1,-,-⟩|⟨c1,c2,c3,c4⟩
  ·have e:gs M {V with a1:=w} x' (BD m ms T)=gs M V x (BD m ms T):=by unfold gs;rw[hr,hA,c1]
   rw[e];exact h.co
  have e:gs M {V with a1:=w} x' (BD m ms T)={gs M V x (BD m ms T) with Bh:=x.AL}:=by unfold gs;rw[hr,hA,c1,c2]
  rw[e];exact h.co.told fun r hr' h1=>by
   rcases c4 r hr' with k|k
   ·omega
   exact k
 have hpi:PI {V with a1:=w} D x':=by
  have a0:=p.a0;have t0:=p.t0;rcases hc with⟨c1,c2,c3⟩|⟨c1,c2,c3,c4⟩
  ·exact⟨by rw[hA];exact a0,by rw[hA];exact p.a1,by rw[hA,c1];exact t0,by rw[c1];exact p.t6,by show 0≤w∧w≤3*D.Ah;omega,fun g=>by rw[hA];exact c3 g,fun g=>by have g:3*D.Ah≤w:=g;omega⟩
  exact⟨by rw[hA];exact a0,by rw[hA];exact p.a1,by rw[hA,c1,c2];omega,fun _=>c1,by show 0≤w∧w≤3*D.Ah;omega,fun _=>by rw[hA];exact c2,fun _=>c1⟩
 have GK: ∀v,(gs M {V with a1:=w} x' (BD m ms T)).GK v↔(gs M V x (BD m ms T)).GK v:=fun v=>by
  show(_∧x'.AL≤_)↔(_∧x.AL≤_);rw[hA];exact Iff.rfl
 have hR: ∀v,(gs M {V with a1:=w} x' (BD m ms T)).R v→(gs M V x (BD m ms T)).R v:=fun v hv=>OM.mono hv fun v k h1=>by
  rcases k with k|k
  ·exact .DX (.inl (by have k:v∈x'.Af:=k;rw[hr] at k;exact k)) h1
  exact .DX (.inr ((GK v).1 k)) h1
 have hR': ∀v,(gs M V x (BD m ms T)).R v→(gs M {V with a1:=w} x' (BD m ms T)).R v:=fun v hv=>OM.mono hv fun v k h1=>by
  rcases k with k|k
  ·exact .DX (.inl (by show v∈x'.Af;rw[hr];exact k)) h1
  exact .DX (.inr ((GK v).2 k)) h1
 have hgm:Gm (gs M V x (BD m ms T)) (gs M {V with a1:=w} x' (BD m ms T)):=⟨hA,fun _ _ _=>rfl,fun v g=>(GK v).2 g,hR',fun _ _=> .inl rfl⟩;have hd:=h.de;have hs:=h.si;refine⟨hco,h.hz,fun t ht=>(GK _).2 (h.tv t ht),fun g=>by rw[hA];exact h.ac g,fun g v hv=>(GK v).2 (h.qm (by rw[hA] at g;exact g) v (hR v hv)),h.wk,by have:=h.wb;show V.w1≤n+1;omega,⟨hd.LK.c0,hd.dn,hd.p0,hd.tn,hd.c1⟩,hpi,fun j hj g=>hgm.sc (fun v hv=>hv.1.1) (h.sc j hj g),⟨hs.h2,hs.k2,hs.p3,hs.z2,hs.z3,hs.ct,hs.no,hs.fu,hs.ds⟩,fun j hj g=>?_⟩;obtain⟨a1,a2,a3,a4,a5,a6,a7,a8,a9⟩:=h.sw j hj g;exact⟨a1,a2,a3,a4,a5,a6,a7,fun k g'=>a8 k ((GK _).1 g'),a9⟩
end
open Go.Proofs.YtmpcfamcbaineaaGreat.Mo
section
variable{V V':Vw}{XT T:List Int}
theorem WI.tN(h:WI M n l D x ms Bc P4 P5 hpm T hps Hs F)(hq:Qu M l l')(hf:Fq M l l')(hmp:yH M l' x' hpm)(hct: ∀t,T'.count t+x.Ar.count t=T.count t+x'.Ar.count t)
  (hcn: ∀v,(JA x').count v+MM M l' v≤(JA x).count v+MM M l v) (hcm:x'.next= .EU→ZX M l' x'.alloc) (hcv:x'.next= .EU→LP x'.alloc.next=true→(1≤x'.alloc.v∧x'.alloc.v≤M.nodes)∧M.Ew x'.alloc.v=Bi x'.alloc.A7)
  (AJ:UI M (n+1) (vw M l') D x' (nm M) ms T'):Lj M (n+1) l' D x' ms:=by
 have hE:=h.eM;have hE':=hq.e1 hE;refine⟨Bc,P4,P5,hpm,T',hps,Hs,F,hq.len.trans h.len,hE'.dq,hE'.F8,h.nd,h.rg,fun j hj=>sZ hq (h.nG j hj),hmp,fun t=>?_,hf.cells h.ce,fun v=>?_,h.cc,fun j hj g1 g2=>⟨hf.cp (h.cs j hj g1 g2).1,(h.cs j hj g1 g2).2⟩,hcm,hcv,AJ⟩
 ·rw[hq.cD hE,hq.cP];have:=h.ct t;have:=hct t;omega
 have:=h.cn v;have:=hcn v;omega
theorem WI.AcD(h:WI M n l D x ms Bc P4 P5 hpm T hps Hs F)(hr:NZ M l l' hpm)(hP:Jp M (n+1) l' QL SX)(XT:List.Perm (QL++SX++hp') (P4++P5++hpm))(hmp:yH M l' x' hp')(hct: ∀t,cP M l' QL t+x'.Ar.count t=cP M l P4 t+x.Ar.count t)
  (h1:x.next≠ .EU) (h2:x'.next= .EU→x'.alloc.next= .DZ∨x'.alloc.next= .nil) (AJ:UI M (n+1) (vw M l) D x' (nm M) ms T):Lj M (n+1) l' D x' ms:=by
 have hE:=h.eM;have hz:QB M l l' (-1) hpm Bc Bc:=QB.F8 hr;have hdis:=hE.r9;have pm: ∀t,QL.count t+SX.count t+hp'.count t=P4.count t+P5.count t+hpm.count t:=fun t=>by
  have:=XT.count_eq t;rw[List.count_append,List.count_append,List.count_append,List.count_append] at this;exact this
 have hf:Fq M l l':=⟨cF hz,cG hz⟩;have hst: ∀v,MM M l' v=MM M l v:=fun v=>by unfold MM;rw[cH hz]
 have hc0:JA x=[]:=if_neg fun g=>h1 g.1
 have hc1:JA x'=[]:=if_neg fun g=>by
  rcases h2 g.1 with e|e<;>(have:=g.2;rw[e] at this;cases this)
 refine⟨Bc,QL,SX,hp',T,hps,Hs,F,hr.len.trans h.len,Ny hr hE.dq,hP,fun t=>?_,fun t ht=>?_,fun j hj=>?_,hmp,fun t=>?_,hf.cells h.ce,fun v=>?_,h.cc,fun j hj g1 g2=>⟨hf.cp (h.cs j hj g1 g2).1,(h.cs j hj g1 g2).2⟩,fun g=>?_,fun g1 g2=>?_,?_⟩
 ·have:=pm t;have:=h.nd t;omega
 ·refine h.rg t ?_;have:=pm t;omega
 ·refine gw h.F8 hz hdis (fun p hp hm=>?_) (by omega) (by unfold nm at hj;omega) (by omega) (h.nG j hj);exact(h.ie hj p hm) hp
 ·rw[S9 hr hE.dq];have:=h.ct t;have:=hct t;omega
 ·rw[hc1,hst];have:=h.cn v;rw[hc0] at this;exact this
 ·unfold ZX;rcases h2 g with e|e<;>rw[e]<;>trivial
 ·rcases h2 g1 with e|e<;>(rw[e] at g2;cases g2)
 rw[Lx hz];exact AJ
theorem WI.AcE(h:WI M n l D x ms Bc P4 P5 hpm T hps Hs F)(hr:QM M l l' [])(hce:LY M (n+1) l' F')(hmp:yH M l' x' hpm)(hct:x'.Ar=x.Ar)(hcn: ∀v,GY 5 (fun k=>(F' k).count v)+(JA x').count v≤GY 5 (fun k=>(F k).count v)+(JA x).count v)
  (hcc: ∀k:Nat,k<5→ ∀v∈F' k,(1≤v∧v≤M.nodes)∧M.Ew v=k) (hcm:x'.next= .EU→ZX M l' x'.alloc) (hcv:x'.next= .EU→LP x'.alloc.next=true→(1≤x'.alloc.v∧x'.alloc.v≤M.nodes)∧M.Ew x'.alloc.v=Bi x'.alloc.A7)
  (AJ:UI M (n+1) (vw M l) D x' (nm M) ms T):Lj M (n+1) l' D x' ms:=by
 have hq:=Td hr;have hE:=h.eM;have hE':=hq.e1 hE;have hst: ∀v,MM M l' v=MM M l v:=fun v=>by unfold MM;rw[show ld l' (M.DK v)=ld l (M.DK v) from hr.ND (.state v) (by simp) (by simp)]
 refine⟨Bc,P4,P5,hpm,T,hps,Hs,F',hq.len.trans h.len,hE'.dq,hE'.F8,h.nd,h.rg,fun j hj=>sZ hq (h.nG j hj),hmp,fun t=>?_,hce,fun v=>?_,hcc,fun j hj g1 g2=>⟨nz hr (by simp) (h.cs j hj g1 g2).1,(h.cs j hj g1 g2).2⟩,hcm,hcv,by rw[VA hr];exact AJ⟩
 ·rw[hq.cD hE,hq.cP,hct];exact h.ct t
 have:=h.cn v;have:=hcn v;rw[hst];omega
def busy(s:cU):Bool:=
 match s with
 | .ES| .Jq _| .Dt .DZ| .Dt .F5| .Dt .BX=>false
 |_=>true
def FK(x:Mu):List I4:=if busy x.next=true then x.op::x.Aq else x.Aq
def Tu(M:Bz)(V V':Vw):Prop:= ∀v,1≤v→v≤M.nodes→V.st v=1→V'.Lh v=V.Lh v∧ ∀j,V'.val v j=V.val v j
theorem Tu.refl:Tu M V V:=fun _ _ _ _=>⟨rfl,fun _=>rfl⟩
def tT(M:Bz)(V V':Vw)(x x':Mu)(e:Ev):Prop:=
 (e.kind=8∧x.op.kind=0∧(x.Af.length:Int)<M.Af∧0≤Bi x.op.a∧e.b=x.op.a∧x'.Af=x.Af++[e.a]∧(1≤e.a∧e.a≤M.nodes)∧V.st e.a≠1∧V'.Lh e.a=x.op.a∧(∀j,V'.val e.a j=0)∧Tu M V V')∨
 (e.kind=9∧x.op.kind=1∧(x.Af.length:Int)<M.Af∧1≤x.root x.op.a∧(0≤x.op.b∧x.op.b<V.Lh (x.root x.op.a))∧e.a=x.op.a∧e.b=x.op.b∧e.c=V.val (x.root x.op.a) x.op.b∧x'.Af=x.Af++[e.c]∧Tu M V V')∨
 (e.kind=10∧x.op.kind=2∧1≤x.root x.op.a∧(0≤x.op.b∧x.op.b<V.Lh (x.root x.op.a))∧0≤x.root x.op.c∧e.a=x.op.a∧e.b=x.op.b∧e.c=x.op.c∧x'.Af=x.Af∧V'.Lh=V.Lh∧(∀v j,V'.val v j=if v=x.root x.op.a∧j=x.op.b then x.root x.op.c else V.val v j))∨
 (e.kind=11∧e.b=0∧x.op.kind=3∧x.Af≠[]∧x'.Af=x.Af.dropLast∧Tu M V V')∨
 (e.kind=12∧e.b=0∧x.op.kind=4∧(x.Af.length:Int)<M.Af∧(0≤x.op.a∧x.op.a<x.Af.length)∧e.a=x.op.a∧x'.Af=x.Af++[x.root x.op.a]∧Tu M V V')∨
 (e.kind=13∧x'.Af=x.Af∧Tu M V V'∧(Mu.Pv M x=e.b∧e.b≠0∨x.op.kind=0∧(x.Af.length:Int)<M.Af∧(Bi x.op.a<0∧e.b=21∨e.b=22∨e.b=23)∨
  (x.op.kind=1∧(x.Af.length:Int)<M.Af∨x.op.kind=2∧0≤x.root x.op.c)∧1≤x.root x.op.a∧ ¬(0≤x.op.b∧x.op.b<V.Lh (x.root x.op.a))∧e.b=21))
def RI(M:Bz)(V V':Vw)(x x':Mu)(e:Ev):Prop:=
 (e.kind=0∨e.kind=1∨e.kind=14)∧x'.Af=x.Af∧FK x'=FK x∧Tu M V V'∨FK x=x.op::FK x'∧tT M V V' x x' e
theorem ix(hk:x.op.kind=0)(h:Mu.Pv M x=0):(x.Af.length:Int)<M.Af:=by
 unfold Mo.Mu.Pv at h;rw[if_pos hk] at h;split at h
 ·omega
 omega
theorem JB(x:Mu):(x.BX M).i=x.i∧(x.BX M).Af=x.Af∧(x.BX M).Ar=x.Ar∧(x.BX M).AL=x.AL∧(x.BX M).still=x.still∧(x.BX M).Bh=x.Bh∧(x.BX M).Ah=x.Ah∧(x.BX M).Ae=x.Ae∧(x.BX M).Bl=x.Bl:=by
 unfold Mo.Mu.BX;split
 ·exact⟨rfl,rfl,rfl,rfl,rfl,rfl,rfl,rfl,rfl⟩
 split
 ·exact⟨rfl,rfl,rfl,rfl,rfl,rfl,rfl,rfl,rfl⟩
 split<;>exact⟨rfl,rfl,rfl,rfl,rfl,rfl,rfl,rfl,rfl⟩
theorem tV(h:0≤x.root a):0≤a∧a<x.Af.length:=by
 unfold Mo.Mu.root at h;split at h<;>omega
theorem VE{g:Gs}(ht:JX M x):O4 M V g D (x.BX M)∧FK (x.BX M)=x.Aq∧IX (x.BX M)=0∧JA (x.BX M)=[]∧(∀l,ZX M l (x.BX M).alloc∨(x.BX M).next≠ .EU)∧ ¬(IE (x.BX M).next=true)∧((x.BX M).next= .EU→(x.BX M).alloc.next= .DZ∨(x.BX M).alloc.next= .nil):=by
 unfold Mo.Mu.BX;split
 ·rename_i ho;exact⟨ht,by unfold FK busy;simp,rfl,rfl,fun _=> .inr (by simp),by simp[IE],fun g=>by cases g⟩
 rename_i o r ho;by_cases hm:Mu.Pv M {x with op:=o,Aq:=r}≠0
 ·rw[if_pos hm];exact⟨⟨ht,rfl,hm⟩,by unfold FK busy;simp[ho],rfl,rfl,fun _=> .inr (by simp),by simp[IE],fun g=>by cases g⟩
 rw[if_neg hm];have hm:Mu.Pv M {x with op:=o,Aq:=r}=0:=by omega
 by_cases hk:o.kind=0
 ·rw[if_pos hk];have hr:=ix (x:={x with op:=o,Aq:=r}) hk hm;refine⟨⟨ht,?_⟩,by unfold FK busy;simp[ho],rfl,?_,fun l=> .inl ?_,by simp[IE],fun _=>?_⟩
  ·by_cases hc:Bi o.a≥0
   ·refine⟨rfl,rfl,hk,hr,?_⟩;simp only[Mo.Hp.new,if_pos hc];exact⟨trivial,trivial,hc⟩
   refine⟨rfl,rfl,hk,hr,?_⟩;simp only[Mo.Hp.new,if_neg hc];exact⟨trivial,by omega⟩
  ·unfold JA;rw[if_neg];rintro⟨-,g⟩;simp only[Mo.Hp.new] at g;split at g<;>cases g
  ·unfold ZX;simp only[Mo.Hp.new];split<;>rename_i e<;>split at e<;>first|trivial|cases e
  simp only[Mo.Hp.new];split
  ·exact .inl rfl
  exact .inr rfl
 rw[if_neg hk];have hmay:=hm;unfold Mo.Mu.Pv at hm;simp only at hm;rw[if_neg hk] at hm;obtain⟨N,hN⟩: ∃N,Mu.first {x with op:=o,Aq:=r}=N:=⟨_,rfl⟩;have hN3:N= .head∨N= .Kq∨N= .NU:=by
  rw[←hN];unfold Mo.Mu.first;simp only;rw[if_neg hk]
  repeat' split
  all_goals simp
 have hmu:O4 M V g D {x with op:=o,Aq:=r,next:=Mu.first {x with op:=o,Aq:=r}}:=by
  unfold Mo.Mu.first;simp only;rw[if_neg hk];by_cases h1:o.kind=1
  ·rw[if_pos h1] at hm⊢
   refine⟨ht,.inl ⟨h1,?_⟩,?_⟩
   ·show(x.Af.length:Int)<M.Af;split at hm
    ·omega
    split at hm<;>omega
   show 1≤Mu.root {x with op:=o,Aq:=r} o.a;split at hm<;>omega
  rw[if_neg h1] at hm⊢
  by_cases h2:o.kind=2
  ·rw[if_pos h2] at hm⊢
   refine⟨ht,.inr ⟨h2,?_⟩,?_⟩
   ·show 0≤Mu.root {x with op:=o,Aq:=r} o.c;split at hm<;>omega
   show 1≤Mu.root {x with op:=o,Aq:=r} o.a;split at hm<;>omega
  rw[if_neg h2] at hm⊢
  by_cases h3:o.kind=3
  ·rw[if_pos h3] at hm⊢
   refine⟨ht,fun e=>?_,h3⟩;have e:x.Af=[]:=e;rw[e] at hm;simp at hm
  rw[if_neg h3] at hm⊢
  by_cases h4:o.kind=4
  ·rw[if_pos h4] at hm;have hrt:0≤Mu.root {x with op:=o,Aq:=r} o.a:=by split at hm<;>omega
   have:=tV hrt;refine⟨ht,this.1,this.2,h4,?_⟩;show(x.Af.length:Int)<M.Af;split at hm
   ·omega
   split at hm<;>omega
  rw[if_neg h4] at hm;omega
 rw[hN] at hmu⊢
 refine⟨hmu,?_,?_,?_,fun _=> .inr ?_,?_,fun g=>?_⟩
 ·unfold FK;rcases hN3 with e|e|e<;>(subst e;simp[busy,ho])
 ·unfold IX;rcases hN3 with e|e|e<;>(subst e;simp[IE])
 ·unfold JA;rcases hN3 with e|e|e<;>(subst e;simp)
 ·rcases hN3 with e|e|e<;>(subst e;simp)
 ·rcases hN3 with e|e|e<;>(subst e;simp[IE])
 rcases hN3 with e|e|e<;>(subst e;cases g)
end
open Go.Proofs.YtmpcfamcbaineaaGreat.Mo
section
variable{V V':Vw}{XT T:List Int}
structure Sm (x x':Mu):Prop where
 i:x'.i=x.i
 Aq:x'.Aq=x.Aq
 op:x'.op=x.op
 Af:x'.Af=x.Af
 Ar:x'.Ar=x.Ar
 AL:x'.AL=x.AL
 Bh:x'.Bh=x.Bh
 Ah:x'.Ah=x.Ah
 Ae:x'.Ae=x.Ae
theorem Sm.trans{y z:Mu}(a:Sm x y)(b:Sm y z):Sm x z:=⟨b.i.trans a.i,b.Aq.trans a.Aq,b.op.trans a.op,b.Af.trans a.Af,b.Ar.trans a.Ar,b.AL.trans a.AL,b.Bh.trans a.Bh,b.Ah.trans a.Ah,b.Ae.trans a.Ae⟩
theorem gZ(hL:La M)(h:JX M x)(hne:x.Ar≠[]){t:yV}: ∀l,yH M l {x with Bl:= .Pq x.Ar,next:= .Dt t} []:=fun l=>by
 refine .inl ⟨rfl,?_,?_⟩
 ·show(if x.Ar=[] then Bb.nil else Bb.F9)=_;exact if_neg hne
 have hb:=hL.bu;unfold JX at h;exact lS hne (by omega)
structure Lk (M:Bz) (V:Vw) (g:Gs) (D:De) (x z:Mu):Prop where
 sm:Sm x z
 mu:O4 M V g D z
 pd:FK z=x.Aq
 wk:IX z=0
 mp: ∀l,yH M l z []
 nm:z.next≠ .EU
theorem LO{g:Gs}(hL:La M)(ht:JX M x)(hw:ZY V D x)(hc:0≤D.Ah∧D.Ah<1000000)(hr: ∀r∈x.Af,Gg g r):Lk M V g D x x.Iw:=by
 unfold Mo.Mu.Iw;split
 ·refine⟨⟨rfl,rfl,rfl,rfl,rfl,rfl,rfl,rfl,rfl⟩,⟨ht,.inr ⟨?_,hw,hr⟩⟩,by simp[FK,busy],rfl,fun l=> .inr ⟨by simp[IE],rfl⟩,by simp⟩;simp only;have:=hw.1;exact IA (by omega)
 rename_i hne;refine⟨⟨rfl,rfl,rfl,rfl,rfl,rfl,rfl,rfl,rfl⟩,⟨hw,hr,?_⟩,by simp[FK,busy],?_,gZ hL ht hne,by simp⟩
 ·show(if x.Ar=[] then Bb.nil else Bb.F9)=_;exact if_neg hne
 unfold IX;rw[if_neg];rintro⟨-,g⟩;have g:(if x.Ar=[] then Bb.nil else Bb.F9)= .BR:=g;rw[if_neg hne] at g;cases g
theorem oz{g:Gs}(hL:La M)(hc:0≤D.Ah∧D.Ah<1000000): ∀(n:Nat) (x:Mu),x.Af.length-x.k=n→x.k≤x.Af.length→JX M x→ZY V D x→g.A=x.Ah→(∀r∈x.Af,0≤r∧r≤M.nodes)→(∀r∈x.Af,1≤r→g.R r)→(∀i:Nat,i<x.k→Gg g (x.Af.getD i 0))→Lk M V g D x (Mu.QV M n x)
 |0,x,hn,hk,ht,hw,hA,hr,hR,hi=>by
  unfold Mo.Mu.QV;refine LO hL ht hw hc fun r hr'=>?_
  obtain⟨i,hi',rfl⟩:=List.mem_iff_getElem.1 hr';have:=hi i (by omega);rw[List.getD_eq_getElem?_getD,List.getElem?_eq_getElem hi'] at this;exact this
 |n+1,x,hn,hk,ht,hw,hA,hr,hR,hi=>by
  have hlt:x.k<x.Af.length:=by omega
  have hmem:x.Af.getD x.k 0∈x.Af:=by
   rw[List.getD_eq_getElem?_getD,List.getElem?_eq_getElem hlt];exact List.getElem_mem hlt
  have hrg:=hr _ hmem;unfold Mo.Mu.QV;by_cases h0:M.CU (x.Af.getD x.k 0)=0
  ·rw[if_pos h0];have hz:x.Af.getD x.k 0=0:=by
    rcases(show x.Af.getD x.k 0=0∨1≤x.Af.getD x.k 0 by omega) with e|e
    ·exact e
    have:=(hL.BM _ e hrg.2).1;omega
   have e1:x.Af.length-(x.k+1)=n:=by omega
   have:=oz hL hc n {x with k:=x.k+1} e1 hlt ht hw hA hr hR (fun i hi'=>by
    have hi':i<x.k+1:=hi';by_cases e:i=x.k
    ·subst e;exact .inl hz
    exact hi i (by omega))
   exact⟨Sm.trans (y:={x with k:=x.k+1}) ⟨rfl,rfl,rfl,rfl,rfl,rfl,rfl,rfl,rfl⟩ this.sm,this.mu,this.pd,this.wk,this.mp,this.nm⟩
  rw[if_neg h0];have h1:1≤x.Af.getD x.k 0:=by
   rcases(show x.Af.getD x.k 0=0∨1≤x.Af.getD x.k 0 by omega) with e|e
   ·exfalso;apply h0;rw[e];unfold Bz.CU;rw[if_pos (.inl (by omega))]
   exact e
  refine⟨⟨rfl,rfl,rfl,rfl,rfl,rfl,rfl,rfl,rfl⟩,⟨hw,by show 1≤x.k+1;omega,hlt,fun i hi'=>hi i (Nat.lt_of_succ_lt_succ hi'),?_⟩,by simp[FK,busy],rfl,fun l=> .inr ⟨by simp[IE,Mo.Bu.Bl],rfl⟩,by simp⟩;show lX M g _ (x.Af.getD (x.k+1-1) 0);rw[show x.k+1-1=x.k by omega];exact⟨rfl,h1,.inl ⟨rfl,ht,⟨rfl,hA.symm,rfl,trivial⟩,hR _ hmem h1⟩⟩
theorem tX{g:Gs}(hL:La M)(hc:0≤D.Ah∧D.Ah<1000000)(x:Mu)(hk:x.k≤x.Af.length)(ht:JX M x)(hw:ZY V D x)(hA:g.A=x.Ah)(hr: ∀r∈x.Af,0≤r∧r≤M.nodes)(hR: ∀r∈x.Af,1≤r→g.R r)(hi: ∀i:Nat,i<x.k→Gg g (x.Af.getD i 0)):
  Lk M V g D x (x.DZ M):=oz hL hc _ x rfl hk ht hw hA hr hR hi
theorem WI.iz(h:WI M n l D x ms Bc P4 P5 hpm T hps Hs F)(h1:x'.Af=x.Af)(h2:x'.AL=x.AL)(h3:x'.Bh=x.Bh)(h4:x'.Ar=x.Ar)(hw:IX x'=IX x)(hmp:yH M l x' hpm)(hc: ∀v,(JA x').count v≤(JA x).count v)(hcm:x'.next= .EU→ZX M l x'.alloc)
  (hcv:x'.next= .EU→LP x'.alloc.next=true→(1≤x'.alloc.v∧x'.alloc.v≤M.nodes)∧M.Ew x'.alloc.v=Bi x'.alloc.A7) (hmu:O4 M (vw M l) (gs M (vw M l) x (BD (nm M) ms T)) D x'):Lj M (n+1) l D x' ms:=by
 refine h.tN .Gn .Gn hmp (T':=T) (fun t=>by rw[h4]) (fun v=>Nat.add_le_add_right (hc v) _) hcm hcv ?_;refine((h.ui.ux.congr h1 h2 h3).LK).ui hw.symm ?_;rw[RH h1 h2 h3];exact hmu
theorem VF{V:Vw}(he:e.kind=0∨e.kind=1∨e.kind=14)(h1:x'.Af=x.Af)(h2:FK x'=FK x):RI M V V x x' e:= .inl ⟨he,h1,h2,.refl⟩
theorem jQ(hL:La M)(hn:n<900000)(h:WI M n l D x ms Bc P4 P5 hpm T hps Hs F)(hx:x.next= .ES):Lj M (n+1) (x.step M l).2 D (x.step M l).1 ms∧RI M (vw M l) (vw M (x.step M l).2) x (x.step M l).1 (x.step M l).1.Ae:=by
 have hmu:=h.ui.mu;unfold O4 at hmu;rw[hx] at hmu;have ht:JX M x:=hmu;have hde:=h.ui.de;have hpi:=h.ui.pi;have hc0:=hde.c0;have hp0:=hde.p0;have hph:=x8 D.Be;have sM:=K4 hde.dn;have hmod:ld l 0 % 8=ph D.Be:=by show(vw M l).w0 % 8=_;omega
 have hdiv:ld l 0/8=D.Ah:=by show(vw M l).w0/8=_;omega
 have hm0:hpm=[]:=by
  rcases h.mp with⟨a,-,-⟩|⟨-,b⟩
  ·rw[hx] at a;simp[IE] at a
  exact b
 have hw0:IX x=0:=by unfold IX;rw[hx];simp[IE]
 have hh0:JA x=[]:=by unfold JA;rw[hx];simp
 have bG:FK x=x.Aq:=by unfold FK;rw[hx];simp[busy]
 have QQ: ∀z:Mu,z.Af=x.Af→z.AL=x.AL→z.Bh=x.Bh→z.Ar=x.Ar→IX z=0→(∀l,yH M l z [])→z.next≠ .EU∨(JA z=[]∧(∀l,ZX M l z.alloc∨z.next≠ .EU)∧(z.next= .EU→z.alloc.next= .DZ∨z.alloc.next= .nil))→O4 M (vw M l) (gs M (vw M l) x (BD (nm M) ms T)) D z→FK z=x.Aq→z.Ae=BH→Lj M (n+1) l D z ms∧RI M (vw M l) (vw M l) x z z.Ae:=fun z z1 z2 z3 z4 z5 z6 z7 z8 z9 z10=>by
  refine⟨h.iz z1 z2 z3 z4 (by rw[z5,hw0]) (by rw[hm0];exact z6 l) (fun v=>?_) (fun g=>?_) (fun g1 g2=>?_) z8,VF (by rw[z10];exact .inl rfl) z1 (by rw[z9,bG])⟩
  ·rcases z7 with k|k
   ·rw[show JA z=[] from if_neg fun g=>k g.1];simp
   rw[k.1];simp
  ·rcases z7 with k|k
   ·exact absurd g k
   rcases k.2.1 l with q|q
   ·exact q
   exact absurd g q
  rcases z7 with k|k
  ·exact absurd g1 k
  rcases k.2.2 g1 with e|e<;>(rw[e] at g2;cases g2)
 have e1:x.step M l=({x with Ae:=BH}:Mu).Au M l:=rfl;rw[e1];unfold Mo.Mu.Au;simp only[hx];rw[hmod,hdiv];by_cases c1:ph D.Be=1∧x.AL≠D.Ah
 ·rw[if_pos c1];have hd:=sM.1 c1.1;have hc1:=hde.c1 (by omega);have ew:Hm (3*D.Ah-2)=3*D.Ah-2:=IA (by omega);rw[ew];obtain⟨X,hX⟩: ∃X:Mu,X={x with Ae:=BH,Ah:=D.Ah,AL:=D.Ah,next:= .Jq (3*D.Ah-2)}:=⟨_,rfl⟩;have Xb:=h.ui.ux.arm (x':=X) hd c1.2 (by rw[hX]) (by rw[hX]) (by rw[hX]);have yO:X.next= .Jq (3*D.Ah-2):=by rw[hX]
  rw[←hX];refine⟨h.tN .Gn .Gn (x':=X) (T':=T) (by rw[hm0];exact .inr ⟨by rw[yO];simp[IE],rfl⟩) (fun t=>by rw[hX]) (fun v=>?_) (fun g=>by rw[yO] at g;cases g) (fun g=>by rw[yO] at g;cases g) (Xb.1.ui ?_ ?_),VF (by rw[hX];exact .inl rfl) (by rw[hX]) ?_⟩
  ·rw[show JA X=[] from if_neg (fun g=>by rw[yO] at g;exact absurd g.1 (by simp)),hh0];exact Nat.le_refl _
  ·rw[hw0];unfold IX;rw[yO];simp[IE]
  ·unfold O4;rw[yO];refine⟨by unfold JX at ht⊢;rw[hX];exact ht,.inl ⟨.inl (by rw[hX]),by rw[hX];exact hc1,by rw[hX];exact Int.le_refl _,fun _=>by rw[hX]⟩⟩
  rw[bG];unfold FK;rw[yO,hX];simp[busy]
 rw[if_neg c1];by_cases c2:ph D.Be=2∧x.still≠D.Ah
 ·rw[if_pos c2];have hd:=sM.2.1 c2.1;have hc1:=hde.c1 (by omega);have ew:Hm (3*D.Ah-1)=3*D.Ah-1:=IA (by omega);rw[ew];exact QQ _ rfl rfl rfl rfl rfl (fun l=> .inr ⟨by simp[IE],rfl⟩) (.inl (by simp)) ⟨ht,.inl ⟨.inr rfl,hc1,Int.le_refl _,fun _=>hpi.a1 (by omega)⟩⟩ (by simp[FK,busy]) rfl
 rw[if_neg c2];by_cases c3:ph D.Be=3∧x.Bh≠D.Ah
 ·rw[if_pos c3];have hd:=sM.2.2.1 c3.1;have hd5:D.Be=5:=by
   rcases hd with e|e
   ·exact e
   exact absurd (hpi.t6 (.inr (by omega))) c3.2
  have hA:x.AL=D.Ah:=hpi.a1 (by omega);have hk:=tX (V:=vw M l) (D:=D) (g:=gs M (vw M l) x (BD (nm M) ms T)) hL (by omega) {x with Ae:=BH,Ah:=D.Ah,k:=0,next:= .ES} (Nat.zero_le _) ht ⟨rfl,hA,hd5,by
   show(vw M l).a1<3*D.Ah;rcases(show(vw M l).a1<3*D.Ah∨3*D.Ah≤(vw M l).a1 by omega) with g|g
   ·exact g
   exact absurd (hpi.k3 g) c3.2⟩ hA h.ui.co.rr (fun r hr h1=> .DX (.inl hr) h1) (fun i hi=>absurd hi (Nat.not_lt_zero _))
  exact QQ _ hk.sm.Af hk.sm.AL hk.sm.Bh hk.sm.Ar hk.wk hk.mp (.inl hk.nm) hk.mu hk.pd hk.sm.Ae
 rw[if_neg c3];split
 ·have hb:=VE (V:=vw M l) (D:=D) (g:=gs M (vw M l) x (BD (nm M) ms T)) (x:={x with Ae:=BH,Ah:=D.Ah,next:= .ES}) ht;have hs:=JB (M:=M) {x with Ae:=BH,Ah:=D.Ah,next:= .ES};exact QQ _ hs.2.1 hs.2.2.2.1 hs.2.2.2.2.2.1 hs.2.2.1 hb.2.2.1 (fun l=> .inr ⟨fun g=>hb.2.2.2.2.2.1 g.1,rfl⟩) (.inr ⟨hb.2.2.2.1,hb.2.2.2.2.1,hb.2.2.2.2.2.2⟩) hb.1 hb.2.1 hs.2.2.2.2.2.2.2.1
 rename_i hne;refine QQ _ rfl rfl rfl rfl ?_ (gZ (x:={x with Ae:=BH,Ah:=D.Ah,next:= .ES}) hL ht hne) (.inl (by simp)) ?_ (by simp[FK,busy]) rfl
 ·unfold IX;rw[if_neg];rintro⟨-,g⟩;have g:(if x.Ar=[] then Bb.nil else Bb.F9)= .BR:=g;rw[if_neg hne] at g;cases g
 show(if x.Ar=[] then Bb.nil else Bb.F9)= .F9;exact if_neg hne
end
open Go.Proofs.YtmpcfamcbaineaaGreat.Mo
section
variable{V V':Vw}{XT T:List Int}
theorem WI.plain(h:WI M n l D x ms Bc P4 P5 hpm T hps Hs F)(h1:IE x.next=false)(h2:x.next≠ .EU):hpm=[]∧IX x=0∧JA x=[]:=by
 refine⟨?_,?_,if_neg fun g=>h2 g.1⟩
 ·rcases h.mp with⟨a,-,-⟩|⟨-,b⟩
  ·rw[h1] at a;cases a
  exact b
 unfold IX;rw[h1];simp
theorem WI.CS(h:WI M n l D x ms Bc P4 P5 hpm T hps Hs F)(h1:IE x.next=false)(h2:x.next≠ .EU)(ht:JX M x){rs:List Int}{e:Ev}(hrs: ∀r∈rs,r=0∨r∈x.Af∨ ∃v j,v∈x.Af∧1≤v∧(vw M l).val v j=r):
  Lj M (n+1) l D {x with Ae:=e,Af:=rs,next:= .ES} ms:=by
 obtain⟨a,b,c⟩:=h.plain h1 h2;refine h.tN .Gn .Gn (x':={x with Ae:=e,Af:=rs,next:= .ES}) (T':=T) (by rw[a];exact .inr ⟨by simp[IE],rfl⟩) (fun t=>rfl) (fun v=>?_) (fun g=>by cases g) (fun g=>by cases g) (UX.ui (k:=0) ?_ rfl ht)
 ·rw[show JA {x with Ae:=e,Af:=rs,next:= .ES}=[] from if_neg (fun g=>absurd g.1 (by simp)),c];exact Nat.le_refl _
 have:=h.ui.ux.Af (x':={x with Ae:=e,Af:=rs,next:= .ES}) (rs:=rs) rfl rfl rfl hrs;rw[b] at this;exact this
theorem RJ(h:0≤x.root a):x.root a∈x.Af∧x.root a=x.Af.getD a.toNat 0:=by
 have:=tV h;have e:x.root a=x.Af.getD a.toNat 0:=by
  unfold Mo.Mu.root;rw[if_neg (by omega)]
 rw[e];refine⟨?_,rfl⟩;rw[List.getD_eq_getElem?_getD,List.getElem?_eq_getElem (by omega)];exact List.getElem_mem _
theorem WI.cL(h:WI M n l D x ms Bc P4 P5 hpm T hps Hs F)(h1:1≤x.root a):(gs M (vw M l) x (BD (nm M) ms T)).R (x.root a):= .DX (.inl (RJ (by omega)).1) h1
theorem wS(h:WI M n l D x ms Bc P4 P5 hpm T hps Hs F)(hx:x.next= .Kq):Lj M (n+1) (x.step M l).2 D (x.step M l).1 ms∧RI M (vw M l) (vw M (x.step M l).2) x (x.step M l).1 (x.step M l).1.Ae:=by
 have hmu:=h.ui.mu;unfold O4 at hmu;rw[hx] at hmu;have e1:x.step M l=({x with Ae:=⟨11,0,0,0,0⟩,Af:=x.Af.dropLast,next:= .ES},l):=by
  show({x with Ae:=BH}:Mu).Au M l=_;unfold Mo.Mu.Au;simp only[hx];rfl
 rw[e1];refine⟨h.CS (by rw[hx];rfl) (by rw[hx];simp) hmu.1 (fun r hr=> .inr (.inl ((List.dropLast_sublist _).subset hr))),.inr ⟨by simp[FK,busy,hx],.inr (.inr (.inr (.inl ⟨rfl,rfl,hmu.2.2,hmu.2.1,rfl,.refl⟩)))⟩⟩
theorem wQ(h:WI M n l D x ms Bc P4 P5 hpm T hps Hs F)(hx:x.next= .NU):Lj M (n+1) (x.step M l).2 D (x.step M l).1 ms∧RI M (vw M l) (vw M (x.step M l).2) x (x.step M l).1 (x.step M l).1.Ae:=by
 have hmu:=h.ui.mu;unfold O4 at hmu;rw[hx] at hmu;obtain⟨ht,h0,h1,h4,h5⟩:=hmu;have er:x.root x.op.a=x.Af.getD x.op.a.toNat 0:=by unfold Mo.Mu.root;rw[if_neg (by omega)]
 have hm:x.Af.getD x.op.a.toNat 0∈x.Af:=by
  rw[List.getD_eq_getElem?_getD,List.getElem?_eq_getElem (by omega)];exact List.getElem_mem _
 have e1:x.step M l=({x with Ae:=⟨12,0,x.op.a,0,0⟩,Af:=x.Af++[x.root x.op.a],next:= .ES},l):=by
  show({x with Ae:=BH}:Mu).Au M l=_;unfold Mo.Mu.Au;simp only[hx];rw[er];rfl
 rw[e1];refine⟨h.CS (by rw[hx];rfl) (by rw[hx];simp) ht (fun r hr=> .inr (.inl ?_)),.inr ⟨by simp[FK,busy,hx],.inr (.inr (.inr (.inr (.inl ⟨rfl,rfl,h4,h5,⟨h0,h1⟩,rfl,rfl,.refl⟩))))⟩⟩;rcases List.mem_append.1 hr with k|k
 ·exact k
 rw[List.mem_singleton.1 k,er];exact hm
theorem WI.cM(h:WI M n l D x ms Bc P4 P5 hpm T hps Hs F)(h1:IE x.next=false)(h2:x.next≠ .EU)(ht:JX M x)(e:Int)(he:x.step M l=({x with Ae:=⟨13,0,x.op.kind,e,0⟩,Af:=x.Af,next:= .ES},l))(hb:busy x.next=true)
  (hop:(Mu.Pv M x=e∧e≠0∨x.op.kind=0∧(x.Af.length:Int)<M.Af∧(Bi x.op.a<0∧e=21∨e=22∨e=23)∨
  (x.op.kind=1∧(x.Af.length:Int)<M.Af∨x.op.kind=2∧0≤x.root x.op.c)∧1≤x.root x.op.a∧ ¬(0≤x.op.b∧x.op.b<(vw M l).Lh (x.root x.op.a))∧e=21)):
  Lj M (n+1) (x.step M l).2 D (x.step M l).1 ms∧RI M (vw M l) (vw M (x.step M l).2) x (x.step M l).1 (x.step M l).1.Ae:=by
 rw[he];refine⟨h.CS h1 h2 ht (fun r hr=> .inr (.inl hr)),.inr ⟨by unfold FK;rw[if_pos hb];simp[busy],.inr (.inr (.inr (.inr (.inr ⟨rfl,rfl,.refl,hop⟩))))⟩⟩
theorem jV{e:Int}(h:WI M n l D x ms Bc P4 P5 hpm T hps Hs F)(hx:x.next= .fail e):Lj M (n+1) (x.step M l).2 D (x.step M l).1 ms∧RI M (vw M l) (vw M (x.step M l).2) x (x.step M l).1 (x.step M l).1.Ae:=by
 have hmu:=h.ui.mu;unfold O4 at hmu;rw[hx] at hmu;have e1:x.step M l=({x with Ae:=⟨13,0,x.op.kind,e,0⟩,Af:=x.Af,next:= .ES},l):=by
  show({x with Ae:=BH}:Mu).Au M l=_;unfold Mo.Mu.Au;simp only[hx];rfl
 exact h.cM (by rw[hx];rfl) (by rw[hx];simp) hmu.1 e e1 (by rw[hx];rfl) (.inl hmu.2)
theorem WI.yL(h:WI M n l D x ms Bc P4 P5 hpm T hps Hs F)(h1:IE x.next=false)(h2:x.next≠ .EU)(hb:busy x.next=true)(he:x.step M l=(x',l))(hs:Sm x x'∨Sm {x with Ae:=BH} x')(hn:x'.next≠ .EU)(hb':busy x'.next=true)(hev:x'.Ae=BH)(hw:IX x'=0)(hmp:yH M l x' [])(hmu:O4 M (vw M l) (gs M (vw M l) x (BD (nm M) ms T)) D x'):
  Lj M (n+1) (x.step M l).2 D (x.step M l).1 ms∧RI M (vw M l) (vw M (x.step M l).2) x (x.step M l).1 (x.step M l).1.Ae:=by
 obtain⟨a,b,c⟩:=h.plain h1 h2;have hs:x'.Af=x.Af∧x'.AL=x.AL∧x'.Bh=x.Bh∧x'.Ar=x.Ar∧x'.op=x.op∧x'.Aq=x.Aq:=by
  rcases hs with k|k
  ·exact⟨k.Af,k.AL,k.Bh,k.Ar,k.op,k.Aq⟩
  exact⟨k.Af,k.AL,k.Bh,k.Ar,k.op,k.Aq⟩
 rw[he];refine⟨h.iz hs.1 hs.2.1 hs.2.2.1 hs.2.2.2.1 (by rw[hw,b]) (by rw[a];exact hmp) (fun v=>?_) (fun g=>absurd g hn) (fun g=>absurd g hn) hmu,VF (by rw[hev];exact .inl rfl) hs.1 ?_⟩
 ·rw[show JA x'=[] from if_neg fun g=>hn g.1];simp
 unfold FK;rw[if_pos hb,if_pos hb',hs.2.2.2.2.1,hs.2.2.2.2.2]
theorem jR(h:WI M n l D x ms Bc P4 P5 hpm T hps Hs F)(hx:x.next= .head):Lj M (n+1) (x.step M l).2 D (x.step M l).1 ms∧RI M (vw M l) (vw M (x.step M l).2) x (x.step M l).1 (x.step M l).1.Ae:=by
 have hmu:=h.ui.mu;unfold O4 at hmu;rw[hx] at hmu;obtain⟨ht,hk,hr⟩:=hmu;by_cases hb:x.op.b<0∨x.op.b≥(vw M l).Lh (x.root x.op.a)
 ·have e1:x.step M l=({x with Ae:=⟨13,0,x.op.kind,21,0⟩,Af:=x.Af,next:= .ES},l):=by
   show({x with Ae:=BH}:Mu).Au M l=_;unfold Mo.Mu.Au;simp only[hx];exact if_pos hb
  exact h.cM (by rw[hx];rfl) (by rw[hx];simp) ht 21 e1 (by rw[hx];rfl) (.inr (.inr ⟨hk,hr,by omega,rfl⟩))
 have e1:x.step M l=({x with Ae:=BH,next:=if x.op.kind=2 then .old else .G5},l):=by
  show({x with Ae:=BH}:Mu).Au M l=_;unfold Mo.Mu.Au;simp only[hx];exact if_neg hb
 rcases hk with⟨k1,k2⟩|⟨k1,k2⟩
 ·rw[if_neg (by omega)] at e1;exact h.yL (by rw[hx];rfl) (by rw[hx];simp) (by rw[hx];rfl) e1 (.inr ⟨rfl,rfl,rfl,rfl,rfl,rfl,rfl,rfl,rfl⟩) (by simp) rfl rfl rfl (.inr ⟨by simp[IE],rfl⟩) ⟨ht,hr,by show 0≤x.op.b;omega,by show x.op.b<(vw M l).Lh (x.root x.op.a);omega,k1,k2⟩
 rw[if_pos k1] at e1;exact h.yL (by rw[hx];rfl) (by rw[hx];simp) (by rw[hx];rfl) e1 (.inr ⟨rfl,rfl,rfl,rfl,rfl,rfl,rfl,rfl,rfl⟩) (by simp) rfl rfl rfl (.inr ⟨by simp[IE],rfl⟩) ⟨ht,hr,by show 0≤x.op.b;omega,by show x.op.b<(vw M l).Lh (x.root x.op.a);omega,k2,k1⟩
theorem aC(h:w≤M.nodes):M.KC w=w:=if_neg (by omega)
theorem jS(h:WI M n l D x ms Bc P4 P5 hpm T hps Hs F)(hx:x.next= .G5):Lj M (n+1) (x.step M l).2 D (x.step M l).1 ms∧RI M (vw M l) (vw M (x.step M l).2) x (x.step M l).1 (x.step M l).1.Ae:=by
 have hmu:=h.ui.mu;unfold O4 at hmu;rw[hx] at hmu;obtain⟨ht,hr,h0,h1,h2,h3⟩:=hmu;have hv:=(h.ui.co.vr (x.root x.op.a) x.op.b).2;have e1:x.step M l=({x with Ae:=⟨9,0,x.op.a,x.op.b,(vw M l).val (x.root x.op.a) x.op.b⟩,Af:=x.Af++[(vw M l).val (x.root x.op.a) x.op.b],next:= .ES},l):=by
  show({x with Ae:=BH}:Mu).Au M l=_;unfold Mo.Mu.Au;simp only[hx];rw[show M.KC (ld l (M.H8 (Mu.root {x with Ae:=BH,next:= .G5} x.op.a) x.op.b))=(vw M l).val (x.root x.op.a) x.op.b from aC hv];rfl
 rw[e1];refine⟨h.CS (by rw[hx];rfl) (by rw[hx];simp) ht (fun r hr'=>?_),.inr ⟨by simp[FK,busy,hx],.inr (.inl ⟨rfl,h2,h3,hr,⟨h0,h1⟩,rfl,rfl,rfl,rfl,.refl⟩)⟩⟩;rcases List.mem_append.1 hr' with k|k
 ·exact .inr (.inl k)
 exact .inr (.inr ⟨_,_,(RJ (by omega)).1,hr,(List.mem_singleton.1 k).symm⟩)
theorem mD(hL:La M){u:Int}(h0:0≤u)(h1:u≤M.nodes):M.CU u=0↔u=0:=by
 constructor
 ·intro g;rcases(show u=0∨1≤u by omega) with e|e
  ·exact e
  have:=(hL.BM u e h1).1;omega
 rintro rfl;unfold Bz.CU;rw[if_pos (.inl (by omega))]
theorem iC{g:Gs}(hL:La M)(x:Mu)(ht:JX M x)(ho:nD V x)(hold:Gg g (V.val (x.root x.op.a) x.op.b))(hA:g.A=x.AL)(hr: ∀r∈x.Af,0≤r∧r≤M.nodes)(hR: ∀r∈x.Af,1≤r→g.R r):
  Sm x (x.DN M)∧O4 M V g D (x.DN M)∧busy (x.DN M).next=true∧IX (x.DN M)=0∧(∀l,yH M l (x.DN M) [])∧(x.DN M).next≠ .EU:=by
 have hm:=RJ ho.2.2.2.1;have hrg:=hr _ hm.1;unfold Mo.Mu.DN;by_cases h0:M.CU (x.root x.op.c)=0
 ·rw[if_pos h0];exact⟨⟨rfl,rfl,rfl,rfl,rfl,rfl,rfl,rfl,rfl⟩,⟨ht,ho,hold,.inl ((mD hL hrg.1 hrg.2).1 h0)⟩,rfl,rfl,fun l=> .inr ⟨by simp[IE],rfl⟩,by simp⟩
 rw[if_neg h0];have h1:1≤x.root x.op.c:=by
  have:x.root x.op.c≠0:=fun e=>h0 ((mD hL hrg.1 hrg.2).2 e)
  omega
 refine⟨⟨rfl,rfl,rfl,rfl,rfl,rfl,rfl,rfl,rfl⟩,⟨ho,hold,rfl,h1,.inl ⟨rfl,ht,⟨rfl,hA.symm,rfl,trivial⟩,hR _ hm.1 h1⟩⟩,rfl,rfl,fun l=> .inr ⟨by simp[IE,Mo.Bu.Bl],rfl⟩,by simp⟩
theorem wP(hL:La M)(h:WI M n l D x ms Bc P4 P5 hpm T hps Hs F)(hx:x.next= .old):Lj M (n+1) (x.step M l).2 D (x.step M l).1 ms∧RI M (vw M l) (vw M (x.step M l).2) x (x.step M l).1 (x.step M l).1.Ae:=by
 have hmu:=h.ui.mu;unfold O4 at hmu;rw[hx] at hmu;obtain⟨ht,ho⟩:=hmu;have hv:=h.ui.co.vr (x.root x.op.a) x.op.b;have hv:0≤(vw M l).val (x.root x.op.a) x.op.b∧(vw M l).val (x.root x.op.a) x.op.b≤M.nodes:=hv;have e0:M.KC (ld l (M.H8 (Mu.root {x with Ae:=BH,next:= .old} x.op.a) x.op.b))=(vw M l).val (x.root x.op.a) x.op.b:=aC hv.2;by_cases h0:M.CU ((vw M l).val (x.root x.op.a) x.op.b)=0
 ·have e1:x.step M l=(Mu.DN M {x with Ae:=BH,next:= .old},l):=by
   show({x with Ae:=BH}:Mu).Au M l=_;unfold Mo.Mu.Au;simp only[hx];rw[e0];exact if_pos h0
  have hln:=iC (V:=vw M l) (D:=D) (g:=gs M (vw M l) x (BD (nm M) ms T)) hL {x with Ae:=BH,next:= .old} ht ho (.inl ((mD hL hv.1 hv.2).1 h0)) rfl h.ui.co.rr (fun r hr h1=> .DX (.inl hr) h1);exact h.yL (by rw[hx];rfl) (by rw[hx];simp) (by rw[hx];rfl) e1 (.inr (Sm.trans (y:={x with Ae:=BH,next:= .old}) ⟨rfl,rfl,rfl,rfl,rfl,rfl,rfl,rfl,rfl⟩ hln.1)) hln.2.2.2.2.2 hln.2.2.1 hln.1.Ae hln.2.2.2.1 (hln.2.2.2.2.1 l) hln.2.1
 have h1:1≤(vw M l).val (x.root x.op.a) x.op.b:=by
  have:(vw M l).val (x.root x.op.a) x.op.b≠0:=fun e=>h0 ((mD hL hv.1 hv.2).2 e)
  omega
 have e1:x.step M l=({x with Ae:=BH,Bl:= .Bl ((vw M l).val (x.root x.op.a) x.op.b) x.AL,next:= .Dt .DN},l):=by
  show({x with Ae:=BH}:Mu).Au M l=_;unfold Mo.Mu.Au;simp only[hx];rw[e0];exact if_neg h0
 exact h.yL (by rw[hx];rfl) (by rw[hx];simp) (by rw[hx];rfl) e1 (.inr ⟨rfl,rfl,rfl,rfl,rfl,rfl,rfl,rfl,rfl⟩) (by simp) rfl rfl rfl (.inr ⟨by simp[IE,Mo.Bu.Bl],rfl⟩) ⟨ho,rfl,h1,.inl ⟨rfl,ht,⟨rfl,rfl,rfl,trivial⟩,.step (h.cL ho.1) h1⟩⟩
theorem Zq(hL:La M)(h:WI M n l D x ms Bc P4 P5 hpm T hps Hs F)(hx:x.next= .Es):Lj M (n+1) (x.step M l).2 D (x.step M l).1 ms∧RI M (vw M l) (vw M (x.step M l).2) x (x.step M l).1 (x.step M l).1.Ae:=by
 have hmu:=h.ui.mu;unfold O4 at hmu;rw[hx] at hmu;obtain⟨ht,ho,h1,h2⟩:=hmu;obtain⟨a,b,c⟩:=h.plain (by rw[hx];rfl) (by rw[hx];simp);have hal:=h.ui.co.ra _ (h.cL ho.1);have hz:=h.ui.hz _ hal.1.1 hal.1.2 hal.2;have hb:0≤x.op.b∧x.op.b<M.CU (x.root x.op.a):=⟨ho.2.1,by have:=ho.2.2.1;have:=hz.2.1;omega⟩;have e1:x.step M l=({x with Ae:=⟨10,0,x.op.a,x.op.b,x.op.c⟩,next:= .ES},put l (M.H8 (x.root x.op.a) x.op.b) (x.root x.op.c)):=by
  show({x with Ae:=BH}:Mu).Au M l=_;unfold Mo.Mu.Au;simp only[hx];rfl
 rw[e1];obtain⟨hq,hf⟩:=LZ (l:=l) (v:=x.root x.op.c) hL (q:= .En (x.root x.op.a) x.op.b) (by simp);have hvw:=og (l:=l) (v:=x.root x.op.c) hL h.len hal.1 hb.1 hb.2;have Xb:=h.ui.ux.Es (y:=x.root x.op.a) (s:=x.op.b) (nv:=x.root x.op.c) (by
  have:=(RJ ho.2.2.2.1).1;exact .inr this) h2 h1 ⟨ho.2.1,ho.2.2.1⟩
 refine⟨h.tN hq hf (x':={x with Ae:=⟨10,0,x.op.a,x.op.b,x.op.c⟩,next:= .ES}) (T':=T) (by rw[a];exact .inr ⟨by simp[IE],rfl⟩) (fun t=>rfl) (fun v=>?_) (fun g=>by cases g) (fun g=>by cases g) ?_,.inr ⟨by simp[FK,busy,hx],.inr (.inr (.inl ⟨rfl,ho.2.2.2.2,ho.1,⟨ho.2.1,ho.2.2.1⟩,ho.2.2.2.1,rfl,rfl,rfl,rfl,?_,fun v j=>?_⟩))⟩⟩
 ·rw[show JA {x with Ae:=⟨10,0,x.op.a,x.op.b,x.op.c⟩,next:= .ES}=[] from if_neg (fun g=>absurd g.1 (by simp)),c,show MM M (put l (M.H8 (x.root x.op.a) x.op.b) (x.root x.op.c)) v=MM M l v from Iq hL (q:= .En (x.root x.op.a) x.op.b) (by simp)];exact Nat.le_refl _
 ·rw[hvw];rw[b] at Xb;exact(Xb.congr (x':={x with Ae:=⟨10,0,x.op.a,x.op.b,x.op.c⟩,next:= .ES}) rfl rfl rfl).ui rfl ht
 ·rw[hvw]
 rw[hvw]
theorem wR(hL:La M)(hn:n<900000)(hi:x.i=0)(h:WI M n l D x ms Bc P4 P5 hpm T hps Hs F)(hx:x.next= .Jq w):Lj M (n+1) (x.step M l).2 D (x.step M l).1 ms∧RI M (vw M l) (vw M (x.step M l).2) x (x.step M l).1 (x.step M l).1.Ae:=by
 have hmu:=h.ui.mu;unfold O4 at hmu;rw[hx] at hmu;obtain⟨ht,hk⟩:=hmu;obtain⟨a,b,c⟩:=h.plain (by rw[hx];rfl) (by rw[hx];simp);have hc0:=h.ui.de.c0;obtain⟨Y,hY⟩: ∃Y:Mu,Y={x with Bh:=if w=Hm (3*x.Ah) then x.Ah else x.Bh,Ae:=⟨14,0,if w<9223372036854775808 then w else w-18446744073709551616,0,0⟩}:=⟨_,rfl⟩;have e1:x.step M l=(Y.BX M,put l (M.O8 0) w):=by
  rw[hY];show({x with Ae:=BH}:Mu).Au M l=_;unfold Mo.Mu.Au;simp only[hx];rw[hi]
 have y1:Y.Af=x.Af:=by rw[hY]
 have y2:Y.AL=x.AL:=by rw[hY]
 have y3:Y.Ar=x.Ar:=by rw[hY]
 have y4:Y.Aq=x.Aq:=by rw[hY]
 have y5:Y.Ae.kind=14:=by rw[hY]
 have y6:Y.Bh=if w=Hm (3*x.Ah) then x.Ah else x.Bh:=by rw[hY]
 have hb:=VE (V:=vw M (put l (M.O8 0) w)) (D:=D) (g:=gs M (vw M (put l (M.O8 0) w)) (Y.BX M) (BD (nm M) ms T)) (x:=Y) (by unfold JX at ht⊢;rw[y3];exact ht);have hs:=JB (M:=M) Y;obtain⟨hq,hf⟩:=LZ (l:=l) (v:=w) hL (q:= .Jq 0) (by simp);have hvw:=sE (l:=l) (v:=w) hL h.len;rw[e1];have Xb:=h.ui.ux.Jq (x':=Y.BX M) (w:=w) (hs.2.1.trans y1) (hs.2.2.2.1.trans y2) (by rcases hk with k|k;omega;have:=k.2.1.1;omega) (by
  rw[hs.2.2.2.2.2.1,y6];rcases hk with⟨k1,k2,k3,k4⟩|⟨k1,k2,k3⟩
  ·rw[if_neg (by rw[IA (by omega)];omega)];exact .inl ⟨rfl,by omega,fun g=>k4 (by omega)⟩
  have:=k2.1;rw[if_pos (by rw[IA (by omega)];exact k1)];exact .inr ⟨k2.1,k2.2.1,by omega,k3⟩)
 refine⟨h.tN hq hf (x':=Y.BX M) (T':=T) (by rw[a];exact .inr ⟨fun g=>hb.2.2.2.2.2.1 g.1,rfl⟩) (fun t=>by rw[hs.2.2.1,y3]) (fun v=>?_) (fun g=>?_) (fun g1 g2=>?_) ?_,.inl ⟨by rw[hs.2.2.2.2.2.2.2.1,y5];exact .inr (.inr rfl),hs.2.1.trans y1,by rw[hb.2.1,y4];unfold FK;rw[hx];simp[busy],fun v _ _ _=>?_⟩⟩
 ·have hst:MM M (put l (M.O8 0) w) v=MM M l v:=Iq hL (q:= .Jq 0) (by simp);rw[hb.2.2.2.1,c,hst];exact Nat.le_refl _
 ·rcases hb.2.2.2.2.1 (put l (M.O8 0) w) with q|q
  ·exact q
  exact absurd g q
 ·rcases hb.2.2.2.2.2.2 g1 with e|e<;>(rw[e] at g2;cases g2)
 ·rw[b] at Xb;have hm:=hb.1;rw[hvw] at hm⊢
  exact Xb.ui hb.2.2.1.symm hm
 rw[hvw];exact⟨rfl,fun _=>rfl⟩
end
open Go.Proofs.YtmpcfamcbaineaaGreat.Mo
section
variable{V V':Vw}{XT T:List Int}
def Rms(M:Bz):Prop:= ∀v,1≤v→v≤M.nodes→M.CU v=FM (M.Ew v)
theorem AR{s:Int}(h:0≤Bi s):0≤s∧s≤FM (Bi s):=by
 unfold Bi at h⊢
 by_cases h0:s<0
 ·rw[if_pos h0] at h;omega
 rw[if_neg h0] at h⊢
 by_cases h1:s≤1
 ·rw[if_pos h1];exact⟨by omega,by show s≤1;omega⟩
 rw[if_neg h1] at h⊢
 by_cases h2:s≤2
 ·rw[if_pos h2];exact⟨by omega,by show s≤2;omega⟩
 rw[if_neg h2] at h⊢
 by_cases h3:s≤4
 ·rw[if_pos h3];exact⟨by omega,by show s≤4;omega⟩
 rw[if_neg h3] at h⊢
 by_cases h4:s≤8
 ·rw[if_pos h4];exact⟨by omega,by show s≤8;omega⟩
 rw[if_neg h4] at h⊢
 by_cases h5:s≤16
 ·rw[if_pos h5];exact⟨by omega,by show s≤16;omega⟩
 rw[if_neg h5] at h;omega
theorem Vi(s:Int):Bi s<5:=by unfold Bi;repeat' split<;>omega
theorem WI.LR(h:WI M n l D x ms Bc P4 P5 hpm T hps Hs F)(hx:x.next= .EU)(hr:QM M l l' [])(hce:LY M (n+1) l' F')(hcn: ∀v,GY 5 (fun k=>(F' k).count v)+(JA x').count v≤GY 5 (fun k=>(F k).count v)+(JA x).count v)
  (hcc: ∀k:Nat,k<5→ ∀v∈F' k,(1≤v∧v≤M.nodes)∧M.Ew v=k) (h1:x'.Af=x.Af) (h2:x'.AL=x.AL) (h3:x'.Bh=x.Bh) (h4:x'.Ar=x.Ar) (h5:IE x'.next=false) (hcm:x'.next= .EU→ZX M l' x'.alloc)
  (hcv:x'.next= .EU→LP x'.alloc.next=true→(1≤x'.alloc.v∧x'.alloc.v≤M.nodes)∧M.Ew x'.alloc.v=Bi x'.alloc.A7) (hmu:O4 M (vw M l) (gs M (vw M l) x (BD (nm M) ms T)) D x'):Lj M (n+1) l' D x' ms:=by
 have w0: ∀z:Mu,IE z.next=false→IX z=0:=fun z g=>by unfold IX;rw[g];simp
 have hp:hpm=[]:=by
  rcases h.mp with⟨a,-,-⟩|⟨-,b⟩
  ·rw[hx] at a;cases a
  exact b
 refine h.AcE hr hce (.inr ⟨fun g=>by rw[h5] at g;exact absurd g.1 (by simp),hp⟩) h4 hcn hcc hcm hcv ?_;refine((h.ui.ux.congr h1 h2 h3).LK).ui ?_ ?_
 ·rw[w0 x (by rw[hx];rfl),w0 x' h5]
 rw[RH h1 h2 h3];exact hmu
theorem WI.LS(hL:La M)(h:WI M n l D x ms Bc P4 P5 hpm T hps Hs F)(hx:x.next= .EU)(hal:LP x.alloc.next=true)(hqq:(∃j,q= .En x.alloc.v j)∨q= .mark x.alloc.v∨q= .Ea x.alloc.v){A:Hp}
  (he:x.step M l=({x with Ae:=BH,alloc:=A},put l (ad M q) w)) (hv:A.v=x.alloc.v) (hs:A.A7=x.alloc.A7) (hn:LP A.next=true) (Xb:UX M (n+1) (vw M (put l (ad M q) w)) D x (nm M) ms T 0) (hps:hpS M (vw M (put l (ad M q) w)) {x with Ae:=BH,alloc:=A})
  (hk:Tu M (vw M l) (vw M (put l (ad M q) w))):Lj M (n+1) (x.step M l).2 D (x.step M l).1 ms∧RI M (vw M l) (vw M (x.step M l).2) x (x.step M l).1 (x.step M l).1.Ae:=by
 have hmu:=h.ui.mu;unfold O4 at hmu;rw[hx] at hmu;have hp:hpm=[]:=by
  rcases h.mp with⟨a,-,-⟩|⟨-,b⟩
  ·rw[hx] at a;cases a
  exact b
 rw[he];obtain⟨hq,hf⟩:=LZ (l:=l) (v:=w) hL (q:=q) (by rcases hqq with⟨j,rfl⟩|rfl|rfl<;>simp);have hst: ∀a,MM M (put l (ad M q) w) a=MM M l a:=fun a=>Iq hL (by rcases hqq with⟨j,rfl⟩|rfl|rfl<;>simp)
 have hA:({x with Ae:=BH,alloc:=A}:Mu).next= .EU:=hx;refine⟨h.tN hq hf (x':={x with Ae:=BH,alloc:=A}) (T':=T) (by rw[hp];exact .inr ⟨fun g=>by rw[hA] at g;exact absurd g.1 (by simp[IE]),rfl⟩) (fun t=>rfl) (fun v=>?_) (fun _=>?_) (fun _ _=>?_) ((Xb.congr (x':={x with Ae:=BH,alloc:=A}) rfl rfl rfl).ui ?_ ?_),.inl ⟨.inl rfl,rfl,rfl,hk⟩⟩
 ·rw[show JA {x with Ae:=BH,alloc:=A}=[A.v] from if_pos ⟨hx,hn⟩,show JA x=[x.alloc.v] from if_pos ⟨hx,hal⟩,hv,hst];exact Nat.le_refl _
 ·unfold ZX;show(match A.next with| .Ot=>_| .swap=>_|_=>True);cases e:A.next<;>rw[e] at hn<;>first|trivial|cases hn
 ·have:=h.cv hx hal;show(1≤A.v∧A.v≤M.nodes)∧M.Ew A.v=Bi A.A7;rw[hv,hs];exact this
 ·unfold IX;rw[hA];simp[IE]
 unfold O4;rw[hA];exact⟨hmu.1,hps⟩
theorem tY{i:Int}:LP (Hp.rest M i v)=true:=by unfold Mo.Hp.rest;split<;>rfl
theorem jW(hL:La M)(hC:x9 M)(hR:Rms M)(hn:n<900000)(h:WI M n l D x ms Bc P4 P5 hpm T hps Hs F)(hx:x.next= .EU):Lj M (n+1) (x.step M l).2 D (x.step M l).1 ms∧RI M (vw M l) (vw M (x.step M l).2) x (x.step M l).1 (x.step M l).1.Ae:=by
 have hmu:=h.ui.mu;unfold O4 at hmu;rw[hx] at hmu;obtain⟨ht,hs1,hs2,hs3,hs4,hs5⟩:=hmu;have hwk:IX x=0:=by unfold IX;rw[hx];simp[IE]
 have Xb:=h.ui.ux;rw[hwk] at Xb;obtain⟨Y,hY⟩: ∃Y:Hp,Y={x.alloc with Ae:=BH}:=⟨_,rfl⟩;have est:x.step M l=if(Y.Au M l).1.next= .nil then
   if(Y.Au M l).1.e≠0 then({x with Ae:=⟨13,0,x.op.kind,(Y.Au M l).1.e,0⟩,alloc:=(Y.Au M l).1,next:= .ES},(Y.Au M l).2)
   else({x with Ae:=(Y.Au M l).1.Ae,alloc:=(Y.Au M l).1,Af:=x.Af++[(Y.Au M l).1.node],next:= .ES},(Y.Au M l).2)
  else({x with Ae:=BH,alloc:=(Y.Au M l).1},(Y.Au M l).2):=by
  rw[hY];show({x with Ae:=BH}:Mu).Au M l=_;unfold Mo.Mu.Au;simp only[hx];rfl
 have ya:Y.A7=x.alloc.A7∧Y.mark=x.alloc.mark∧Y.h=x.alloc.h∧Y.Cf=x.alloc.Cf∧Y.v=x.alloc.v∧Y.i=x.alloc.i∧Y.e=x.alloc.e∧Y.next=x.alloc.next∧Y.Ae=BH:=by rw[hY];exact⟨rfl,rfl,rfl,rfl,rfl,rfl,rfl,rfl,rfl⟩
 obtain⟨y1,y2,y3,y4,y5,y6,y7,y8,y9⟩:=ya;have bG:FK x=x.op::x.Aq:=by unfold FK;rw[hx];rfl
 have cQ: ∀(A:Hp) (l2:Dk) (F2:Nat→List Int),QM M l l2 []→LY M (n+1) l2 F2→F2=F→(Bi x.op.a<0∧A.e=21∨A.e=22∨A.e=23)→
   Lj M (n+1) l2 D {x with Ae:=⟨13,0,x.op.kind,A.e,0⟩,alloc:=A,next:= .ES} ms∧RI M (vw M l) (vw M l2) x {x with Ae:=⟨13,0,x.op.kind,A.e,0⟩,alloc:=A,next:= .ES} ⟨13,0,x.op.kind,A.e,0⟩:=fun A l2 F2 hr hc hF hA=>by
  subst hF;refine⟨h.LR hx hr hc (x':={x with Ae:=⟨13,0,x.op.kind,A.e,0⟩,alloc:=A,next:= .ES}) (fun v=>?_) h.cc rfl rfl rfl rfl rfl (fun g=>by cases g) (fun g=>by cases g) ht,.inr ⟨by rw[bG];rfl,.inr (.inr (.inr (.inr (.inr ⟨rfl,rfl,by rw[VA hr];exact .refl,.inr (.inl ⟨hs3,hs4,hA⟩)⟩))))⟩⟩;rw[show JA {x with Ae:=⟨13,0,x.op.kind,A.e,0⟩,alloc:=A,next:= .ES}=[] from if_neg fun g=>absurd g.1 (by simp)];simp
 cases hal:x.alloc.next
 case nil=>
  rw[hal] at hs5 y8;have e1:Y.Au M l=(Y,l):=by unfold Mo.Hp.Au;rw[y8]
  rw[est,e1,if_pos y8,if_pos (by show Y.e≠0;rw[y7,hs5.1];decide)];exact cQ Y l F .refl h.ce.LK rfl (.inl ⟨hs5.2,by rw[y7];exact hs5.1⟩)
 case Ea=>
  rw[hal] at hs5 y8;have hh:LP x.alloc.next=true:=by rw[hal];rfl
  obtain⟨hv,hcl⟩:=h.cv hx hh;have dB:=h.aB hx hh;have e1:Y.Au M l=({Y with next:=Hp.rest M Y.i Y.v},put l (M.D7 Y.v) Y.A7):=by unfold Mo.Hp.Au;rw[y8]
  have hrs:Hp.rest M Y.i Y.v= .En:=by
   unfold Mo.Hp.rest;rw[y6,y5,hs5.1,if_pos (by have:=(hL.BM _ hv.1 hv.2).1;omega)]
  have e2:x.step M l=({x with Ae:=BH,alloc:={Y with next:= .En}},put l (ad M (.Ea x.alloc.v)) x.alloc.A7):=by
   rw[est,e1,hrs,if_neg (by simp),y5,y1];rfl
  have hvw:=AK (l:=l) (v:=x.alloc.A7) hL h.len hv;refine h.LS hL hx hh (q:= .Ea x.alloc.v) (.inr (.inr rfl)) e2 y5 y1 rfl ?_ ?_ ?_
  ·rw[show vw M (put l (ad M (.Ea x.alloc.v)) x.alloc.A7)=_ from hvw];exact Xb.raw (w:=x.alloc.v) (val':=(vw M l).val) (XE:=(vw M l).mw) dB (fun _ _ _=>rfl) (fun _ _=>rfl) (fun v hne=>if_neg hne) (h.ui.co.vr _) (h.ui.co.ma _)
  ·rw[show vw M (put l (ad M (.Ea x.alloc.v)) x.alloc.A7)=_ from hvw];refine⟨by show Y.mark=_;rw[y2];exact hs1,by show Y.A7=_;rw[y1];exact hs2,hs3,hs4,by show Y.e=0;rw[y7];exact hs5.2.1,by show 0≤Bi Y.A7;rw[y1];exact hs5.2.2,?_,by show 0≤Y.i;rw[y6,hs5.1];decide,by show Y.i<M.CU Y.v;rw[y6,hs5.1,y5];have:=(hL.BM _ hv.1 hv.2).1;omega,fun j hj=>?_⟩
   ·show(if Y.v=x.alloc.v then x.alloc.A7 else _)=Y.A7;rw[if_pos y5,y1]
   have hj:j<Y.i:=hj;rw[y6,hs5.1] at hj;show(vw M l).val Y.v j=0;exact l7 hL (by omega)
  rw[show vw M (put l (ad M (.Ea x.alloc.v)) x.alloc.A7)=_ from hvw];refine fun v _ _ g=>⟨if_neg fun(e:v=x.alloc.v)=>dB (e▸g),fun _=>rfl⟩
 case En=>
  rw[hal] at hs5 y8;have hh:LP x.alloc.next=true:=by rw[hal];rfl
  obtain⟨hv,hcl⟩:=h.cv hx hh;have dB:=h.aB hx hh;obtain⟨t1,t2,t3,t4,t5,t6⟩:=hs5;have e1:Y.Au M l=({Y with i:=Y.i+1,next:=Hp.rest M (Y.i+1) Y.v},put l (M.H8 Y.v Y.i) 0):=by unfold Mo.Hp.Au;rw[y8]
  have e2:x.step M l=({x with Ae:=BH,alloc:={Y with i:=Y.i+1,next:=Hp.rest M (Y.i+1) Y.v}},put l (ad M (.En x.alloc.v x.alloc.i)) 0):=by
   rw[est,e1,if_neg (fun g=>by have g:Hp.rest M (Y.i+1) Y.v= .nil:=g;have:=tY (M:=M) (i:=Y.i+1) (v:=Y.v);rw[g] at this;cases this)];show(_,put l (M.H8 Y.v Y.i) 0)=(_,put l (M.H8 x.alloc.v x.alloc.i) 0);rw[y5,y6]
  have hvw:=og (l:=l) (v:=0) hL h.len hv t4 t5;refine h.LS hL hx hh (q:= .En x.alloc.v x.alloc.i) (.inl ⟨_,rfl⟩) e2 y5 y1 tY ?_ ?_ ?_
  ·rw[show vw M (put l (ad M (.En x.alloc.v x.alloc.i)) 0)=_ from hvw];refine Xb.raw (w:=x.alloc.v) (hdr':=(vw M l).Lh) (XE:=(vw M l).mw) dB (fun v j hne=>if_neg fun e=>hne e.1) (fun _ _=>rfl) (fun _ _=>rfl) (fun j=>?_) (h.ui.co.ma _);show(0:Int)≤(if x.alloc.v=x.alloc.v∧j=x.alloc.i then 0 else(vw M l).val x.alloc.v j)∧(if x.alloc.v=x.alloc.v∧j=x.alloc.i then 0 else(vw M l).val x.alloc.v j)≤M.nodes;split
   ·have:=hL.nn;omega
   exact h.ui.co.vr _ _
  ·rw[show vw M (put l (ad M (.En x.alloc.v x.alloc.i)) 0)=_ from hvw];have key: ∀j,j<x.alloc.i+1→(if Y.v=x.alloc.v∧j=x.alloc.i then 0 else(vw M l).val Y.v j)=0:=fun j hj=>by
    by_cases e:j=x.alloc.i
    ·rw[if_pos ⟨y5,e⟩]
    rw[if_neg fun g=>e g.2,y5];exact t6 j (by omega)
   refine⟨by show Y.mark=_;rw[y2];exact hs1,by show Y.A7=_;rw[y1];exact hs2,hs3,hs4,?_⟩;by_cases hr:Y.i+1<M.CU Y.v
   ·have er:Hp.rest M (Y.i+1) Y.v= .En:=if_pos hr;simp only[er];refine⟨by rw[y7];exact t1,by rw[y1];exact t2,by rw[y5,y1];exact t3,by rw[y6];omega,by exact hr,fun j hj=>key j (by rw[y6] at hj;exact hj)⟩
   have er:Hp.rest M (Y.i+1) Y.v= .Lp:=if_neg hr;simp only[er];refine⟨by rw[y7];exact t1,by rw[y1];exact t2,by rw[y5,y1];exact t3,fun j=>?_⟩;by_cases g:j<x.alloc.i+1
   ·exact key j g
   rw[if_neg (fun k=>by omega)];rw[y5,y6] at hr;rw[y5];exact l7 hL (by omega)
  rw[show vw M (put l (ad M (.En x.alloc.v x.alloc.i)) 0)=_ from hvw];exact fun v _ _ g=>⟨rfl,fun j=>if_neg fun(e:v=x.alloc.v∧j=x.alloc.i)=>dB (e.1▸g)⟩
 case Lp=>
  rw[hal] at hs5 y8;have hh:LP x.alloc.next=true:=by rw[hal];rfl
  obtain⟨hv,hcl⟩:=h.cv hx hh;have dB:=h.aB hx hh;obtain⟨t1,t2,t3,t4⟩:=hs5;have e1:Y.Au M l=({Y with next:= .state},put l (M.Mark Y.v) Y.mark):=by unfold Mo.Hp.Au;rw[y8]
  have e2:x.step M l=({x with Ae:=BH,alloc:={Y with next:= .state}},put l (ad M (.mark x.alloc.v)) x.alloc.mark):=by
   rw[est,e1,if_neg (by simp),y5,y2];rfl
  have hvw:=lZ (l:=l) (v:=x.alloc.mark) hL h.len hv;have t0:=h.ui.pi.t0;refine h.LS hL hx hh (q:= .mark x.alloc.v) (.inr (.inl rfl)) e2 y5 y1 rfl ?_ ?_ ?_
  ·rw[show vw M (put l (ad M (.mark x.alloc.v)) x.alloc.mark)=_ from hvw];refine Xb.raw (w:=x.alloc.v) (hdr':=(vw M l).Lh) (val':=(vw M l).val) dB (fun v j hne=>rfl) (fun v hne=>if_neg hne) (fun _ _=>rfl) (h.ui.co.vr _) ?_;show 0≤(if x.alloc.v=x.alloc.v then x.alloc.mark else _)∧(if x.alloc.v=x.alloc.v then x.alloc.mark else _)≤x.AL;rw[if_pos rfl,hs1];omega
  ·rw[show vw M (put l (ad M (.mark x.alloc.v)) x.alloc.mark)=_ from hvw];refine⟨by show Y.mark=_;rw[y2];exact hs1,by show Y.A7=_;rw[y1];exact hs2,hs3,hs4,by show Y.e=0;rw[y7];exact t1,by show 0≤Bi Y.A7;rw[y1];exact t2,by show(vw M l).Lh Y.v=Y.A7;rw[y5,y1];exact t3,by show∀j,(vw M l).val Y.v j=0;rw[y5];exact t4,?_⟩;show(if Y.v=x.alloc.v then x.alloc.mark else _)=Y.mark;rw[if_pos y5,y2]
  rw[show vw M (put l (ad M (.mark x.alloc.v)) x.alloc.mark)=_ from hvw];exact fun v _ _ g=>⟨rfl,fun j=>rfl⟩
 case state=>
  rw[hal] at hs5 y8;have hh:LP x.alloc.next=true:=by rw[hal];rfl
  obtain⟨hv,hcl⟩:=h.cv hx hh;have dB:=h.aB hx hh;obtain⟨t1,t2,t3,t4,t5⟩:=hs5;have e1:Y.Au M l=({Y with node:=Y.v,Ae:=⟨8,0,Y.v,Y.A7,0⟩,next:= .nil},put l (M.DK Y.v) 1):=by unfold Mo.Hp.Au;rw[y8]
  obtain⟨A,hA⟩: ∃A:Hp,A={Y with node:=Y.v,Ae:=⟨8,0,Y.v,Y.A7,0⟩,next:= .nil}:=⟨_,rfl⟩;obtain⟨X,hX⟩: ∃X:Mu,X={x with Ae:=⟨8,0,x.alloc.v,x.alloc.A7,0⟩,alloc:=A,Af:=x.Af++[x.alloc.v],next:= .ES}:=⟨_,rfl⟩;have e2:x.step M l=(X,put l (M.DK x.alloc.v) 1):=by
   rw[est,e1,if_pos rfl,if_neg (by show¬Y.e≠0;rw[y7,t1];simp),hX,hA,←y5,←y1]
  have hvw:=Z5 (l:=l) (v:=1) hL h.len hv;have hrm:=hL.BM _ hv.1 hv.2;have hfit:=AR t2;have hroom:=hR _ hv.1 hv.2;rw[hcl] at hroom;have hp:hpm=[]:=by
   rcases h.mp with⟨a,-,-⟩|⟨-,b⟩
   ·rw[hx] at a;cases a
   exact b
  obtain⟨hq,hf⟩:=LZ (l:=l) (v:=1) hL (q:= .state x.alloc.v) (by simp);have hXr:X.Af=x.Af++[x.alloc.v]:=by rw[hX]
  have yO:X.next= .ES:=by rw[hX]
  have Ly:=Xb.EU (x':=X) dB hv t4 (by rw[t3];omega) (t5.trans hs1) hXr (by rw[hX]) (by rw[hX]);rw[e2];refine⟨h.tN hq hf (x':=X) (T':=T) (by rw[hp];exact .inr ⟨by rw[yO];simp[IE],rfl⟩) (fun t=>by rw[hX]) (fun v=>?_) (fun g=>by rw[yO] at g;cases g) (fun g=>by rw[yO] at g;cases g) ?_,.inr ⟨?_,.inl ⟨by rw[hX],hs3,hs4,by rw[←hs2];exact t2,by rw[hX];exact hs2,by rw[hX],by rw[hX];exact hv,by rw[hX];exact dB,?_,?_,?_⟩⟩⟩
  ·rw[show JA X=[] from if_neg (fun g=>by rw[yO] at g;exact absurd g.1 (by simp)),show JA x=[x.alloc.v] from if_pos ⟨hx,hh⟩];have hst:(vw M (put l (M.DK x.alloc.v) 1)).st v=if v=x.alloc.v then 1 else(vw M l).st v:=by rw[hvw]
   unfold MM;rw[show ld (X,put l (M.DK x.alloc.v) 1).snd (M.DK v)=_ from hst];by_cases e:v=x.alloc.v
   ·subst e;rw[if_pos rfl];simp
   rw[if_neg e];exact Nat.add_le_add_right (by simp) _
  ·rw[show vw M (X,put l (M.DK x.alloc.v) 1).snd=_ from hvw];refine Ly.ui ?_ ?_
   ·unfold IX;rw[yO];simp[IE]
   unfold O4;rw[yO];unfold JX at ht⊢;rw[hX];exact ht
  ·rw[bG];unfold FK;rw[yO,hX];rfl
  ·rw[hvw,hX];show(vw M l).Lh x.alloc.v=_;rw[t3,hs2]
  ·rw[hvw,hX];exact t4
  rw[hvw];exact fun v _ _ g=>⟨rfl,fun j=>rfl⟩
 all_goals
  rw[hal] at hs5 y8;have hk:0≤Bi Y.A7∧Bi Y.A7<5:=⟨by rw[y1];exact hs5.2.2,Vi _⟩;have hcm:=h.cm hx;have hI:ZX M l Y:=by rw[hY];exact hcm
  have htk:=Uq hL h.len hI (by rw[y8];simp) h.ce hk hn;obtain⟨r1,r2,r3,r4,r5,r6⟩:=htk;have hc0:JA x=[]:=if_neg fun g=>by have g2:=g.2;rw[hal] at g2;cases g2
  rcases r6 with⟨s1,s2,s3,s4⟩|⟨s1,s2,s3⟩|⟨s1,s2,s3,k,F',s4,s5,s6,s7⟩
  ·have hne:(Y.Au M l).1.next≠ .nil:=by rcases s1 with g|g|g<;>(rw[g];simp)
   have hno:LP (Y.Au M l).1.next=false:=by rcases s1 with g|g|g<;>(rw[g];rfl)
   rw[est,if_neg hne];obtain⟨A,hA⟩: ∃A:Hp,A=(Y.Au M l).1:=⟨_,rfl⟩;rw[←hA] at hno s1 s2 s3 r2 r3 r4⊢
   refine⟨h.LR hx r1 s4 (x':={x with Ae:=BH,alloc:=A}) (fun v=>?_) h.cc rfl rfl rfl rfl (by show IE x.next=false;rw[hx];rfl) (fun _=>s2) (fun _ g=>?_) ?_,?_⟩
   ·rw[show JA {x with Ae:=BH,alloc:=A}=[] from if_neg (fun g=>by have g2:LP A.next=true:=g.2;rw[hno] at g2;cases g2)];simp
   ·have g2:LP A.next=true:=g;rw[hno] at g2;cases g2
   ·unfold O4;rw[show({x with Ae:=BH,alloc:=A}:Mu).next= .EU from hx];refine⟨ht,?_⟩;refine⟨by show A.mark=_;rw[r3,y2];exact hs1,by show A.A7=_;rw[r2,y1];exact hs2,hs3,hs4,?_⟩;have hb:A.i=0∧A.e=0∧0≤Bi A.A7:=⟨by rw[r4,y6];exact hs5.1,by rw[s3,y7];exact hs5.2.1,by rw[r2,y1];exact hs5.2.2⟩;rcases s1 with g|g|g<;>simp only[g]<;>exact hb
   rw[VA r1];exact VF (.inl rfl) rfl rfl
  ·rw[est,if_pos s1,if_pos (by rcases s2 with g|g<;>(rw[g];decide))];exact cQ _ _ F r1 s3 rfl (.inr s2)
  rw[est,if_neg (by rw[s1];simp)];obtain⟨A,hA⟩: ∃A:Hp,A=(Y.Au M l).1:=⟨_,rfl⟩;rw[←hA] at s1 s2 s3 r2 r3 r4⊢
  have hm:Y.v∈F k:=by rw[s6];exact List.mem_cons_self ..
  have hcc:=h.cc k s4 _ hm;refine⟨h.LR hx r1 s7 (x':={x with Ae:=BH,alloc:=A}) (fun v=>?_) (fun j hj v hv=>?_) rfl rfl rfl rfl (by show IE x.next=false;rw[hx];rfl) (fun _=>?_) (fun _ _=>?_) ?_,?_⟩
  ·rw[show JA {x with Ae:=BH,alloc:=A}=[A.v] from if_pos ⟨hx,by show LP A.next=true;rw[s1];rfl⟩,hc0,s3];have hup:=Nw (m:=5) (k:=k) (f:=fun j=>((if j=k then F' else F j)).count v) (g:=fun j=>(F j).count v) s4 fun j _ hne=>by simp only[if_neg hne]
   simp only[if_true,s6,List.count_cons] at hup;simp only[List.count_cons,List.count_nil];omega
  ·by_cases e:j=k
   ·subst e;simp only[if_true] at hv;exact h.cc j hj v (by rw[s6];exact List.mem_cons_of_mem _ hv)
   simp only[if_neg e] at hv;exact h.cc j hj v hv
  ·unfold ZX;simp only[s1]
  ·show(1≤A.v∧A.v≤M.nodes)∧M.Ew A.v=Bi A.A7;rw[s3,r2,←s5];exact hcc
  ·unfold O4;rw[show({x with Ae:=BH,alloc:=A}:Mu).next= .EU from hx];refine⟨ht,by show A.mark=_;rw[r3,y2];exact hs1,by show A.A7=_;rw[r2,y1];exact hs2,hs3,hs4,?_⟩;have hb:A.i=0∧A.e=0∧0≤Bi A.A7:=⟨by rw[r4,y6];exact hs5.1,by rw[s2,y7];exact hs5.2.1,by rw[r2,y1];exact hs5.2.2⟩;simp only[s1];exact hb
  rw[VA r1];exact VF (.inl rfl) rfl rfl
end
open Go.Proofs.YtmpcfamcbaineaaGreat.Mo
section
variable{V V':Vw}{z:Mu}{XT T:List Int}{k':Nat}
structure Th (M:Bz) (V:Vw) (g:Gs) (D:De) (x z:Mu) (k:Nat):Prop where
 Af:z.Af=x.Af
 AL:z.AL=x.AL
 Bh:z.Bh=x.Bh
 mu:O4 M V g D z
 pd:FK z=FK x
 wk:IX z=k
 hc:JA z=[]
 cm: ∀l,z.next= .EU→ZX M l z.alloc
 nm:z.next= .EU→z.alloc.next= .DZ∨z.alloc.next= .nil
theorem WI.Vn(h:WI M n l D x ms Bc P4 P5 hpm T hps Hs F)(hx:JA x=[])(hq:Qu M l l')(hf:Fq M l l')(hst: ∀v,MM M l' v=MM M l v)(hct: ∀t,T'.count t+x.Ar.count t=T.count t+z.Ar.count t)
  (ht:Th M (vw M l') (gs M (vw M l') x (BD (nm M) ms T')) D x z k) (Xb:UX M (n+1) (vw M l') D x (nm M) ms T' k) (hmp:yH M l' z hpm) (hev:z.Ae.kind=0∨z.Ae.kind=1∨z.Ae.kind=14) (hk:Tu M (vw M l) (vw M l')):
  Lj M (n+1) l' D z ms∧RI M (vw M l) (vw M l') x z z.Ae:=by
 refine⟨h.tN hq hf hmp hct (fun v=>by rw[ht.hc,hx,hst];exact Nat.le_refl _) (ht.cm l') (fun g1 g2=>?_) ((Xb.congr ht.Af ht.AL ht.Bh).ui ht.wk.symm ?_),.inl ⟨hev,ht.Af,ht.pd,hk⟩⟩
 ·rcases ht.nm g1 with e|e<;>(rw[e] at g2;cases g2)
 rw[RH ht.Af ht.AL ht.Bh];exact ht.mu
theorem WI.jn(h:WI M n l D x ms Bc P4 P5 hpm T hps Hs F)(hx:x.next≠ .EU)(hr:NZ M l l' hpm)(hP:Jp M (n+1) l' QL SX)(XT:List.Perm (QL++SX++hp') (P4++P5++hpm))(hmp:yH M l' z hp')(hct: ∀t,cP M l' QL t+z.Ar.count t=cP M l P4 t+x.Ar.count t)
  (ht:Th M (vw M l) (gs M (vw M l) x (BD (nm M) ms T)) D x z (IX x)) (hev:z.Ae.kind=0∨z.Ae.kind=1∨z.Ae.kind=14):Lj M (n+1) l' D z ms∧RI M (vw M l) (vw M l') x z z.Ae:=by
 refine⟨h.AcD hr hP XT hmp hct hx ht.nm (((h.ui.ux.congr ht.Af ht.AL ht.Bh).LK).ui ht.wk.symm ?_),.inl ⟨hev,ht.Af,ht.pd,?_⟩⟩
 ·rw[RH ht.Af ht.AL ht.Bh];exact ht.mu
 rw[Lx (QB.F8 hr (i:= -1) (Bc:=fun _=>0))];exact .refl
def thS(V:Vw)(g:Gs)(D:De)(x:Mu)(t:yV):Prop:=
 match t with
 | .DN=>nD V x∧Gg g (V.val (x.root x.op.a) x.op.b)
 | .FN=>nD V x∧Gg g (V.val (x.root x.op.a) x.op.b)∧Gg g (x.root x.op.c)
 | .DZ=>ZY V D x∧x.k≤x.Af.length∧ ∀i:Nat,i<x.k→Gg g (x.Af.getD i 0)
 | .F5=>ZY V D x∧ ∀r∈x.Af,Gg g r
 | .BX=>True
def mV(V:Vw)(x:Mu)(t:yV):Int:=
 match t with
 | .DN=>V.val (x.root x.op.a) x.op.b
 | .FN=>x.root x.op.c
 | .DZ=>x.Af.getD (x.k-1) 0
 |_=>0
def aF(t:yV):Bool:=
 match t with
 | .F5| .BX=>false
 |_=>true
theorem Th.lk{g:Gs}(hx:z.next= .Dt t)(hb:busy (.Dt t)=false)(h:Lk M V g D z x'):Th M V g D z x' 0:=⟨h.sm.Af,h.sm.AL,h.sm.Bh,h.mu,by rw[h.pd];unfold FK;rw[hx,hb];simp,h.wk,if_neg fun g=>h.nm g.1,fun _ g=>absurd g h.nm,fun g=>absurd g h.nm⟩
theorem yP{g:Gs}(hL:La M)(hc:0≤D.Ah∧D.Ah<1000000)(hx:z.next= .Dt t)(h:thS V g D z t)(ht:JX M z)(hA:g.A=z.AL)(hr: ∀r∈z.Af,0≤r∧r≤M.nodes)(hR: ∀r∈z.Af,1≤r→g.R r):Th M V g D z (z.dC M t) 0∧(z.dC M t).Ar=z.Ar∧(z.dC M t).Ae=z.Ae∧ ∀l,yH M l (z.dC M t) []:=by
 cases t<;>unfold Mo.Mu.dC<;>simp only
 ·have hb:=VE (V:=V) (D:=D) (g:=g) (x:=z) ht;have hs:=JB (M:=M) z;refine⟨⟨hs.2.1,hs.2.2.2.1,hs.2.2.2.2.2.1,hb.1,by rw[hb.2.1];unfold FK;rw[hx];simp[busy],hb.2.2.1,hb.2.2.2.1,fun l g=>?_,hb.2.2.2.2.2.2⟩,hs.2.2.1,hs.2.2.2.2.2.2.2.1,fun l=> .inr ⟨fun g=>hb.2.2.2.2.2.1 g.1,rfl⟩⟩;rcases hb.2.2.2.2.1 l with q|q
  ·exact q
  exact absurd g q
 ·have hk:=tX hL hc z h.2.1 ht h.1 (by rw[hA,h.1.1,h.1.2.1]) hr hR h.2.2;exact⟨.lk hx rfl hk,hk.sm.Ar,hk.sm.Ae,hk.mp⟩
 ·have hw:=h.1.1;refine⟨⟨rfl,rfl,rfl,⟨ht,.inr ⟨?_,h.1,h.2⟩⟩,by unfold FK;rw[hx];simp[busy],by unfold IX;simp[IE],if_neg (fun g=>absurd g.1 (by simp)),(fun l g=>by cases g),(fun g=>by cases g)⟩,trivial,trivial,fun l=> .inr ⟨by simp[IE],rfl⟩⟩;show Hm (3*z.Ah)=3*z.Ah;exact IA (by omega)
 ·have hl:=iC (V:=V) (D:=D) (g:=g) hL z ht h.1 h.2 hA hr hR;refine⟨⟨hl.1.Af,hl.1.AL,hl.1.Bh,hl.2.1,?_,hl.2.2.2.1,if_neg fun g=>hl.2.2.2.2.2 g.1,fun l g=>absurd g hl.2.2.2.2.2,fun g=>absurd g hl.2.2.2.2.2⟩,hl.1.Ar,hl.1.Ae,hl.2.2.2.2.1⟩;unfold FK;rw[hl.2.2.1,hx,hl.1.op,hl.1.Aq];rfl
 exact⟨⟨rfl,rfl,rfl,⟨ht,h⟩,by unfold FK;rw[hx];rfl,by unfold IX;simp[IE],if_neg (fun g=>absurd g.1 (by simp)),(fun l g=>by cases g),(fun g=>by cases g)⟩,trivial,trivial,fun l=> .inr ⟨by simp[IE],rfl⟩⟩
structure Dn (V V':Vw) (g g':Gs) (x z:Mu):Prop where
 val:V'.val=V.val
 Lh:V'.Lh=V.Lh
 a1:V'.a1=V.a1
 nd: ∀u,Gg g u→Gg g' u
 Af:z.Af=x.Af
 op:z.op=x.op
 cy:z.Ah=x.Ah
 ar:z.AL=x.AL
 k:z.k=x.k
theorem O7{z:Mu}(h:z.Af=x.Af)(a:Int):z.root a=x.root a:=by unfold Mo.Mu.root;rw[h]
theorem Dn.nD{g g':Gs}(d:Dn V V' g g' x z)(h:nD V x):nD V' z:=by
 unfold Iv.nD at h⊢
 rw[d.op,d.Lh,O7 d.Af,O7 d.Af];exact h
theorem Dn.ZY{g g':Gs}(d:Dn V V' g g' x z)(h:ZY V D x):ZY V' D z:=by
 unfold Iv.ZY at h⊢
 rw[d.cy,d.ar,d.a1];exact h
theorem Xc{g g':Gs}(hx:x.next= .Dt t)(h:O4 M V g D x)(d:Dn V V' g g' x z)(hm:aF t=true→Gg g' (mV V x t)):thS V' g' D z t:=by
 unfold O4 at h;rw[hx] at h;cases t<;>simp only at h
 ·trivial
 ·refine⟨d.ZY h.1,by rw[d.k,d.Af];exact h.2.2.1,fun i hi=>?_⟩;rw[d.k] at hi;rw[d.Af];by_cases e:i+1<x.k
  ·exact d.nd _ (h.2.2.2.1 i e)
  have:i=x.k-1:=by omega
  subst this;exact hm rfl
 ·exact⟨d.ZY h.1,fun r hr=>d.nd _ (h.2.1 r (by rw[d.Af] at hr;exact hr))⟩
 ·refine⟨d.nD h.1,?_⟩;rw[d.val,O7 d.Af,d.op];exact hm rfl
 refine⟨d.nD h.1,?_,?_⟩
 ·rw[d.val,O7 d.Af,d.op];exact d.nd _ h.2.1
 rw[O7 d.Af,d.op];exact hm rfl
theorem aG{g:Gs}(hx:x.next= .Dt t)(h:O4 M V g D x):aF t=true∧lX M g x (mV V x t)∨aF t=false∧x.Bl.next= .F9:=by
 unfold O4 at h;rw[hx] at h;cases t<;>simp only at h
 ·exact .inr ⟨rfl,h⟩
 ·exact .inl ⟨rfl,h.2.2.2.2⟩
 ·exact .inr ⟨rfl,h.2.2⟩
 ·exact .inl ⟨rfl,h.2⟩
 exact .inl ⟨rfl,h.2.2⟩
theorem mF{g g':Gs}(hx:x.next= .Dt t)(hz:z.next= .Dt t)(h:O4 M V g D x)(d:Dn V V' g g' x z)(hm:aF t=true→lX M g' z (mV V x t))(hp:aF t=false→z.Bl.next= .F9):O4 M V' g' D z:=by
 unfold O4 at h⊢
 rw[hx] at h;rw[hz];cases t<;>simp only at h⊢
 ·exact hp rfl
 ·refine⟨d.ZY h.1,by rw[d.k];exact h.2.1,by rw[d.k,d.Af];exact h.2.2.1,fun i hi=>?_,?_⟩
  ·rw[d.Af];exact d.nd _ (h.2.2.2.1 i (by rw[d.k] at hi;exact hi))
  rw[d.Af,d.k];exact hm rfl
 ·exact⟨d.ZY h.1,fun r hr=>d.nd _ (h.2.1 r (by rw[d.Af] at hr;exact hr)),hp rfl⟩
 ·refine⟨d.nD h.1,?_⟩;rw[d.val,O7 d.Af,d.op];exact hm rfl
 refine⟨d.nD h.1,?_,?_⟩
 ·rw[d.val,O7 d.Af,d.op];exact d.nd _ h.2.1
 rw[O7 d.Af,d.op];exact hm rfl
theorem AS(hx:x.next= .Dt t)(hz:z.next= .Dt t)(h1:z.op=x.op)(h2:z.Aq=x.Aq):FK z=FK x:=by unfold FK;rw[hx,hz,h1,h2]
theorem L3{g:Gs}(hx:x.next= .Dt t)(hz:z.next= .Dt t)(hr:z.Af=x.Af)(ha:z.AL=x.AL)(hti:z.Bh=x.Bh)(h1:z.op=x.op)(h2:z.Aq=x.Aq)(hm:O4 M V g D z):Th M V g D x z (IX z):=
 ⟨hr,ha,hti,hm,AS hx hz h1 h2,rfl,if_neg fun g=>by rw[hz] at g;exact absurd g.1 (by simp),(fun _ g=>by rw[hz] at g;cases g),(fun g=>by rw[hz] at g;cases g)⟩
theorem Th.of{g:Gs}(h:Th M V g D x' z k)(hr:x'.Af=x.Af)(ha:x'.AL=x.AL)(hti:x'.Bh=x.Bh)(hp:FK x'=FK x):Th M V g D x z k:=⟨h.Af.trans hr,h.AL.trans ha,h.Bh.trans hti,h.mu,h.pd.trans hp,h.wk,h.hc,h.cm,h.nm⟩
end
end Iv
end Go.Proofs.YtmpcfamcbaineaaGreat.Mo
