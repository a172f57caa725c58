/- Part 7 of the proof of the row of the law TopSame: contracts of what it reaches, and the plain law. No condition. -/
import Derived.Test.YtmpcfamcbaineaaGreatU06
set_option linter.all false
set_option maxHeartbeats 8000000
set_option maxRecDepth 100000
open Go.RowKit
namespace Go.Proofs.YtmpcfamcbaineaaGreat.Mo
variable{A b d n i j t id f m ty q et jj bf rb nb:Nat}{B H H' H2 H1 Ju Hr RB:List Bk}{a:Array Operand}{c:Fj}{w w0:World}{e:GZ}{v u nv av sv ov rv H6 H7 r0:Value}{α β:Type}{W:Wo}{x:Mu}{y z:Operand}{k k':IntKind}{F R':BB}{o:Oper}{C C0:Cx}{l l':Dk}{K:(World→Prop)→GZ→Prop}{Q:Exit→Act→World→Prop}{Aq:Array Oper}{ef:Nat→Bool}{r rr qs:List Nat}{S:World→Prop}{D0 D:LV}{args vs captured zs news ra GI Ir QI:List Value}{fn:Func}{U pv:List (Nat×Value)}{ps:String}{af:Array Edge}{LX:Array Nat}{parts:Array (Nat×Operand)}{M:Bz}{dr:Int}{ws:List Int}{IV:List (List I4)}
namespace Mp
structure Cx where
 u:Unit
structure Mem (w:World) (C:Cx) (l:Dk):Prop where
structure aO (C:Cx) (w:World) (D:LV):Prop where
 lt: ∀k,D k→k<w.heap.size
def Cx.with(C:Cx)(D:LV):LV:=D
def Ct(C:Cx)(f:Nat)(args:Array Value)(l:Dk)(R:BB)(Q:Value→Dk→BB):Prop:=
 ∀w D,aO C w D→Mem w C l→R D w→Calls Tryz.prog f args w fun e w'=> ∃v l' D',e= .returned v∧Mem w' C l'∧Q v l' D' w'∧
  KE (C.with D) w w'∧ ∀k,D' k→k<w'.heap.size∧(D k∨w.heap.size≤k)
structure Sy (C:Cx) (w0:World) (D0:LV) (l:Dk) (H:List Bk) (R:BB) (w:World):Prop where
 OW:aO C w0 D0
 Kr:KE (C.with D0) w0 w
 mem:Mem w C l
 Qo:CV R
 NK: ∃D,Az H R D w∧ ∀k,D k→k<w.heap.size∧(D0 k∨w0.heap.size≤k)
section
variable{R:BB}
theorem Sy.drew(h:Sy C w0 D0 l H R w):Sy C w0 D0 l H R w.drew:=by
 obtain⟨D,h1,h2⟩:=h.NK;exact⟨h.OW,h.Kr.drew,⟨⟩,h.Qo,D,Ac h.Qo H D w _ h1 (fun _ _=>rfl),h2⟩
theorem Sy.cell(h:Sy C w0 D0 l H R w){cs:List Value}(hi:In b cs H){o:Nat}(hv:Qb cs o=some v):w.cell? ⟨b,o,none⟩=some v∧w.frozen? ⟨b,o,none⟩=false:=by
 obtain⟨D,h1,h2⟩:=h.NK;obtain⟨t,hm⟩:=hi.mem;have h3:=(F6 h1 hm).1;unfold Bk.is at h3;rw[FO] at hv;constructor
 ·simp[World.cell?,h3,hv]
 simp[World.frozen?,h3]
theorem Sy.set(h:Sy C w0 D0 l H R w){o:Nat}(hu:YG H b (fun cs=>NL cs o v) H'):Sy C w0 D0 l H' R (w.setCell ⟨b,o,none⟩ v):=by
 obtain⟨D,h1,h2⟩:=h.NK;obtain⟨x,hx,rfl⟩:=B8 hu;have hx':=F6 h1 hx;have hD:=(h2 _ hx'.2).2;have hch:KE (C.with D0) w0 (w.setCell ⟨x.b,o,none⟩ v):=h.Kr.setCell v hD;refine⟨h.OW,hch,⟨⟩,h.Qo,D,nY h.Qo h1 hu (fun t cs hc=>?_) (fun k hk _=>QF hk),fun k hk=>⟨?_,(h2 k hk).2⟩⟩
 ·rw[Qk hc,OX];simp
 have:=(h2 k hk).1;simpa[World.setCell] using this
theorem Sy.alloc(h:Sy C w0 D0 l H R w)(t:Nat)(cs:List Value):Sy C w0 D0 l (⟨w.heap.size,t,cs⟩::H) R (w.alloc (.cells cs.toArray t)):=by
 obtain⟨D,h1,h2⟩:=h.NK;have hb:Below w.heap.size w (w.alloc (.cells cs.toArray t)):=below_alloc (Below.refl _ _) _;have hch:=h.Kr.alloc (.cells cs.toArray t);refine⟨h.OW,hch,⟨⟩,h.Qo,fun k=>k=w.heap.size∨D k,⟨?_,D,Ac h.Qo H D w _ h1 (fun k hk=>hb.block k (h2 k hk).1),fun hk=>?_,fun k=>Iff.rfl⟩,fun k hk=>?_⟩
 ·show(w.heap.push _)[w.heap.size]?=_;simp
 ·exact absurd (h2 _ hk).1 (Nat.lt_irrefl _)
 have hs:=h.Kr.size;rcases hk with rfl|hk
 ·refine⟨?_,.inr hs⟩;show _<(w.heap.push _).size;simp
 have:=h2 k hk;refine⟨?_,this.2⟩;have:=this.1;show _<(w.heap.push _).size;simp;omega
theorem MF(h:Az H R D w): ∃D1,R D1 w∧(∀k,D1 k→D k)∧(∀x∈H,¬D1 x.b)∧
  ∀(D2:LV) (w':World) (R':BB),R' D2 w'→(∀k,D2 k→D1 k∨ ¬D k)→(∀x∈H,x.is w→x.is w')→ ∃D',Az H R' D' w'∧ ∀k,D' k→D2 k∨(D k∧ ¬D1 k):=by
 induction H generalizing D with
 |nil=>exact⟨D,h,fun _ hk=>hk,by simp,fun D2 w' R' h2 _ _=>⟨D2,h2,fun k hk=> .inl hk⟩⟩
 |cons x H ih=>
  obtain⟨h1,DH,h2,h3,h4⟩:=h;obtain⟨D1,g1,g2,g3,g4⟩:=ih h2;refine⟨D1,g1,fun k hk=>(h4 k).2 (.inr (g2 k hk)),fun y hy=>?_,fun D2 w' R' k1 k2 k3=>?_⟩
  ·rcases List.mem_cons.1 hy with rfl|hy
   ·exact fun hd=>h3 (g2 _ hd)
   exact g3 y hy
  obtain⟨D',m1,m2⟩:=g4 D2 w' R' k1 (fun k hk=>(k2 k hk).imp id (fun hn hd=>hn ((h4 k).2 (.inr hd)))) (fun y hy=>k3 y (List.mem_cons_of_mem _ hy));refine⟨fun k=>k=x.b∨D' k,⟨k3 x (List.mem_cons_self ..) h1,D',m1,fun hx=>?_,fun k=>Iff.rfl⟩,fun k hk=>?_⟩
  ·rcases m2 _ hx with m2|⟨m2,-⟩
   ·rcases k2 _ m2 with k2|k2
    ·exact h3 (g2 _ k2)
    exact k2 ((h4 _).2 (.inl rfl))
   exact h3 m2
  rcases hk with rfl|hk
  ·exact .inr ⟨(h4 _).2 (.inl rfl),fun hd=>h3 (g2 _ hd)⟩
  rcases m2 k hk with m2|⟨m2,m3⟩
  ·exact .inl m2
  exact .inr ⟨(h4 k).2 (.inr m2),m3⟩
theorem Sy.call{args:Array Value}{Q:Value→Dk→BB}(h:Sy C w0 D0 l H R w)(hc:Ct C f args l R Q)(hl: ∀v l',CV (Q v l')):
  Calls Tryz.prog f args w fun e w'=> ∃v,e= .returned v∧ ∃l',(∃D w,Q v l' D w)∧Sy C w0 D0 l' H (Q v l') w':=by
 obtain⟨D,h1,h2⟩:=h.NK;obtain⟨D1,g1,g2,g3,g4⟩:=MF h1;have hsz:=h.Kr.size;have B9:aO C w D1:=⟨fun k hk=>(h2 k (g2 k hk)).1⟩;refine(hc w D1 B9 h.mem g1).mono ?_;rintro e w' ⟨v,l',D',rfl,hm,hQ,hch,hD'⟩;obtain⟨DD,m1,m2⟩:=g4 D' w' (Q v l') hQ (fun k hk=>(hD' k hk).2.imp id (fun hk hd=>by have:=(h2 k hd).1;omega)) (fun x hx hxw=>by
  have uL:=(F6 h1 hx).2;have hlt:=(h2 _ uL);refine(hch.block x.b hlt.1 ?_).trans hxw;intro h5;exact g3 x hx h5)
 refine⟨v,rfl,l',⟨D',w',hQ⟩,h.OW,h.Kr.after hch (fun k hk h5=>?_),hm,hl v l',DD,m1,fun k hk=>?_⟩
 ·rcases(h2 k (g2 k h5)).2 with h6|h6
  ·exact h6
  omega
 rcases m2 k hk with m2|⟨m2,m3⟩
 ·have:=hD' k m2;refine⟨this.1,?_⟩;rcases this.2 with h6|h6
  ·exact(h2 k (g2 k h6)).2
  exact .inr (by omega)
 have:=h2 k m2;have:=hch.size;exact⟨by omega,(h2 k m2).2⟩
end
section
variable{R:BB}
end
section
variable{R:BB}
theorem Sy.opens(h:Sy C w0 D0 l [] (Az H2 R) w)(hl:CV R):Sy C w0 D0 l H2 R w:=⟨h.OW,h.Kr,h.mem,hl,h.NK⟩
theorem Sy.unfold(h:Sy C w0 D0 l H1 (Az H2 R) w)(hl:CV R):Sy C w0 D0 l (H1++H2) R w:=⟨h.OW,h.Kr,h.mem,hl,by rw[J5];exact h.NK⟩
theorem Sy.VR(h:Sy C w0 D0 l (H1++H2) R w):Sy C w0 D0 l H1 (Az H2 R) w:=⟨h.OW,h.Kr,h.mem,Ac h.Qo H2,by rw[←J5];exact h.NK⟩
theorem Sy.MU{α:Sort _}{R:α→BB}(h:Sy C w0 D0 l H (fun D w=> ∃a,R a D w) w)(hl: ∀a,CV (R a)): ∃a,Sy C w0 D0 l H (R a) w:=by
 obtain⟨D,h1,h2⟩:=h.NK;have hb: ∀(H:List Bk) (D:LV),Az H (fun D w=> ∃a,R a D w) D w→ ∃a,Az H (R a) D w:=by
  intro H;induction H with
  |nil=>exact fun D h=>h
  |cons x H ih=>
   rintro D ⟨g1,D1,g2,g3,g4⟩;obtain⟨a,ha⟩:=ih D1 g2;exact⟨a,g1,D1,ha,g3,g4⟩
 obtain⟨a,ha⟩:=hb H D h1;exact⟨a,h.OW,h.Kr,h.mem,hl a,D,ha,h2⟩
theorem Sy.VS{p:Prop}{R:BB}(h:Sy C w0 D0 l H (fun D w=>p∧R D w) w)(hl:CV R):p∧Sy C w0 D0 l H R w:=by
 obtain⟨D,h1,h2⟩:=h.NK;have hb: ∀(H:List Bk) (D:LV),Az H (fun D w=>p∧R D w) D w→p∧Az H R D w:=by
  intro H;induction H with
  |nil=>exact fun D h=>h
  |cons x H ih=>
   rintro D ⟨g1,D1,g2,g3,g4⟩;obtain⟨hp,ha⟩:=ih D1 g2;exact⟨hp,g1,D1,ha,g3,g4⟩
 obtain⟨hp,ha⟩:=hb H D h1;exact⟨hp,h.OW,h.Kr,h.mem,hl,D,ha,h2⟩
theorem Sy.Ca{p:Prop}{R:BB}(h:Sy C w0 D0 l H (fun D w=>p∧R D w) w)(hl:p→CV R):p∧Sy C w0 D0 l H R w:=by
 obtain⟨D,h1,h2⟩:=h.NK;have hb: ∀(H:List Bk) (D:LV),Az H (fun D w=>p∧R D w) D w→p∧Az H R D w:=by
  intro H;induction H with
  |nil=>exact fun D h=>h
  |cons x H ih=>
   rintro D ⟨g1,D1,g2,g3,g4⟩;obtain⟨hp,ha⟩:=ih D1 g2;exact⟨hp,g1,D1,ha,g3,g4⟩
 obtain⟨hp,ha⟩:=hb H D h1;exact⟨hp,h.OW,h.Kr,h.mem,hl hp,D,ha,h2⟩
end
section
variable{r:List Code}
end
def Tj(C:Cx)(w0:World)(D0:LV)(Q:Value→Dk→BB):Ending→World→Prop:=fun e w'=> ∃v l' D',e= .returned v∧Mem w' C l'∧Q v l' D' w'∧KE (C.with D0) w0 w'∧ ∀k,D' k→k<w'.heap.size∧(D0 k∨w0.heap.size≤k)
theorem Ct.of{c:Code}{R:BB}{Q:Value→Dk→BB}(hf:Tryz.prog.funcs[f]?=some fn)(hb:fn.body=some c)(hnt:fn.ntmps=n)(hn:vs.length≤n)(hl:CV R)
  (h: ∀w0 D0,T (bodyPost Tryz.prog fn (Tj C w0 D0 Q)) n [c] (Sy C w0 D0 l [] R) (Bn 0 vs)):
  Ct C f vs.toArray l R Q:=fun w D ha hm hR=>by
 subst hnt;refine calls_of_wp hf hb ?_;have:=h w D w _ ⟨ha,KE.refl _ _,hm,hl,D,hR,fun k hk=>⟨ha.lt k hk,.inl hk⟩⟩ (Pz vs fn.ntmps hn);refine wp_mono this ?_;intro ex a' w' hq;cases ex<;>exact hq
section
variable{R:BB}{r:List Code}{Q:Value→Dk→BB}
theorem Sy.QQ(h:Sy C w0 D0 l H R w)(hq: ∀D,Az H R D w→ ∃D',Q v l D' w∧ ∀k,D' k→D k):Tj C w0 D0 Q (.returned v) w:=by
 obtain⟨D,h1,h2⟩:=h.NK;obtain⟨D',h3,h4⟩:=hq D h1;exact⟨v,l,D',rfl,h.mem,h3,h.Kr,fun k hk=>h2 k (h4 k hk)⟩
theorem T.BJ(hr:fn.results= #[])(hq: ∀w D,Az H R D w→ ∃D',Q (.tuple #[]) l D' w∧ ∀k,D' k→D k):T (bodyPost Tryz.prog fn (Tj C w0 D0 Q)) n [] (Sy C w0 D0 l H R) e:=
 T.done fun w a hS hF=>⟨hF.defers,_,results_none hr _ _ _,hS.QQ (hq w)⟩
theorem T.BC(hr:fn.results= #[.tmp t])(hq: ∀w D,Az H R D w→ ∃D',Q (lk e t) l D' w∧ ∀k,D' k→D k):T (bodyPost Tryz.prog fn (Tj C w0 D0 Q)) n (.ret::r) (Sy C w0 D0 l H R) e:=
 T.ret fun w a hS hF=>⟨hF.defers,_,results_tmp hr _ _ _,by rw[hF.at_ t];exact hS.QQ (hq w)⟩
theorem T.YJ{u:Nat}(hr:fn.results= #[.tmp t,.tmp u])(hq: ∀w D,Az H R D w→ ∃D',Q (.tuple #[lk e t,lk e u]) l D' w∧ ∀k,D' k→D k):T (bodyPost Tryz.prog fn (Tj C w0 D0 Q)) n (.ret::r) (Sy C w0 D0 l H R) e:=
 T.ret fun w a hS hF=>⟨hF.defers,_,results_tmp2 hr _ _ _,by rw[hF.at_ t,hF.at_ u];exact hS.QQ (hq w)⟩
end
section
variable{lo:Nat→Bool}
variable{d:Option Nat}{gd:Option (Nat×Bool)}{x:Operand}
end
section
variable{R:BB}
theorem Sy.eC(h:Sy C w0 D0 l H R w){cs cs':List Value}(h1:In b cs H)(h2:In b cs' H):cs=cs':=by
 obtain⟨D,g1,-⟩:=h.NK;obtain⟨t,m1⟩:=h1.mem;obtain⟨t',m2⟩:=h2.mem;have e1:=(F6 g1 m1).1;have e2:=(F6 g1 m2).1;unfold Bk.is at e1 e2;rw[e1] at e2;have:=Option.some.inj e2;simp only[Obj.cells.injEq] at this;simpa using this.1
theorem Sy.vG: ∀(vs:List Value) (o:Nat) {w:World} {H H':List Bk} {b:Nat} {cs:List Value},Sy C w0 D0 l H R w→YG H b (fun cs=>Jb cs o vs) H'→In b cs H→o+vs.length≤cs.length→(∀v∈vs,BL v=true)→
  ∃w',(storeCells ⟨b,0,none⟩ vs o).run Tryz.prog w= .ok () w'∧Sy C w0 D0 l H' R w'
 |[],o,w,H,H',b,cs,h,hu,hi,hlen,hv=>by
  refine⟨w,rfl,?_⟩;have:H'=H:=by
   clear h hi hlen hv;generalize hk:(fun cs=>Jb cs o [])=k at hu;induction hu with
   |z=>subst hk;rfl
   |s _ ih=>rw[ih hk]
  rw[this];exact h
 |v::vs,o,w,H,H',b,cs,h,hu,hi,hlen,hv=>by
  obtain⟨H1,hu1,hu2⟩:=YG.comp (f:=fun cs=>NL cs o v) (g:=fun cs=>Jb cs (o+1) vs) hu;obtain⟨cs1,h1,h2⟩:=zA hu1;have:=h.eC hi h1;subst this;simp only[List.length_cons] at hlen;obtain⟨u,hu'⟩:=vF cs o (by omega);obtain⟨c1,c2⟩:=h.cell hi hu';have hs:=VV (hv v (by simp)) c1 c2;obtain⟨w',g1,g2⟩:=Sy.vG vs (o+1) (h.set hu1) hu2 h2 (by rw[OY];omega) (fun x hx=>hv x (by simp[hx]));refine⟨w',?_,g2⟩;have ha:(⟨b,0,none⟩:Addr).add o=⟨b,o,none⟩:=by
   unfold Addr.add;split
   ·rename_i h0;rw[h0]
   simp
  unfold storeCells;rw[Sem.run_bind,ha,hs];exact g1
end
section
variable{R:BB}
variable{lo:Nat→Bool}{d:Option Nat}{gd:Option (Nat×Bool)}{x:Operand}
theorem JY{off:Nat}{cs:List Value}(G7:(Aq[i]?,(ef i,BA Aq ⟨d,.load t x,ty,ps,af,gd⟩ e),EF e x)=(some ⟨d,.load t x,ty,ps,af,gd⟩,(false,true),some (.pointer (some ⟨b,off,none⟩))))(h1:one t=true)(hi:In b cs H)(hv:Qb cs off=some v)
  (h:X Tryz.prog Aq lo ef K r (Sy C w0 D0 l H R) (bif lo i then(i,v)::U else U) (Dz d v e)):X Tryz.prog Aq lo ef K (i::r) (Sy C w0 D0 l H R) U e:=have⟨ho,Dy,hx⟩:=TL G7;have⟨hef,hw⟩:=Fb Dy;
 FB ho hef hw (fun w hS=>by
  exact N8 (m:=Instr.loadAt t (ev e x)) rfl (by rw[CY hx];exact GM h1 (hS.cell hi hv).1)) h
theorem qx{off:Nat}{cs:List Value}(G7:(Aq[i]?,(ef i,BA Aq ⟨d,.load t x,ty,ps,af,gd⟩ e),EF e x)=(some ⟨d,.load t x,ty,ps,af,gd⟩,(false,true),some (.pointer (some ⟨b,off,none⟩))))(h1:Bq t n=true)(hi:In b cs H)(hn:(OQ cs off n).length=n)
  (h:X Tryz.prog Aq lo ef K r (Sy C w0 D0 l H R) (bif lo i then(i,.agg (OQ cs off n).toArray)::U else U) (Dz d (.agg (OQ cs off n).toArray) e)):X Tryz.prog Aq lo ef K (i::r) (Sy C w0 D0 l H R) U e:=have⟨ho,Dy,hx⟩:=TL G7;have⟨hef,hw⟩:=Fb Dy;
 FB ho hef hw (fun w hS=>by
  have:=IK h1 (w:=w) (b:=b) (off:=off) (OQ cs off n) hn (fun j v hj=>by
   refine(hS.cell hi ?_).1;unfold OQ at hj;rw[List.getElem?_take] at hj;split at hj
   ·rw[FO,←hj,List.getElem?_drop]
   cases hj)
  exact N8 (m:=Instr.loadAt t (ev e x)) rfl (by rw[CY hx];exact this)) h
theorem KQ{off:Nat}{cs:List Value}(G7:(Aq[i]?,ef i,EF e x,EF e y)=(some ⟨none,.store t x y,ty,ps,af,none⟩,true,some (.pointer (some ⟨b,off,none⟩)),some v))(h1:one t=true)(hv:BL v=true)(hi:In b cs H)(hv0:Qb cs off=some u)
  (hu:YG H b (fun cs=>NL cs off v) H') (hp:Eh Aq i U (Sy C w0 D0 l H' R) e) (h:X Tryz.prog Aq lo ef K r (Sy C w0 D0 l H' R) U e):X Tryz.prog Aq lo ef K (i::r) (Sy C w0 D0 l H R) U e:=have⟨ho,hef,hx,hy⟩:=MR G7;
 FH (K':=fun _ w'=>Sy C w0 D0 l H' R w') ho hef rfl (fun w hS=>by
  obtain⟨c1,c2⟩:=hS.cell hi hv0;exact UD (uW (m:=Instr.storeAt t (ev e x) (ev e y)) rfl (by rw[CY hx,CY hy];exact PD h1 hv c1 c2)) (hS.set hu)) (fun _ w' hk=>⟨_,hk,hp,h⟩)
theorem H9{off:Nat}{cs:List Value}(G7:(Aq[i]?,ef i,EF e x,EF e y)=(some ⟨none,.store t x y,ty,ps,af,none⟩,true,some (.pointer (some ⟨b,off,none⟩)),some (.agg vs.toArray)))(h1:Bq t n=true)(hn:vs.length=n)(hv:vs.all BL=true)(hi:In b cs H)(hlen:off+n≤cs.length)
  (hu:YG H b (fun cs=>Jb cs off vs) H') (hp:Eh Aq i U (Sy C w0 D0 l H' R) e) (h:X Tryz.prog Aq lo ef K r (Sy C w0 D0 l H' R) U e):X Tryz.prog Aq lo ef K (i::r) (Sy C w0 D0 l H R) U e:=have⟨ho,hef,hx,hy⟩:=MR G7;
 FH (K':=fun _ w'=>Sy C w0 D0 l H' R w') ho hef rfl (fun w hS=>by
  obtain⟨w',g1,g2⟩:=hS.vG vs off hu hi (by omega) (fun v hm=>List.all_eq_true.1 hv v hm);have g3:(storeVar t ⟨b,off,none⟩ (.agg vs.toArray)).run Tryz.prog w= .ok () w':=by
   unfold storeVar;rw[Sem.run_bind,(Lr h1 w).2];have:(Value.agg vs.toArray).cells=vs.toArray:=rfl;subst hn;simp only[Result.andThen_ok,this,List.size_toArray,ne_eq,not_true_eq_false,if_false];show(storeCells ⟨b,off,none⟩ vs 0).run Tryz.prog w=_;rw[J7];exact g1
  exact UD (uW (m:=Instr.storeAt t (ev e x) (ev e y)) rfl (by rw[CY hx,CY hy];exact g3)) g2) (fun _ w' hk=>⟨_,hk,hp,h⟩)
theorem F7{cs:List Value}(G7:(Aq[i]?,ef i,EF e x,v.cells)=(some ⟨d,.box t x,ty,ps,af,none⟩,true,some v,cs.toArray))
  (hp: ∀b,Eh Aq i U (Sy C w0 D0 l (⟨b,t,cs⟩::H) R) e) (h: ∀b,X Tryz.prog Aq lo ef K r (Sy C w0 D0 l (⟨b,t,cs⟩::H) R) U (Dz d (.pointer (some ⟨b,0,none⟩)) e)):X Tryz.prog Aq lo ef K (i::r) (Sy C w0 D0 l H R) U e:=have⟨ho,hef,hx,hcs⟩:=MR G7;
 FH (K':=fun v w'=> ∃b,v= .pointer (some ⟨b,0,none⟩)∧Sy C w0 D0 l (⟨b,t,cs⟩::H) R w') ho hef rfl (fun w hS=>by
  refine N9 (N8 (m:=Instr.box t (ev e x)) rfl (w':=w.alloc (.cells cs.toArray t)) (v:= .pointer (some ⟨w.heap.size,0,none⟩)) ?_) ⟨_,rfl,hS.alloc t cs⟩;rw[CY hx];show Sem.run Tryz.prog (newVar t v>>=_) w=_;unfold newVar newRow;rw[hcs];rfl) (fun v w' ⟨b,hb,hk⟩=>⟨_,hk,hp b,by rw[hb];exact h b⟩)
theorem Hg{cs:List Value}(G7:(Aq[i]?,ef i)=(some ⟨d,.alloc t,ty,ps,af,none⟩,true))(hz:LU t=some cs)
  (hp: ∀b,Eh Aq i U (Sy C w0 D0 l (⟨b,t,cs⟩::H) R) e) (h: ∀b,X Tryz.prog Aq lo ef K r (Sy C w0 D0 l (⟨b,t,cs⟩::H) R) U (Dz d (.pointer (some ⟨b,0,none⟩)) e)):X Tryz.prog Aq lo ef K (i::r) (Sy C w0 D0 l H R) U e:=have⟨ho,hef⟩:=nH G7;
 FH (K':=fun v w'=> ∃b,v= .pointer (some ⟨b,0,none⟩)∧Sy C w0 D0 l (⟨b,t,cs⟩::H) R w') ho hef rfl (fun w hS=>by
  have h1:=dI hz w;have h2:(execOp (ev e) ⟨d,.alloc t,ty,ps,af,none⟩).run Tryz.prog w= .ok (.value (.pointer (some ⟨w.heap.size,0,none⟩))) (w.alloc (.cells cs.toArray t)):=N8 YK h1;have h3: ∃b:Nat,(Value.pointer (some ⟨w.heap.size,0,none⟩)=Value.pointer (some ⟨b,0,none⟩))∧Sy C w0 D0 l (⟨b,t,cs⟩::H) R (w.alloc (.cells cs.toArray t)):=⟨w.heap.size,rfl,hS.alloc t cs⟩;unfold Pj;rw[h2];exact h3) (fun v w' ⟨b,hb,hk⟩=>⟨_,hk,hp b,by rw[hb];exact h b⟩)
end
section
variable{R:BB}
variable{lo:Nat→Bool}{d:Option Nat}{gd:Option (Nat×Bool)}{x:Operand}
end
def Cv(C:Cx)(f:Nat)(args:List Value)(l:Dk)(R:BB)(v:Value)(l':Dk)(R':BB):Prop:=Ct C f args.toArray l R fun u m D w=>u=v∧m=l'∧R' D w
theorem aO.sub{D1:LV}(h:aO C w D)(hs: ∀k,D1 k→D k):aO C w D1:=⟨fun k hk=>h.lt k (hs k hk)⟩
theorem Cv.get{R:BB}(h: ∀w D,R D w→Calls Tryz.prog f args.toArray w fun e w'=>e= .returned v∧w'=w):Cv C f args l R v l R:=fun w D ha hm hR=>
 (h w D hR).mono fun e w' ⟨he,hw⟩=>by
  subst he hw;exact⟨v,l,D,rfl,hm,⟨rfl,rfl,hR⟩,KE.refl _ _,fun k hk=>⟨ha.lt k hk,.inl hk⟩⟩
def Cn(C:Cx)(f:Nat)(args:List Value)(l:Dk)(R:BB)(l':Dk)(R':Nat→BB):Prop:=Ct C f args.toArray l R fun u m D w=> ∃q,u= .pointer (some ⟨q,0,none⟩)∧m=l'∧R' q D w
section
variable{R:BB}
theorem Sy.conv(h:Sy C w0 D0 l H R w)(hl:CV R')(hc: ∀D w,R D w→R' D w):Sy C w0 D0 l H R' w:=by
 obtain⟨D,h1,h2⟩:=h.NK;have hb: ∀(H:List Bk) (D:LV),Az H R D w→Az H R' D w:=by
  intro H;induction H with
  |nil=>exact fun D h=>hc D w h
  |cons x H ih=>exact fun D ⟨g1,D1,g2,g3,g4⟩=>⟨g1,D1,ih D1 g2,g3,g4⟩
 exact⟨h.OW,h.Kr,h.mem,hl,D,hb H D h1,h2⟩
theorem Sy.QG(h:Sy C w0 D0 l H R w)(hc:Cv C f args l R v l' R')(hl:CV R'):Calls Tryz.prog f args.toArray w fun e w'=>e= .returned v∧Sy C w0 D0 l' H R' w':=by
 refine(h.call hc (fun u m=>?_)).mono ?_
 ·intro D w w' ⟨h1,h2,h3⟩ hk;exact⟨h1,h2,hl D w w' h3 hk⟩
 rintro e w' ⟨u,rfl,m,⟨D,w'',rfl,rfl,-⟩,hS⟩;exact⟨rfl,hS.conv hl (fun D w h=>h.2.2)⟩
theorem Sy.dK{R':Nat→BB}(h:Sy C w0 D0 l H R w)(hc:Cn C f args l R l' R')(hl: ∀q,CV (R' q)):Calls Tryz.prog f args.toArray w fun e w'=> ∃q,e= .returned (.pointer (some ⟨q,0,none⟩))∧Sy C w0 D0 l' H (R' q) w':=by
 refine(h.call hc (fun u m=>?_)).mono ?_
 ·intro D w w' ⟨q,h1,h2,h3⟩ hk;exact⟨q,h1,h2,hl q D w w' h3 hk⟩
 rintro e w' ⟨u,rfl,m,⟨D,w'',q,rfl,rfl,-⟩,hS⟩;refine⟨q,rfl,hS.conv (hl q) ?_⟩;rintro D w ⟨q',h1,-,h3⟩;have:q'=q:=by simpa using h1.symm
 subst this;exact h3
variable{lo:Nat→Bool}{d:Option Nat}{gd:Option (Nat×Bool)}{x:Operand}
theorem CB{f:Operand}{g:Nat}{first:List Value}(G7:(Aq[i]?,(ef i,BA Aq ⟨d,.call ⟨.value f,a,LX⟩,ty,ps,af,gd⟩ e),EF e f,GV e a.toList)=(some ⟨d,.call ⟨.value f,a,LX⟩,ty,ps,af,gd⟩,(false,true),some (.func (.func g) first.toArray captured.toArray),some args))(hg:Cm g=true)
  (hc:Cv C g (first++args++captured) l R v l R) (hl:CV R)
  (h:X Tryz.prog Aq lo ef K r (Sy C w0 D0 l H R) (bif lo i then(i,v)::U else U) (Dz d v e)):X Tryz.prog Aq lo ef K (i::r) (Sy C w0 D0 l H R) U e:=have⟨ho,Dy,hf,ha⟩:=MR G7;have⟨hef,hw⟩:=Fb Dy;
 UE ho hef hw (fun w hS=>Fe hf ha hg ((hS.QG hc hl).mono fun e w' ⟨h1,h2⟩=>⟨v,h1,rfl,h2⟩)) h
theorem Ls{f:Operand}{g:Nat}{first:List Value}(G7:(Aq[i]?,ef i,EF e f,GV e a.toList)=(some ⟨d,.call ⟨.value f,a,LX⟩,ty,ps,af,none⟩,true,some (.func (.func g) first.toArray captured.toArray),some args))(hg:Cm g=true)
  (hc:Cv C g (first++args++captured) l R v l' R') (hl:CV R') (hp:Eh Aq i U (Sy C w0 D0 l' H R') e)
  (h:X Tryz.prog Aq lo ef K r (Sy C w0 D0 l' H R') U (Dz d v e)):X Tryz.prog Aq lo ef K (i::r) (Sy C w0 D0 l H R) U e:=have⟨ho,hef,hf,ha⟩:=MR G7;
 FH (K':=fun u w'=>u=v∧Sy C w0 D0 l' H R' w') ho hef rfl (fun w hS=>Fe hf ha hg ((hS.QG hc hl).mono fun e w' ⟨h1,h2⟩=>⟨v,h1,rfl,h2⟩)) (fun u w' ⟨h1,h2⟩=>⟨_,h2,hp,by rw[h1];exact h⟩)
end
section
variable{lo:Nat→Bool}{d:Option Nat}{gd:Option (Nat×Bool)}{x:Operand}
end
section
variable{lo:Nat→Bool}{d:Option Nat}{gd:Option (Nat×Bool)}{x:Operand}
end
section
variable{r:List Code}{R:BB}
theorem T.ex[Inhabited (List Deferred)]{α:Sort _}{R:α→BB}(hl: ∀a,CV (R a))(h: ∀a,T Q n r (Sy C w0 D0 l H (R a)) e):T Q n r (Sy C w0 D0 l H (fun D w=> ∃a,R a D w)) e:=fun w a hS hF=>by
 obtain⟨x,h1⟩:=hS.MU hl;exact h x w a h1 hF
theorem T.and[Inhabited (List Deferred)]{p:Prop}(hl:p→CV R)(h:p→T Q n r (Sy C w0 D0 l H R) e):T Q n r (Sy C w0 D0 l H (fun D w=>p∧R D w)) e:=fun w a hS hF=>by
 obtain⟨hp,h1⟩:=hS.Ca hl;exact h hp w a h1 hF
theorem T.Og[Inhabited (List Deferred)](hl:CV R)(h:T Q n r (Sy C w0 D0 l (H++H2) R) e):T Q n r (Sy C w0 D0 l H (Az H2 R)) e:=fun w a hS hF=>h w a (hS.unfold hl) hF
variable{lo:Nat→Bool}{d:Option Nat}{gd:Option (Nat×Bool)}{x:Operand}
theorem OT{f:Operand}{g:Nat}{first:List Value}(G7:(Aq[i]?,(ef i,BA Aq ⟨d,.call ⟨.value f,a,LX⟩,ty,ps,af,gd⟩ e),EF e f,GV e a.toList)=(some ⟨d,.call ⟨.value f,a,LX⟩,ty,ps,af,gd⟩,(false,true),some (.func (.func g) first.toArray captured.toArray),some args))(hg:Cm g=true)(hH:H1++H2=H)
  (hc:Cv C g (first++args++captured) l (Az H2 R) v l (Az H2 R)) (hl:CV R)
  (h:X Tryz.prog Aq lo ef K rr (Sy C w0 D0 l H R) (bif lo i then(i,v)::U else U) (Dz d v e)):X Tryz.prog Aq lo ef K (i::rr) (Sy C w0 D0 l H R) U e:=have⟨ho,Dy,hf,ha⟩:=MR G7;have⟨hef,hw⟩:=Fb Dy;
 UE ho hef hw (fun w hS=>by
  subst hH;exact Fe hf ha hg ((hS.VR.QG hc (Ac hl H2)).mono fun e w' ⟨h1,h2⟩=>⟨v,h1,rfl,h2.unfold hl⟩)) h
end
theorem Na{off:Nat}{cs:List Value}{R:BB}(hS:Sy C w0 D0 l H R w)(h1:Bq t n=true)(hi:In b cs H)(hn:(OQ cs off n).length=n):(loadVar t ⟨b,off,none⟩).run Tryz.prog w= .ok (.agg (OQ cs off n).toArray) w:=
 IK h1 (OQ cs off n) hn (fun j v hj=>by
  refine(hS.cell hi ?_).1;unfold OQ at hj;rw[List.getElem?_take] at hj;split at hj
  ·rw[FO,←hj,List.getElem?_drop]
  cases hj)
section
variable{R:BB}{r:List Code}{Q:Value→Dk→BB}{a off k u v:Nat}{cs:List Value}
theorem T.Io(hr:fn.results= #[.cell a t])(ha:oC e a=some (.pointer (some ⟨b,off,none⟩)))(h1:Bq t k=true)(hi:In b cs H)(hn:(OQ cs off k).length=k)(hq: ∀w D,Az H R D w→ ∃D',Q (.agg (OQ cs off k).toArray) l D' w∧ ∀k,D' k→D k):T (bodyPost Tryz.prog fn (Tj C w0 D0 Q)) n (.ret::r) (Sy C w0 D0 l H R) e:=
 T.ret fun w a' hS hF=>⟨hF.defers,_,VX hr (by rw[hF.at_ a];exact Tv ha) (Na hS h1 hi hn),hS.QQ (hq w)⟩
theorem T.oH(hr:fn.results= #[.cell a t,.tmp u])(ha:oC e a=some (.pointer (some ⟨b,off,none⟩)))(h1:Bq t k=true)(hi:In b cs H)(hn:(OQ cs off k).length=k)(hq: ∀w D,Az H R D w→ ∃D',Q (.tuple #[.agg (OQ cs off k).toArray,lk e u]) l D' w∧ ∀k,D' k→D k):T (bodyPost Tryz.prog fn (Tj C w0 D0 Q)) n (.ret::r) (Sy C w0 D0 l H R) e:=
 T.ret fun w a' hS hF=>⟨hF.defers,_,YO hr (by rw[hF.at_ a];exact Tv ha) (Na hS h1 hi hn),by rw[hF.at_ u];exact hS.QQ (hq w)⟩
theorem T.Vh(hr:fn.results= #[.cell a t,.tmp u,.tmp v])(ha:oC e a=some (.pointer (some ⟨b,off,none⟩)))(h1:Bq t k=true)(hi:In b cs H)(hn:(OQ cs off k).length=k)(hq: ∀w D,Az H R D w→ ∃D',Q (.tuple #[.agg (OQ cs off k).toArray,lk e u,lk e v]) l D' w∧ ∀k,D' k→D k):T (bodyPost Tryz.prog fn (Tj C w0 D0 Q)) n (.ret::r) (Sy C w0 D0 l H R) e:=
 T.ret fun w a' hS hF=>⟨hF.defers,_,YP hr (by rw[hF.at_ a];exact Tv ha) (Na hS h1 hi hn),by rw[hF.at_ u,hF.at_ v];exact hS.QQ (hq w)⟩
end
section
variable{R:BB}
variable{lo:Nat→Bool}{d:Option Nat}{gd:Option (Nat×Bool)}{x:Operand}
end
section
variable{lo:Nat→Bool}{d:Option Nat}{gd:Option (Nat×Bool)}{x:Operand}
end
section
variable{R:BB}
variable{lo:Nat→Bool}{d:Option Nat}{gd:Option (Nat×Bool)}{x:Operand}
end
section
variable{R:BB}
variable{lo:Nat→Bool}{d:Option Nat}{gd:Option (Nat×Bool)}{x:Operand}
theorem Qc{len:Nat}{zs0:List Value}{cs:List Value}(G7:(Aq[i]?,ef i,oG e parts.toList)=(some ⟨d,.buildSlice t len parts,ty,ps,af,none⟩,true,some pv))(ht:Ip t et n=true)(hz:LU et=some zs0)(hn:0<len*n∧len*n≤1000)(hzs:(List.range (len*n)).map (fun k=>zs0.toArray[k % zs0.length]!)=zs)(hok:JG (Md n len 0) zs.length pv=true)(hcs:Oa (Md n len 0) zs pv=cs)
  (bG: ∀b,Eh Aq i U (Sy C w0 D0 l (⟨b,et,cs⟩::H) R) e) (h: ∀b,X Tryz.prog Aq lo ef K r (Sy C w0 D0 l (⟨b,et,cs⟩::H) R) U (Dz d (.slice (some ⟨b,0,none⟩) len len) e)):X Tryz.prog Aq lo ef K (i::r) (Sy C w0 D0 l H R) U e:=by
 obtain⟨ho,hef,hp⟩:=TL G7;subst hcs;exact FH (K':=fun v w'=> ∃b,v= .slice (some ⟨b,0,none⟩) len len∧Sy C w0 D0 l (⟨b,et,Oa (Md n len 0) zs pv⟩::H) R w') ho hef rfl (fun w hS=>by
  have h1:(parts.map fun(p:Nat×Operand)=>(p.1,ev e p.2))=pv.toArray:=by
   cases parts with
   |mk l=>
    rw[←RU hp];simp
  have h2:=zO (w:=w) ht hz hn hzs hok;rw[←h1] at h2;have h3:(execOp (ev e) ⟨d,.buildSlice t len parts,ty,ps,af,none⟩).run Tryz.prog w= .ok (.value (.slice (some ⟨w.heap.size,0,none⟩) len len)) (w.alloc (.cells (Oa (Md n len 0) zs pv).toArray et)):=N8 Y3 h2;have h4: ∃b:Nat,(Value.slice (some ⟨w.heap.size,0,none⟩) len len=Value.slice (some ⟨b,0,none⟩) len len)∧Sy C w0 D0 l (⟨b,et,Oa (Md n len 0) zs pv⟩::H) R (w.alloc (.cells (Oa (Md n len 0) zs pv).toArray et)):=⟨w.heap.size,rfl,hS.alloc et _⟩;unfold Pj;rw[h3];exact h4) (fun v w' ⟨b,hb,hk⟩=>⟨_,hk,bG b,by rw[hb];exact h b⟩)
end
section
variable{R:BB}
variable{lo:Nat→Bool}{d:Option Nat}{gd:Option (Nat×Bool)}{x:Operand}
end
section
variable{R:BB}
variable{d:Option Nat}{gd:Option (Nat×Bool)}{x:Operand}
theorem BP{off:Nat}{cs:List Value}(G7:((Aq[i]?,BA Aq ⟨d,.load t x,ty,ps,af,gd⟩ e),EF e x)=((some ⟨d,.load t x,ty,ps,af,gd⟩,true),some (.pointer (some ⟨b,off,none⟩))))(h1:one t=true)(hi:In b cs H)(hv:Qb cs off=some v)
  (h:Eh Aq jj U (Sy C w0 D0 l H R) e):Eh Aq jj ((i,v)::U) (Sy C w0 D0 l H R) e:=have⟨ho0,hx⟩:=nH G7;have⟨ho,hw⟩:=Fb ho0;
 PM ho hw (fun w hS=>by
  exact N8 (m:=Instr.loadAt t (ev e x)) rfl (by rw[CY hx];exact GM h1 (hS.cell hi hv).1)) h
end
section
variable{r r':List Code}{id':Nat}{c:Code}
section
variable{σ:Type}{S':σ→World→Prop}{Kn:σ→GZ}{μ:σ→Nat}
end
end
section
variable{R:BB}{Q:Value→Dk→BB}{a off k u v:Nat}{cs:List Value}
theorem TE.J6(hr:fn.results= #[])(hq: ∀w D,Az H R D w→ ∃D',Q (.tuple #[]) l D' w∧ ∀k,D' k→D k):TE (bodyPost Tryz.prog fn (Tj C w0 D0 Q)) n .ret (Sy C w0 D0 l H R) e:=
 fun w a hS hF=>⟨hF.defers,_,results_none hr _ _ _,hS.QQ (hq w)⟩
theorem TE.BC(hr:fn.results= #[.tmp t])(hq: ∀w D,Az H R D w→ ∃D',Q (lk e t) l D' w∧ ∀k,D' k→D k):TE (bodyPost Tryz.prog fn (Tj C w0 D0 Q)) n .ret (Sy C w0 D0 l H R) e:=
 fun w a hS hF=>⟨hF.defers,_,results_tmp hr _ _ _,by rw[hF.at_ t];exact hS.QQ (hq w)⟩
end
section
variable{lo:Nat→Bool}{d:Option Nat}{gd:Option (Nat×Bool)}{x:Operand}
end
section
variable{R:BB}
theorem Sy.kr{x:Bk}(h:Sy C w0 D0 l (H++[x]) R w):Sy C w0 D0 l (x::H) R w:=by
 obtain⟨D,h1,h2⟩:=h.NK;obtain⟨D',h3,h4⟩:=Y6 h1;exact⟨h.OW,h.Kr,h.mem,h.Qo,D',h3,fun k hk=>h2 k (h4 k hk)⟩
theorem Sy.front{x:Bk}(h:Sy C w0 D0 l (H++[x]) R w):Sy C w0 D0 l H R w:=by
 obtain⟨D,h1,h2⟩:=h.NK;obtain⟨D',h3,h4⟩:=Y8 h1;exact⟨h.OW,h.Kr,h.mem,h.Qo,D',h3,fun k hk=>h2 k (h4 k hk)⟩
variable{lo:Nat→Bool}{d:Option Nat}
end
section
variable{R:BB}
variable{lo:Nat→Bool}{d:Option Nat}
end
section
variable{R:BB}
variable{lo:Nat→Bool}{d:Option Nat}
end
theorem Ct.FD{args:Array Value}{R:BB}{Q:Value→Dk→BB}(h:Ct C f args l R Q)(hF:CV F):Ct C f args l (BG R F) fun v l'=>BG (Q v l') F:=by
 rintro w D ha hm ⟨D1,D2,h1,h2,h3,h4⟩;refine(h w D1 (ha.sub fun k hk=>(h4 k).2 (.inl hk)) hm h1).mono ?_;rintro e w' ⟨v,l',D',rfl,hm',hQ,hc,hD'⟩;have hF':F D2 w':=hF D2 w w' h2 (fun k hk=>hc.block k (ha.lt k ((h4 k).2 (.inr hk))) (by
  exact fun h5=>h3 k h5 hk))
 refine⟨v,l',fun k=>D' k∨D2 k,rfl,hm',⟨D',D2,hQ,hF',fun k hk h5=>?_,fun k=>Iff.rfl⟩,hc.mono ?_,fun k hk=>?_⟩
 ·rcases(hD' k hk).2 with h6|h6
  ·exact h3 k h6 h5
  have:=ha.lt k ((h4 k).2 (.inr h5));omega
 ·exact fun k h5=>(h4 k).2 (.inl h5)
 rcases hk with hk|hk
 ·exact⟨(hD' k hk).1,(hD' k hk).2.imp (fun h5=>(h4 k).2 (.inl h5)) id⟩
 have h5:=(h4 k).2 (.inr hk);exact⟨Nat.lt_of_lt_of_le (ha.lt k h5) hc.size,.inl h5⟩
theorem Ct.mono{args:Array Value}{R:BB}{Q Q':Value→Dk→BB}(h:Ct C f args l R Q)(hq: ∀v m D w,Q v m D w→ ∃D',Q' v m D' w∧ ∀k,D' k→D k):Ct C f args l R Q':=fun w D ha hm hR=>
 (h w D ha hm hR).mono fun e w' ⟨v,l',D',he,hm',hQ,hc,hD⟩=>by
  obtain⟨D2,h1,h2⟩:=hq v l' D' w' hQ;exact⟨v,l',D2,he,hm',h1,hc,fun k hk=>hD k (h2 k hk)⟩
theorem Cv.FD{R:BB}(h:Cv C f args l R v l' R')(hF:CV F):Cv C f args l (BG R F) v l' (BG R' F):=
 (Ct.FD h hF).mono fun u m D w ⟨D1,D2,⟨h1,h2,h3⟩,h4,h5,h6⟩=>⟨D,⟨h1,h2,D1,D2,h3,h4,h5,h6⟩,fun _ hk=>hk⟩
theorem Cn.FD{R:BB}{R':Nat→BB}(h:Cn C f args l R l' R')(hF:CV F):Cn C f args l (BG R F) l' (fun q=>BG (R' q) F):=
 (Ct.FD h hF).mono fun u m D w ⟨D1,D2,⟨q,h1,h2,h3⟩,h4,h5,h6⟩=>⟨D,⟨q,h1,h2,D1,D2,h3,h4,h5,h6⟩,fun _ hk=>hk⟩
section
variable{R:BB}
theorem Sy.wk(h:Sy C w0 D0 l H R w)(hl:CV R')(hk:Wk R R'):Sy C w0 D0 l H R' w:=by
 obtain⟨D,h1,h2⟩:=h.NK;obtain⟨D',h3,h4⟩:=Wk.Az hk H D w h1;exact⟨h.OW,h.Kr,h.mem,hl,D',h3,fun k hk=>h2 k (h4 k hk)⟩
theorem Sy.Jc(h:Sy C w0 D0 l H R w)(hl:CV R')(hk:Wk (Az H R) (Az H' R')):Sy C w0 D0 l H' R' w:=by
 obtain⟨D,h1,h2⟩:=h.NK;obtain⟨D',h3,h4⟩:=hk D w h1;exact⟨h.OW,h.Kr,h.mem,hl,D',h3,fun k hk=>h2 k (h4 k hk)⟩
variable{r:List Code}
theorem T.Jc[Inhabited (List Deferred)](hl:CV R')(hk:Wk (Az H R) (Az H' R'))(h:T Q n r (Sy C w0 D0 l H' R') e):T Q n r (Sy C w0 D0 l H R) e:=T.conv (fun w hS=>hS.Jc hl hk) h
end
section
variable{R:BB}
variable{lo:Nat→Bool}{d:Option Nat}{x:Operand}
end
def Ce{α:Type}(C:Cx)(f:Nat)(args:List Value)(l:Dk)(R:BB)(v:α→Value)(l':Dk)(P:α→Prop)(R':α→BB):Prop:=Ct C f args.toArray l R fun u m D w=> ∃a,u=v a∧P a∧m=l'∧R' a D w
theorem Ce.FD{α:Type}{R:BB}{v:α→Value}{P:α→Prop}{R':α→BB}(h:Ce C f args l R v l' P R')(hF:CV F):Ce C f args l (BG R F) v l' P (fun a=>BG (R' a) F):=
 (Ct.FD h hF).mono fun u m D w ⟨D1,D2,⟨a,h1,h2,h3,h4⟩,h5,h6,h7⟩=>⟨D,⟨a,h1,h2,h3,D1,D2,h4,h5,h6,h7⟩,fun _ hk=>hk⟩
theorem Cn.fr{R':Nat→BB}(h:Cn C f args l Cj l' R')(hF:CV F):Cn C f args l F l' (fun q=>BG (R' q) F):=by
 have:=Cn.FD h hF;rw[Gl] at this;exact this
theorem Ce.wk{α:Type}{R R1:BB}{v:α→Value}{P:α→Prop}{R' R2:α→BB}(h:Ce C f args l R v l' P R')(h1:Wk R1 R)(h2: ∀a,Wk (R' a) (R2 a)):Ce C f args l R1 v l' P R2:=fun w D ha hm hR=>by
 obtain⟨D1,g1,g2⟩:=h1 D w hR;refine(h w D1 (ha.sub g2) hm g1).mono ?_;rintro e w' ⟨u,m,D',he,hm',⟨a,h3,h4,h5,h6⟩,hc,hD⟩;obtain⟨D2,g3,g4⟩:=h2 a D' w' h6;exact⟨u,m,D2,he,hm',⟨a,h3,h4,h5,g3⟩,hc.mono (fun k hk=>g2 k hk),fun k hk=>(hD k (g4 k hk)).imp id (Or.imp (g2 k) id)⟩
section
variable{R:BB}
theorem Sy.ak{α:Type}{v:α→Value}{P:α→Prop}{R':α→BB}(h:Sy C w0 D0 l H R w)(hc:Ce C f args l R v l' P R')(hl: ∀a,CV (R' a)):Calls Tryz.prog f args.toArray w fun e w'=> ∃a,e= .returned (v a)∧P a∧Sy C w0 D0 l' H (R' a) w':=by
 refine(h.call hc (fun u m=>bd hl)).mono ?_;rintro e w' ⟨u,rfl,m,⟨D,w'',a0,h1,h2,rfl,-⟩,hS⟩;obtain⟨a,hS⟩:=hS.MU (fun a=>Ba (Ba (Ba (hl a))));obtain⟨h3,hS⟩:=hS.VS (Ba (Ba (hl a)));obtain⟨h4,hS⟩:=hS.VS (Ba (hl a));obtain⟨-,hS⟩:=hS.VS (hl a);exact⟨a,by rw[h3],h4,hS⟩
variable{lo:Nat→Bool}{d:Option Nat}{gd:Option (Nat×Bool)}{x:Operand}
theorem bP{f:Operand}{g:Nat}{first:List Value}{R':Nat→BB}(ho:Aq[i]?=some ⟨d,.call ⟨.value f,a,LX⟩,ty,ps,af,none⟩)(hef:ef i=true)(hf:EF e f=some (.func (.func g) first.toArray captured.toArray))(ha:GV e a.toList=some args)(hg:Cm g=true)
  (hc:Cn C g (first++args++captured) l R l' R') (hl: ∀q,CV (R' q)) (hp: ∀q,Eh Aq i U (Sy C w0 D0 l' H (R' q)) e)
  (h: ∀q,X Tryz.prog Aq lo ef K rr (Sy C w0 D0 l' H (R' q)) U (Dz d (.pointer (some ⟨q,0,none⟩)) e)):X Tryz.prog Aq lo ef K (i::rr) (Sy C w0 D0 l H R) U e:=
 FH (K':=fun u w'=> ∃q,u= .pointer (some ⟨q,0,none⟩)∧Sy C w0 D0 l' H (R' q) w') ho hef rfl (fun w hS=>Fe hf ha hg ((hS.dK hc hl).mono fun e w' ⟨q,h1,h2⟩=>⟨_,h1,q,rfl,h2⟩)) (fun u w' ⟨q,h1,h2⟩=>⟨_,h2,hp q,by rw[h1];exact h q⟩)
theorem NW{α:Type}{f:Operand}{g:Nat}{first:List Value}{v:α→Value}{P:α→Prop}{B:α→List Bk}{Rz:α→BB}(G7:(Aq[i]?,ef i,EF e f,GV e a.toList)=(some ⟨d,.call ⟨.value f,a,LX⟩,ty,ps,af,none⟩,true,some (.func (.func g) first.toArray captured.toArray),some args))(hg:Cm g=true)(hH:H1++H2=H)
  (hc:Ce C g (first++args++captured) l (Az H2 R) v l' P (fun a=>Az (B a) (Rz a))) (hl: ∀a,CV (Rz a)) (hp: ∀a,P a→Eh Aq i U (Sy C w0 D0 l' (H1++B a) (Rz a)) e)
  (h: ∀a,P a→X Tryz.prog Aq lo ef K rr (Sy C w0 D0 l' (H1++B a) (Rz a)) U (Dz d (v a) e)):X Tryz.prog Aq lo ef K (i::rr) (Sy C w0 D0 l H R) U e:=have⟨ho,hef,hf,ha⟩:=MR G7;
 FH (K':=fun u w'=> ∃a,u=v a∧P a∧Sy C w0 D0 l' (H1++B a) (Rz a) w') ho hef rfl (fun w hS=>by
  subst hH;exact Fe hf ha hg ((hS.VR.ak hc (fun a=>Ac (hl a) _)).mono fun e w' ⟨a,h1,h2,h3⟩=>⟨_,h1,a,rfl,h2,h3.unfold (hl a)⟩)) (fun u w' ⟨a,h1,h2,h3⟩=>⟨_,h3,hp a h2,by rw[h1];exact h a h2⟩)
theorem Fk(ho:Aq[i]?=some ⟨d,.buildSlice t 0 #[],ty,ps,af,none⟩)(hef:ef i=true)(ht:Ip t et n=true)(hp: ∀q,Eh Aq i U (Sy C w0 D0 l (⟨q,et,[]⟩::H) R) e)
  (h: ∀q,X Tryz.prog Aq lo ef K rr (Sy C w0 D0 l (⟨q,et,[]⟩::H) R) U (Dz d (.slice (some ⟨q,0,none⟩) 0 0) e)):X Tryz.prog Aq lo ef K (i::rr) (Sy C w0 D0 l H R) U e:=
 FH (K':=fun v w'=> ∃q,v= .slice (some ⟨q,0,none⟩) 0 0∧Sy C w0 D0 l (⟨q,et,[]⟩::H) R w') ho hef rfl (fun w hS=>by
  have h1:=au ht w;have h2:(execOp (ev e) ⟨d,.buildSlice t 0 #[],ty,ps,af,none⟩).run Tryz.prog w= .ok (.value (.slice (some ⟨w.heap.size,0,none⟩) 0 0)) (w.alloc (.cells #[] et)):=N8 qB h1;have h3: ∃q:Nat,(Value.slice (some ⟨w.heap.size,0,none⟩) 0 0=Value.slice (some ⟨q,0,none⟩) 0 0)∧Sy C w0 D0 l (⟨q,et,[]⟩::H) R (w.alloc (.cells #[] et)):=⟨w.heap.size,rfl,hS.alloc et []⟩;unfold Pj;rw[h2];exact h3) (fun v w' ⟨q,h1,h2⟩=>⟨_,h2,hp q,by rw[h1];exact h q⟩)
theorem Fl{q0 k c:Nat}{cs rest:List Value}(ho:Aq[i]?=some ⟨d,.call ⟨.builtin .append,a, #[t,t]⟩,ty,ps,af,none⟩)(hef:ef i=true)(ha:GV e a.toList=some [.slice (some ⟨q0,0,none⟩) 0 0,.slice (some ⟨b,0,none⟩) k c])(ht:Ip t et n=true)(hi:In b (cs++rest) H)(hk:0<k∧k≤1000000)(hcs:cs.length=k*n)
  (hp: ∀q rs,Eh Aq i U (Sy C w0 D0 l (⟨q,et,cs++rs⟩::H) R) e) (h: ∀q rs m,(k≤m∧cs.length+rs.length=m*n)∧m≤maxLen→X Tryz.prog Aq lo ef K rr (Sy C w0 D0 l (⟨q,et,cs++rs⟩::H) R) U (Dz d (.slice (some ⟨q,0,none⟩) k m) e)):X Tryz.prog Aq lo ef K (i::rr) (Sy C w0 D0 l H R) U e:=
 FH (K':=fun v w'=> ∃q rs m,v= .slice (some ⟨q,0,none⟩) k m∧((k≤m∧cs.length+rs.length=m*n)∧m≤maxLen)∧Sy C w0 D0 l (⟨q,et,cs++rs⟩::H) R w') ho hef rfl (fun w hS=>by
  obtain⟨inf,z,hu,hin,hz,hs,hb,hzs⟩:=IG ht;have h48:Builtin.nextslicecap (0+k) 0*inf.bytes≤281474976710656:=by
   have h1:=nextslicecap_le (need:=0+k) (old:=0) (by omega);have h2:Builtin.nextslicecap (0+k) 0*inf.bytes≤2*(0+k)*1000:=Nat.mul_le_mul h1 hb;omega
  have hr:=run_append_grow (P:=Tryz.prog) (w:=w) t ty et inf z hu hin hz ⟨q0,0,none⟩ 0 0 [] (by simp) (fun j v hj=>by simp at hj) ⟨b,0,none⟩ k c cs (by rw[hs];exact hcs) (fun j v hj=>by
   rw[IM,Nat.zero_add];exact(hS.cell hi (JI (by rw[FO];exact hj))).1) (by omega) (by omega) h48
  have hge:=grownCap_ge w (0+k) 0 et;rw[Nat.zero_add] at hr hge;have hr':=Hl (d:=d) (ps:=ps) (af:=af) (gd:=none) (b:= .append) (ty:=ty) (LX:= #[t,t]) ha (by
   simp only[builtin,Sem.run_bind];rw[hr];rfl)
  refine N9 hr' ⟨w.heap.size,(Builtin.zeroCells z.cells (grownCap w k 0 et-k)).toList,_,rfl,⟨⟨hge,?_⟩,grownCap_le_maxLen w k 0 et (by unfold maxLen;omega)⟩,?_⟩
  ·rw[hcs];exact V7 hzs hge
  have:=hS.drew.alloc et (cs++(Builtin.zeroCells z.cells (grownCap w k 0 et-k)).toList);have e1:(cs++(Builtin.zeroCells z.cells (grownCap w k 0 et-k)).toList).toArray=([]:List Value).toArray++cs.toArray++Builtin.zeroCells z.cells (grownCap w k 0 et-k):=by
   apply Array.ext';simp
  rw[e1] at this;exact this) (fun v w' ⟨q,rs,m,hv,hm,hk⟩=>⟨_,hk,hp q rs,by rw[hv];exact h q rs m hm⟩)
end
section
variable{R:BB}
variable{lo:Nat→Bool}{d:Option Nat}{gd:Option (Nat×Bool)}{x:Operand}
end
section
variable{r:List Code}
end
section
variable{R:BB}
variable{lo:Nat→Bool}{d:Option Nat}{gd:Option (Nat×Bool)}{x:Operand}
theorem R9{k c b2 k2 c2:Nat}{cs rest Ff:List Value}(hS:Sy C w0 D0 l (Hr++[⟨b,et,cs++rest⟩]) R w)(ht:Ip t et n=true)(hcs:cs.length=k*n)(hc:cs.length+rest.length=c*n)(hi:In b2 (news++Ff) Hr)(hn:news.length=k2*n)(hcell: ∀v∈news,BL v=true)(hk:0<k2∧k+k2≤1000000∧0<n∧n≤100∧k≤c):
  ∃q rs m w',(Builtin.append_ #[t,t] ty #[.slice (some ⟨b,0,none⟩) k c,.slice (some ⟨b2,0,none⟩) k2 c2]).run Tryz.prog w= .ok (.slice (some ⟨q,0,none⟩) (k+k2) m) w'∧k+k2≤m∧(cs++news).length+rs.length=m*n∧Sy C w0 D0 l (⟨q,et,cs++news++rs⟩::Hr) R w'∧(c≤maxLen→m≤maxLen):=by
 obtain⟨inf,z,hu,hin,hz,hs,hb,hzs⟩:=IG ht;have hnews: ∀(w:World) (hS:Sy C w0 D0 l (Hr++[⟨b,et,cs++rest⟩]) R w) (j:Nat) (v:Value),news[j]?=some v→w.cell? ((⟨b2,0,none⟩:Addr).add j)=some v:=fun w hS j v hj=>by
  rw[IM,Nat.zero_add];exact(hS.cell (vX hi) (JI (by rw[FO];exact hj))).1
 by_cases hle:k+k2≤c
 ·have hr:news.length≤rest.length:=by
   have h1:(k+k2)*n≤c*n:=Nat.mul_le_mul_right _ hle;rw[Nat.add_mul] at h1;omega
  have hf:=run_firstCells_some (P:=Tryz.prog) w inf.size k2 ⟨b2,0,none⟩ k2 c2 news (by rw[hs];exact hn) (hnews w hS);rw[hs] at hf;obtain⟨w',g1,g2⟩:=Sy.vG news (k*n) hS (Y7 Hr b et (cs++rest) (fun cs=>Jb cs (k*n) news) (fun _ _=>trivial)) (UU Hr b et (cs++rest)) (by simp only[List.length_append];omega) hcell;refine⟨b,rest.drop news.length,c,w',?_,hle,?_,?_,id⟩
  ·have g3:(storeCells ((⟨b,0,none⟩:Addr).add (k*n)) news).run Tryz.prog w= .ok () w':=by
    rw[IM,J7];simpa using g1
   simp[Builtin.append_,run_underlying hu,sizeOf,typeInfo,hin,hz,Builtin.lenOf,hle,hf,hs,g3]
  ·simp only[List.length_append,List.length_drop];omega
  have e1:=V9 news cs rest hr;rw[hcs] at e1;have g4:=g2.kr;simp only[e1] at g4;exact g4
 have hS2:=hS.drew;have h48:Builtin.nextslicecap (k+k2) c*inf.bytes≤281474976710656:=by
  have h1:=nextslicecap_le (need:=k+k2) (old:=c) (by omega);have h2:Builtin.nextslicecap (k+k2) c*inf.bytes≤2*(k+k2)*1000:=Nat.mul_le_mul h1 hb;omega
 have hr:=run_append_grow (P:=Tryz.prog) (w:=w) t ty et inf z hu hin hz ⟨b,0,none⟩ k c cs (by rw[hs];exact hcs) (fun j v hj=>by
  rw[IM,Nat.zero_add];exact(hS.cell (UU Hr b et (cs++rest)) (JI (by rw[FO];exact hj))).1) ⟨b2,0,none⟩ k2 c2 news (by rw[hs];exact hn) (hnews w hS) (by omega) (by omega) h48
 have hge:=grownCap_ge w (k+k2) c et;refine⟨w.heap.size,(Builtin.zeroCells z.cells (grownCap w (k+k2) c et-(k+k2))).toList,_,_,hr,hge,?_,?_,fun _=>grownCap_le_maxLen w (k+k2) c et (by unfold maxLen;omega)⟩
 ·have:=V7 (n:=n) hzs hge;simp only[List.length_append];rw[Nat.add_mul] at this;omega
 have:=(hS2.front).alloc et (cs++news++(Builtin.zeroCells z.cells (grownCap w (k+k2) c et-(k+k2))).toList);have e1:(cs++news++(Builtin.zeroCells z.cells (grownCap w (k+k2) c et-(k+k2))).toList).toArray=cs.toArray++news.toArray++Builtin.zeroCells z.cells (grownCap w (k+k2) c et-(k+k2)):=by
  apply Array.ext';simp
 rw[e1] at this;exact this
theorem Sa{k b2 k2 c2:Nat}{cs Ff:List Value}(hv:Ht et n v k cs B)(hS:Sy C w0 D0 l (Hr++B) R w)(ht:Ip t et n=true)(hi:In b2 (news++Ff) Hr)(hn:news.length=k2*n)(hcell: ∀v∈news,BL v=true)(hk:0<k2∧k+k2≤1000000∧0<n∧n≤100):
  ∃v' B' w',(Builtin.append_ #[t,t] ty #[v,.slice (some ⟨b2,0,none⟩) k2 c2]).run Tryz.prog w= .ok v' w'∧Ht et n v' (k+k2) (cs++news) B'∧Sy C w0 D0 l (Hr++B') R w':=by
 rcases hv with⟨rfl,rfl,rfl,rfl⟩|⟨b,rest,m,rfl,h1,h2,h3,h4,rfl⟩
 ·rw[List.append_nil] at hS;obtain⟨inf,z,hu,hin,hz,hs,hb,hzs⟩:=IG ht;have hc:=run_append_nil (P:=Tryz.prog) (w:=w) t ty et inf z hu hin hz ⟨b2,0,none⟩ k2 c2 news (by rw[hs];exact hn) (fun j v hj=>by
   rw[IM,Nat.zero_add];exact(hS.cell hi (JI (by rw[FO];exact hj))).1) hk.1 (by omega) (by
    have:k2*inf.bytes≤1000000*1000:=Nat.mul_le_mul (by omega) hb;omega)
  have hge:=grownCap_ge w k2 0 et;have hS2:=hS.drew.alloc et (news++(Builtin.zeroCells z.cells (grownCap w k2 0 et-k2)).toList);have e1:(news++(Builtin.zeroCells z.cells (grownCap w k2 0 et-k2)).toList).toArray=news.toArray++Builtin.zeroCells z.cells (grownCap w k2 0 et-k2):=by
   apply Array.ext';simp
  rw[e1] at hS2;refine⟨_,[⟨w.heap.size,et,news++(Builtin.zeroCells z.cells (grownCap w k2 0 et-k2)).toList⟩],_,hc,.inr ⟨w.heap.size,(Builtin.zeroCells z.cells (grownCap w k2 0 et-k2)).toList,grownCap w k2 0 et,by rw[Nat.zero_add],by omega,grownCap_le_maxLen w k2 0 et (by unfold maxLen;omega),?_,by rw[List.nil_append,Nat.zero_add];exact hn,rfl⟩,?_⟩
  ·rw[List.nil_append,hn];exact V7 hzs hge
  obtain⟨D,g1,g2⟩:=hS2.NK;obtain⟨D',g3,g4⟩:=fK g1;exact⟨hS2.OW,hS2.Kr,hS2.mem,hS2.Qo,D',g3,fun k hk=>g2 k (g4 k hk)⟩
 obtain⟨q,rs,m',w',g1,g2,g3,g4,g5⟩:=R9 (ty:=ty) (c2:=c2) hS ht h4 h3 hi hn hcell ⟨hk.1,hk.2.1,hk.2.2.1,hk.2.2.2,h1⟩;refine⟨_,[⟨q,et,cs++news++rs⟩],w',g1,.inr ⟨q,rs,m',rfl,g2,g5 h2,g3,by rw[List.length_append,h4,hn,Nat.add_mul],rfl⟩,?_⟩;obtain⟨D,m1,m2⟩:=g4.NK;obtain⟨D',m3,m4⟩:=fK m1;exact⟨g4.OW,g4.Kr,g4.mem,g4.Qo,D',m3,fun k hk=>m2 k (m4 k hk)⟩
theorem MG{k b2 k2 c2 kn:Nat}{cs Ff cn:List Value}(hv:Ht et n v k cs B)(ho:Aq[i]?=some ⟨d,.call ⟨.builtin .append,a, #[t,t]⟩,ty,ps,af,none⟩)(hef:ef i=true)(ha:GV e a.toList=some [v,.slice (some ⟨b2,0,none⟩) k2 c2])(ht:Ip t et n=true)(hH:Hr++B=H)
  (hi:In b2 (news++Ff) Hr) (hn:news.length=k2*n) (hcell: ∀v∈news,BL v=true) (hk:0<k2∧k+k2≤1000000∧0<n∧n≤100) (hcn:cs++news=cn) (hkn:k+k2=kn)
  (hp: ∀B',Eh Aq i U (Sy C w0 D0 l (Hr++B') R) e) (h: ∀v' B',Ht et n v' kn cn B'→X Tryz.prog Aq lo ef K rr (Sy C w0 D0 l (Hr++B') R) U (Dz d v' e)):X Tryz.prog Aq lo ef K (i::rr) (Sy C w0 D0 l H R) U e:=by
 subst hcn hkn hH;exact FH (K':=fun v' w'=> ∃B',Ht et n v' (k+k2) (cs++news) B'∧Sy C w0 D0 l (Hr++B') R w') ho hef rfl (fun w hS=>by
  obtain⟨v',B',w',h1,h2,h3⟩:=Sa (ty:=ty) (c2:=c2) hv hS ht hi hn hcell hk;have hr:=Hl (d:=d) (ps:=ps) (af:=af) (gd:=none) (b:= .append) (ty:=ty) (LX:= #[t,t]) ha (v:=v') (w:=w) (w':=w') (by
   simp only[builtin,Sem.run_bind];rw[h1];rfl)
  exact N9 hr ⟨B',h2,h3⟩) (fun v' w' ⟨B',h2,h3⟩=>⟨_,h3,hp B',h v' B' h2⟩)
theorem PZ{k:Nat}{cs:List Value}(hv:Ht et n v k cs B)(ho:Aq[i]?=some ⟨d,.call ⟨.builtin .len,a, #[t]⟩,ty,ps,af,gd⟩)(Dy:(ef i,BA Aq ⟨d,.call ⟨.builtin .len,a, #[t]⟩,ty,ps,af,gd⟩ e)=(false,true))(ha:GV e a.toList=some [v])(ht:Ec t JU=true)
  (h:X Tryz.prog Aq lo ef K rr (Sy C w0 D0 l H R) (bif lo i then(i,.int .i64 k)::U else U) (Dz d (.int .i64 k) e)):X Tryz.prog Aq lo ef K (i::rr) (Sy C w0 D0 l H R) U e:=by
 have⟨hef,hw⟩:=Fb Dy;obtain⟨p,m,rfl⟩:=hv.len;exact aV (yU ho Dy ha) ht h
theorem Zs{j:IntKind}{N:Int}(hn:n≤1000000)(hN:N=(n:Int))(ho:Aq[i]?=some ⟨d,.makeSlice t x y,ty,ps,af,none⟩)(hef:ef i=true)(hx:EF e x=some (.int j N))(hy:EF e y=some (.int k N))(ht:Ip t et 1=true)(hz:LU et=some [u])
  (hp: ∀b,Eh Aq i U (Sy C w0 D0 l (⟨b,et,List.replicate n u⟩::H) R) e) (h: ∀b,X Tryz.prog Aq lo ef K rr (Sy C w0 D0 l (⟨b,et,List.replicate n u⟩::H) R) U (Dz d (Dc b n n) e)):X Tryz.prog Aq lo ef K (i::rr) (Sy C w0 D0 l H R) U e:=
 FH (K':=fun v w'=> ∃b,v=Dc b n n∧Sy C w0 D0 l (⟨b,et,List.replicate n u⟩::H) R w') ho hef rfl (fun w hS=>by
  have h2:(execOp (ev e) ⟨d,.makeSlice t x y,ty,ps,af,none⟩).run Tryz.prog w= .ok (.value (Dc w.heap.size n n)) (w.alloc (.cells (List.replicate n u).toArray et)):=N8 (m:=Instr.makeSlice t (ev e x) (ev e y)) rfl (by rw[CY hx,CY hy,hN];exact nQ hn ht hz w);have h3: ∃b:Nat,(Dc w.heap.size n n=Dc b n n)∧Sy C w0 D0 l (⟨b,et,List.replicate n u⟩::H) R (w.alloc (.cells (List.replicate n u).toArray et)):=⟨w.heap.size,rfl,hS.alloc et _⟩;unfold Pj;rw[h2];exact h3) (fun v w' ⟨b,h1,h2⟩=>⟨_,h2,hp b,by rw[h1];exact h b⟩)
theorem Θ{g a a':Nat}{v v':Int}(haa:a'=a)(hvv:v'=v)(ho:Aq[i]?=some ⟨none,.store t x y,ty,ps,af,none⟩)(hef:ef i=true)(hx:EF e x=some (.pointer (some ⟨g,a',none⟩)))(hy:EF e y=some (.int .u64 v'))(h1:one t=true)(hH:H1++⟨g,90,Gv ws⟩::H2=H)(ha:a<ws.length)
  (hp:Eh Aq i U (Sy C w0 D0 l (H1++⟨g,90,Gv (ws.set a v)⟩::H2) R) e) (h:X Tryz.prog Aq lo ef K rr (Sy C w0 D0 l (H1++⟨g,90,Gv (ws.set a v)⟩::H2) R) U e):X Tryz.prog Aq lo ef K (i::rr) (Sy C w0 D0 l H R) U e:=by
 subst hH haa hvv;have hu:=gq (H2:=H2) (b:=g) (t:=90) (cs:=Gv ws) H1 (fun cs=>NL cs a' (.int .u64 v'));simp only[Hc] at hu;exact KQ (A9 ho hef hx hy) h1 rfl (Hj H1) (gp ha) hu hp h
end
section
variable{lo:Nat→Bool}{d:Option Nat}{gd:Option (Nat×Bool)}{x:Operand}
end
section
variable{R:BB}{r r':List Code}{e':GZ}[Inhabited (List Deferred)]{p':List Nat}
def Gx[Inhabited (List Deferred)](Q:Exit→Act→World→Prop)(n:Nat)(C:Cx)(w0:World)(D0:LV)(l:Dk)(R:BB):Xs→List Bk→GZ→Prop
 | .t r,H,e=>T Q n r (Sy C w0 D0 l H R) e
 | .x Aq lo ef o U r,H,e=>X Tryz.prog Aq lo ef (fun S e=>T Q n r S e) o (Sy C w0 D0 l H R) U e
theorem iI{s':Xs}{K:List Nat→Xs→List Bk→GZ→List Nat→List Nat→XR}(hK: ∀hs s H e p q,K hs s H e p q=some (s',H',e',p',p')→p=q∧(Gx Q n C w0 D0 l R s' H' e'→Gx Q n C w0 D0 l R s H e)){hs:List Nat}{s:Xs}{p q:List Nat}(h:Cr n hs s H e p q K=some (s',H',e',p',p')):p=q∧(Gx Q n C w0 D0 l R s' H' e'→Gx Q n C w0 D0 l R s H e):=by
 unfold Cr at h;split at h
 ·exact⟨(hK _ _ _ _ _ _ h).1,fun g=>T.seq ((hK _ _ _ _ _ _ h).2 g)⟩
 ·exact⟨(hK _ _ _ _ _ _ h).1,fun g=>T.skip ((hK _ _ _ _ _ _ h).2 g)⟩
 ·split at h
  ·rename_i hc;exact⟨(hK _ _ _ _ _ _ h).1,fun g=>T.sY hc ((hK _ _ _ _ _ _ h).2 g)⟩
  ·rename_i hc;exact⟨(hK _ _ _ _ _ _ h).1,fun g=>T.no hc ((hK _ _ _ _ _ _ h).2 g)⟩
  cases h
 ·split at h
  ·rename_i hd;rw[dM] at h;exact⟨(hK _ _ _ _ _ _ h).1,fun g=>T.eB hd rfl ((hK _ _ _ _ _ _ h).2 g)⟩
  cases h
 ·exact⟨(hK _ _ _ _ _ _ h).1,fun g=>(hK _ _ _ _ _ _ h).2 g⟩
 ·split at h
  ·rename_i ho;split at h
   ·rename_i hef;split at h
    ·rename_i hw;rw[Xm,Xl] at h;exact⟨(hK _ _ _ _ _ _ h).1,fun g=>Cg (yU ho hef hw) ((hK _ _ _ _ _ _ h).2 g)⟩
    rename_i hw;split at h
    ·split at h
     ·rename_i hx;rw[dM] at h;split at h
      ·rename_i hh;split at h
       ·rename_i h1;split at h
        ·rename_i hv;rw[Xm,Xl] at h;have a1:=(hK _ _ _ _ _ _ h).1;simp only[List.cons.injEq] at a1;obtain⟨rfl,a2⟩:=a1;exact⟨a2,fun g=>JY (yU ho (QR hef hw) hx) (XW h1) (UK hh) hv ((hK _ _ _ _ _ _ h).2 g)⟩
        cases h
       split at h
       ·rename_i hm;split at h
        ·rename_i hn;rw[Xm,Xl] at h;have a1:=(hK _ _ _ _ _ _ h).1;simp only[List.cons.injEq] at a1;obtain⟨rfl,a2⟩:=a1;exact⟨a2,fun g=>qx (yU ho (QR hef hw) hx) (UJ hm) (UK hh) (Nat.eq_of_beq_eq_true hn) ((hK _ _ _ _ _ _ h).2 g)⟩
        cases h
       cases h
      cases h
     cases h
    split at h
    ·rename_i hv;rw[Xm,Xl] at h;exact⟨(hK _ _ _ _ _ _ h).1,fun g=>Ww hv ho hef hw ((hK _ _ _ _ _ _ h).2 g)⟩
    cases h
   rename_i hef;split at h
   ·split at h
    ·split at h
     ·split at h
      ·split at h
       ·rename_i hx;rw[dM] at h;split at h
        ·rename_i hh;split at h
         ·rename_i h1;split at h
          ·rename_i hy;split at h
           ·rename_i hc;split at h
            ·rename_i hv;obtain⟨H2,hu,h2⟩:=UL (f:=fun cs=>NL cs _ _) hh (XX h);have a1:=(hK _ _ _ _ _ _ h2).1;simp only[List.cons.injEq] at a1;obtain⟨rfl,a2⟩:=a1;exact⟨a2,fun g=>KQ (A9 ho hef hx hy) (XW h1) hc (UK hh) hv hu Aw ((hK _ _ _ _ _ _ h2).2 g)⟩
            cases h
           cases h
          cases h
         split at h
         ·rename_i hm;split at h
          ·rename_i hy;split at h
           ·rename_i hc;simp only[Bool.and_eq_true] at hc;obtain⟨⟨c1,c2⟩,c3⟩:=hc;obtain⟨H2,hu,h2⟩:=UL (f:=fun cs=>Jb cs _ _) hh (YQ h);have a1:=(hK _ _ _ _ _ _ h2).1;simp only[List.cons.injEq] at a1;obtain⟨rfl,a2⟩:=a1;exact⟨a2,fun g=>H9 (A9 ho hef hx hy) (UJ hm) (Nat.eq_of_beq_eq_true c1) c2 (UK hh) (Nat.le_of_ble_eq_true c3) hu Aw ((hK _ _ _ _ _ _ h2).2 g)⟩
           cases h
          cases h
         cases h
        cases h
       cases h
      cases h
     cases h
    cases h
   cases h
  cases h
 cases h
theorem Lt{s':Xs}: ∀(k:Nat) (hs:List Nat) (s:Xs) (H:List Bk) (e:GZ) (p q:List Nat),YR n k hs s H e p q=some (s',H',e',p',p')→p=q∧(Gx Q n C w0 D0 l R s' H' e'→Gx Q n C w0 D0 l R s H e)
 |0,_,_,_,_,_,_,h=>by cases h;exact⟨rfl,id⟩
 |k+1,_,_,_,_,_,_,h=>iI (fun hs s H e p q=>Lt k hs s H e p q) h
variable{ops':Array Oper}{lo lo' XY:Nat→Bool}{o o':List Nat}{U':List (Nat×Value)}
theorem CW(k:Nat)(hs:List Nat)(hz:YR n k hs (.t r) H e [] []=some (.t r',H',e',p',p'))(h:T Q n r' (Sy C w0 D0 l H' R) e'):T Q n r (Sy C w0 D0 l H R) e:=(Lt k hs _ _ _ _ _ hz).2 h
theorem AZ(k:Nat)(hs:List Nat)(hz:YR n k hs (.t r) H e [] []=some (.x ops' lo' XY o' U' r',H',e',p',p'))(h:X Tryz.prog ops' lo' XY (fun S e=>T Q n r' S e) o' (Sy C w0 D0 l H' R) U' e'):T Q n r (Sy C w0 D0 l H R) e:=(Lt k hs _ _ _ _ _ hz).2 h
theorem AY(k:Nat)(hs:List Nat)(hz:YR n k hs (.x Aq lo ef o U r) H e [] []=some (.t r',H',e',p',p'))(h:T Q n r' (Sy C w0 D0 l H' R) e'):X Tryz.prog Aq lo ef (fun S e=>T Q n r S e) o (Sy C w0 D0 l H R) U e:=(Lt k hs _ _ _ _ _ hz).2 h
theorem AP(k:Nat)(hs:List Nat)(hz:YR n k hs (.x Aq lo ef o U r) H e [] []=some (.x ops' lo' XY o' U' r',H',e',p',p'))(h:X Tryz.prog ops' lo' XY (fun S e=>T Q n r' S e) o' (Sy C w0 D0 l H' R) U' e'):X Tryz.prog Aq lo ef (fun S e=>T Q n r S e) o (Sy C w0 D0 l H R) U e:=(Lt k hs _ _ _ _ _ hz).2 h
end
section
variable{R:BB}{r:List Code}[Inhabited (List Deferred)]{x y z:Bk}
theorem Ey(k lo ef:Nat)(hck:Bm Aq n (List.range k) (bt lo) (bt ef)=true)(h:X Tryz.prog Aq (bt lo) (bt ef) (fun S e=>T Q n r S e) (List.range k) (Sy C w0 D0 l H R) [] e):T Q n (.region id Aq true::r) (Sy C w0 D0 l H R) e:=T.any hck (fun _ h=>h.drew) h
theorem Br(o:List Nat)(lo ef:Nat)(hck:Bm Aq n o (bt lo) (bt ef)=true)(h:X Tryz.prog Aq (bt lo) (bt ef) (fun S e=>T Q n r S e) o (Sy C w0 D0 l H R) [] e):T Q n (.region id Aq true::r) (Sy C w0 D0 l H R) e:=T.any hck (fun _ h=>h.drew) h
theorem Gu(hl:CV R)(h:T Q n r (Sy C w0 D0 l [x] R) e):T Q n r (Sy C w0 D0 l [] (Az [x] R)) e:=T.conv (fun _ h=>Sy.opens (H2:=[x]) h hl) h
theorem dN(hl:CV R)(h:T Q n r (Sy C w0 D0 l [x,y] R) e):T Q n r (Sy C w0 D0 l [] (Az [x,y] R)) e:=T.conv (fun _ h=>Sy.opens (H2:=[x,y]) h hl) h
end
theorem Ci{R:BB}{c:Code}{Q:Value→Dk→BB}(n:Nat)(hf:Tryz.prog.funcs[f]?=some fn)(hz:(fn.body,fn.ntmps,Nat.ble vs.length n)=(some c,n,true))(hl:CV R)
  (h: ∀w0 D0,T (bodyPost Tryz.prog fn (Tj C w0 D0 Q)) n [c] (Sy C w0 D0 l [] R) (Bn 0 vs)):Ct C f vs.toArray l R Q:=by
 simp only[Prod.mk.injEq] at hz;exact Ct.of hf hz.1 hz.2.1 (Nat.le_of_ble_eq_true hz.2.2) hl h
end Mp
def Fj.cells(c:Fj):List Value:=[.int .i64 c.k0,.int .i64 c.k1,.int .i64 c.k2,.int .i64 c.k3,.int .i64 c.k4,.int .i64 c.Ai,.int .i64 c.Ak,.int .i64 c.BK,.int .i64 c.EE,.int .i64 c.CQ,.int .i64 c.Af,.int .i64 c.AO]
theorem OG:Cm 21=true:=by kernel_rfl
theorem g22:Cm 22=true:=by kernel_rfl
namespace Mp
theorem Hu{n:Int}(h0:0≤n∧n≤12):Cv C 49 [.int .i64 n] l Cj (.int .i64 n) l Cj:=by
 refine Ci 6 Tryz.func49 Z Aa fun w0 D0=>AZ 7 [] Z<|aW Z Z Z<|UG Z Z Z<|AY 2 [] Z<|T.BC Z fun W D h=>?_
 rw[show min (max n 0) 12=n by omega];exact⟨D,⟨rfl,rfl,h⟩,fun _ hk=>hk⟩
theorem wH{k:Int}(hk:0≤k∧k<5):Cv C 79 [.int .i64 k] l Cj (.bool true) l Cj:=by
 exact Ci 9 Tryz.func79 Z Aa fun w0 D0=>AZ 7 [] Z<|Du (c:=true) Z (decide_eq_true hk.1)<|AP 2 [] Z<|Du (c:=true) Z (decide_eq_true hk.2)<|Hz Z<|AY 2 [] Z<|T.BC Z fun W D h=>⟨D,⟨rfl,rfl,h⟩,fun _ hk=>hk⟩
theorem OB{k:Int}(hk:0≤k∧k<5):Cv C 50 [.int .i64 k] l Cj (.int .i64 (FM k)) l Cj:=by
 exact Ci 8 Tryz.func50 Z Aa fun w0 D0=>AZ 8 [] Z<|CB Z g79 (wH hk) Aa<|QO Z Z Z<|AP 6 [] Z<|Le Z EB (ae hk)<|AY 2 [] Z<|T.BC Z fun W D h=>⟨D,⟨rfl,rfl,h⟩,fun _ hk=>hk⟩
theorem Et{n a b:Int}(h:a≤n∧n≤b):Cv C 21 [.int .i64 n,.int .i64 a,.int .i64 b] l Cj (.bool true) l Cj:=by
 exact Ci 15 Tryz.func21 Z Aa fun w0 D0=>AZ 8 [] Z<|Du (c:=true) Z (decide_eq_true h.1)<|AP 3 [] Z<|Du (c:=true) Z (decide_eq_true h.2)<|Hz Z<|AY 2 [] Z<|T.BC Z fun W D h=>⟨D,⟨rfl,rfl,h⟩,fun _ hk=>hk⟩
theorem Ud{n a b:Int}(h: ¬(a≤n∧n≤b)):Cv C 21 [.int .i64 n,.int .i64 a,.int .i64 b] l Cj (.bool false) l Cj:=by
 refine Ci 15 Tryz.func21 Z Aa fun w0 D0=>CW 5 [] Z ?_
 by_cases hq:a≤n
 ·skip;exact AZ 3 [] Z<|Du (c:=true) Z (decide_eq_true hq)<|AP 3 [] Z<|Du (c:=false) Z (decide_eq_false (show¬n≤b by omega))<|Hz Z<|AY 2 [] Z<|T.BC Z fun W D h=>⟨D,⟨rfl,rfl,h⟩,fun _ hk=>hk⟩
 skip;exact AZ 3 [] Z<|Du (c:=false) Z (decide_eq_false (show¬n≥a by omega))<|AP 4 [] Z<|Hz Z<|AY 2 [] Z<|T.BC Z fun W D h=>⟨D,⟨rfl,rfl,h⟩,fun _ hk=>hk⟩
theorem PG(hs:c.Sm):Cv C 22 [.agg #[.int .i64 c.k0,.int .i64 c.k1,.int .i64 c.k2,.int .i64 c.k3,.int .i64 c.k4]] l Cj (.int .i64 c.nodes) l Cj:=by
 obtain⟨h0,h1,h2,h3,h4⟩:=hs;refine Ci 16 Tryz.func22 Z Aa fun w0 D0=>AZ 2 [1] Z<|F7 Z CE fun b0=>AY 12 [] Z<|T.block<|T.Q9 6<|CW 8 [] Z<|T.block<|AZ 2 [] Z<|dS Z UW o3 (by decide) Z<|AP 5 [] Z<|CB Z XI (Hu (by assumption)) Aa<|BU Z (IntWalk.i64_in _ (by simp only[FC];omega))<|AY 2 [] Z<|T.Bj<|tx 2 nf Z<|BU (c:=1) Z (by decide)<|AY 2 [] Z<|T.EO<|CW 8 [] Z<|T.block<|AZ 2 [] Z<|dS Z UW o3 (by decide) Z<|AP 5 [] Z<|CB Z XI (Hu (by assumption)) Aa<|BU Z (IntWalk.i64_in _ (by simp only[FC];omega))<|AY 2 [] Z<|T.Bj<|tx 2 nf Z<|BU (c:=2) Z (by decide)<|AY 2 [] Z<|T.EO<|CW 8 [] Z<|T.block<|AZ 2 [] Z<|dS Z UW o3 (by decide) Z<|AP 5 [] Z<|CB Z XI (Hu (by assumption)) Aa<|BU Z (IntWalk.i64_in _ (by simp only[FC];omega))<|AY 2 [] Z<|T.Bj<|tx 2 nf Z<|BU (c:=3) Z (by decide)<|AY 2 [] Z<|T.EO<|CW 8 [] Z<|T.block<|AZ 2 [] Z<|dS Z UW o3 (by decide) Z<|AP 5 [] Z<|CB Z XI (Hu (by assumption)) Aa<|BU Z (IntWalk.i64_in _ (by simp only[FC];omega))<|AY 2 [] Z<|T.Bj<|tx 2 nf Z<|BU (c:=4) Z (by decide)<|AY 2 [] Z<|T.EO<|CW 8 [] Z<|T.block<|AZ 2 [] Z<|dS Z UW o3 (by decide) Z<|AP 5 [] Z ?_
 refine CB Z XI (Hu (by assumption)) Aa<|BU Z (IntWalk.i64_in _ (by simp only[FC];omega))<|AY 2 [] Z<|T.Bj<|tx 2 nf Z<|BU (c:=5) Z (by decide)<|AY 2 [] Z<|T.EO<|CW 6 [] Z<|T.exit<|TE.O3<|TE.DC<|CW 5 [] Z<|T.BC Z fun W D h=>?_
 obtain⟨D1,h5,h6⟩:=A8 h;refine⟨D1,⟨?_,rfl,h5⟩,h6⟩;show Value.int .i64 (0+c.k0+c.k1+c.k2+c.k3+c.k4)=_;rw[Int.zero_add];rfl
theorem UY{v:Int}(hs:c.Sm)(hv: -1000≤v∧v≤1000):Cv C 51 [.agg #[.int .i64 c.k0,.int .i64 c.k1,.int .i64 c.k2,.int .i64 c.k3,.int .i64 c.k4],.int .i64 v] l Cj (.int .i64 (c.E5 v)) l Cj:=by
 obtain⟨h0,h1,h2,h3,h4⟩:=hs;refine Ci 24 Tryz.func51 Z Aa fun w0 D0=>AZ 2 [1] Z<|F7 Z CE fun b0=>AY 8 [] Z<|T.cond Z ?_ ?_
 ·intro hb0;refine CW 4 [] Z<|T.BC Z fun W D h=>?_
  obtain⟨D1,h5,h6⟩:=A8 h;rw[show c.E5 v=_ from if_pos (of_decide_eq_true hb0)];exact⟨D1,⟨rfl,rfl,h5⟩,h6⟩
 intro hb0;refine CW 7 [] Z<|T.block<|T.Q9 6<|CW 8 [] Z<|T.block<|AZ 3 [] Z<|dS Z UW o3 (by decide) Z<|AP 8 [] Z<|CB Z XI (Hu (by assumption)) Aa<|AY 2 [] Z<|T.cond Z ?_ ?_
 ·intro hb1;refine CW 5 [] Z<|T.J8<|TE.CJ<|TE.KG<|TE.CJ<|TE.BC rfl fun W D h=>?_
  obtain⟨D1,h5,h6⟩:=A8 h;rw[show c.E5 v=_ from(if_neg (of_decide_eq_false hb0)).trans (if_pos (of_decide_eq_true hb1))];exact⟨D1,⟨rfl,rfl,h5⟩,h6⟩
 intro hb1;refine AZ 4 [] Z<|CB Z XI (Hu (by assumption)) Aa<|BU Z (IntWalk.i64_in _ (by simp only[FC];omega))<|AY 2 [] Z<|T.Bj<|tx 2 nf Z<|BU (c:=1) Z (by decide)<|AY 2 [] Z<|T.EO<|CW 8 [] Z<|T.block<|AZ 3 [] Z<|dS Z UW o3 (by decide) Z<|AP 8 [] Z<|CB Z XI (Hu (by assumption)) Aa<|AY 2 [] Z<|T.cond Z ?_ ?_
 ·intro hb2;refine CW 5 [] Z<|T.J8<|TE.CJ<|TE.KG<|TE.CJ<|TE.BC rfl fun W D h=>?_
  obtain⟨D1,h5,h6⟩:=A8 h;rw[show c.E5 v=_ from(if_neg (of_decide_eq_false hb0)).trans ((if_neg (of_decide_eq_false hb1)).trans (if_pos (of_decide_eq_true hb2)))];exact⟨D1,⟨rfl,rfl,h5⟩,h6⟩
 intro hb2;refine AZ 4 [] Z<|CB Z XI (Hu (by assumption)) Aa<|BU Z (IntWalk.i64_in _ (by simp only[FC];omega))<|AY 2 [] Z<|T.Bj<|tx 2 nf Z<|BU (c:=2) Z (by decide)<|AY 2 [] Z<|T.EO<|CW 8 [] Z<|T.block<|AZ 3 [] Z<|dS Z UW o3 (by decide) Z<|AP 8 [] Z<|CB Z XI (Hu (by assumption)) Aa<|AY 2 [] Z<|T.cond Z ?_ ?_
 ·intro hb3;refine CW 5 [] Z<|T.J8<|TE.CJ<|TE.KG<|TE.CJ<|TE.BC rfl fun W D h=>?_
  obtain⟨D1,h5,h6⟩:=A8 h;rw[show c.E5 v=_ from(if_neg (of_decide_eq_false hb0)).trans ((if_neg (of_decide_eq_false hb1)).trans ((if_neg (of_decide_eq_false hb2)).trans (if_pos (of_decide_eq_true hb3))))];exact⟨D1,⟨rfl,rfl,h5⟩,h6⟩
 intro hb3;refine AZ 4 [] Z<|CB Z XI (Hu (by assumption)) Aa<|BU Z (IntWalk.i64_in _ (by simp only[FC];omega))<|AY 2 [] Z<|T.Bj<|tx 2 nf Z<|BU (c:=3) Z (by decide)<|AY 2 [] Z<|T.EO<|CW 8 [] Z<|T.block<|AZ 3 [] Z<|dS Z UW o3 (by decide) Z<|AP 8 [] Z<|CB Z XI (Hu (by assumption)) Aa<|AY 2 [] Z<|T.cond Z ?_ ?_
 ·intro hb4;refine CW 5 [] Z<|T.J8<|TE.CJ<|TE.KG<|TE.CJ<|TE.BC rfl fun W D h=>?_
  obtain⟨D1,h5,h6⟩:=A8 h;rw[show c.E5 v=_ from(if_neg (of_decide_eq_false hb0)).trans ((if_neg (of_decide_eq_false hb1)).trans ((if_neg (of_decide_eq_false hb2)).trans ((if_neg (of_decide_eq_false hb3)).trans (if_pos (of_decide_eq_true hb4)))))];exact⟨D1,⟨rfl,rfl,h5⟩,h6⟩
 intro hb4;refine AZ 4 [] Z<|CB Z XI (Hu (by assumption)) Aa<|BU Z (IntWalk.i64_in _ (by simp only[FC];omega))<|AY 2 [] Z<|T.Bj<|tx 2 nf Z<|BU (c:=4) Z (by decide)<|AY 2 [] Z<|T.EO<|CW 8 [] Z<|T.block<|AZ 3 [] Z<|dS Z UW o3 (by decide) Z<|AP 8 [] Z<|CB Z XI (Hu (by assumption)) Aa<|AY 2 [] Z<|T.cond Z ?_ ?_
 ·intro hb5;refine CW 5 [] Z<|T.J8<|TE.CJ<|TE.KG<|TE.CJ<|TE.BC rfl fun W D h=>?_
  obtain⟨D1,h5,h6⟩:=A8 h;rw[show c.E5 v=_ from(if_neg (of_decide_eq_false hb0)).trans ((if_neg (of_decide_eq_false hb1)).trans ((if_neg (of_decide_eq_false hb2)).trans ((if_neg (of_decide_eq_false hb3)).trans ((if_neg (of_decide_eq_false hb4)).trans (if_pos (of_decide_eq_true hb5))))))];exact⟨D1,⟨rfl,rfl,h5⟩,h6⟩
 intro hb5;refine AZ 4 [] Z<|CB Z XI (Hu (by assumption)) Aa<|BU Z (IntWalk.i64_in _ (by simp only[FC];omega))<|AY 2 [] Z<|T.Bj<|tx 2 nf Z<|BU (c:=5) Z (by decide)<|AY 2 [] Z<|T.EO<|CW 6 [] Z<|T.exit<|TE.O3<|TE.DC<|CW 4 [] Z<|T.BC Z fun W D h=>?_
 obtain⟨D1,h5,h6⟩:=A8 h;rw[show c.E5 v=_ from(if_neg (of_decide_eq_false hb0)).trans ((if_neg (of_decide_eq_false hb1)).trans ((if_neg (of_decide_eq_false hb2)).trans ((if_neg (of_decide_eq_false hb3)).trans ((if_neg (of_decide_eq_false hb4)).trans (if_neg (of_decide_eq_false hb5))))))];exact⟨D1,⟨rfl,rfl,h5⟩,h6⟩
theorem Hk(hs:c.Sm):Cv C 6 [.agg c.cells.toArray] l Cj (.int .i64 (if c.ok=true then 0 else 21)) l Cj:=by
 obtain⟨h0,h1,h2,h3,h4⟩:=hs;refine Ci 69 Tryz.func6 Z Aa fun w0 D0=>AZ 2 [1] Z<|F7 Z CE fun b0=>AY 13 [] Z<|T.block<|T.Q9 6<|CW 8 [] Z<|T.block<|AZ 2 [] Z<|dS Z UW o3 (by decide) Z<|AP 6 [] Z<|CB Z OG (Et (by assumption)) Aa<|AY 4 [] Z<|T.Bj<|tx 2 nf Z<|BU (c:=1) Z (by decide)<|AY 2 [] Z<|T.EO<|CW 8 [] Z<|T.block<|AZ 2 [] Z<|dS Z UW o3 (by decide) Z<|AP 6 [] Z<|CB Z OG (Et (by assumption)) Aa<|AY 4 [] Z<|T.Bj<|tx 2 nf Z<|BU (c:=2) Z (by decide)<|AY 2 [] Z<|T.EO<|CW 8 [] Z<|T.block<|AZ 2 [] Z<|dS Z UW o3 (by decide) Z<|AP 6 [] Z<|CB Z OG (Et (by assumption)) Aa<|AY 4 [] Z<|T.Bj<|tx 2 nf Z<|BU (c:=3) Z (by decide)<|AY 2 [] Z<|T.EO<|CW 8 [] Z<|T.block<|AZ 2 [] Z<|dS Z UW o3 (by decide) Z<|AP 6 [] Z<|CB Z OG (Et (by assumption)) Aa<|AY 4 [] Z<|T.Bj<|tx 2 nf Z<|BU (c:=4) Z (by decide)<|AY 2 [] Z<|T.EO<|CW 8 [] Z<|T.block<|AZ 2 [] Z<|dS Z UW o3 (by decide) Z<|AP 6 [] Z<|CB Z OG (Et (by assumption)) Aa<|AY 4 [] Z<|T.Bj<|tx 2 nf Z<|BU (c:=5) Z (by decide)<|AY 2 [] Z<|T.EO<|CW 6 [] Z<|T.exit<|TE.O3<|TE.DC<|CW 2 [] Z ?_
 by_cases q0:1≤c.Ai∧c.Ai≤4
 ·skip;by_cases q1:1≤c.Ak∧c.Ak≤4
  ·skip;by_cases q2:2≤c.BK∧c.BK≤8
   ·skip;by_cases q3:1≤c.EE∧c.EE≤16
    ·skip;by_cases q4:1≤c.CQ∧c.CQ≤4
     ·skip;by_cases q5:1≤c.Af∧c.Af≤8
      ·skip;by_cases q6:1≤c.AO∧c.AO≤16
       ·skip;by_cases q7:c.nodes=0
        ·skip;refine AZ 4 [] Z<|CB Z OG (Et q0) Aa<|AP 5 [] Z<|CB Z OG (Et q1) Aa<|AP 6 [] Z<|CB Z OG (Et q2) Aa<|AP 6 [] Z<|CB Z OG (Et q3) Aa<|AP 6 [] Z<|CB Z OG (Et q4) Aa<|AP 6 [] Z<|CB Z OG (Et q5) Aa<|AP 6 [] Z<|CB Z OG (Et q6) Aa<|AP 5 [] Z<|CB Z g22 (PG ⟨h0,h1,h2,h3,h4⟩) Aa<|Du (c:=true) Z (beq_iff_eq.2 q7)<|AY 7 [] Z<|T.BC Z fun W D h=>?_
         obtain⟨D1,h5,h6⟩:=A8 h;rw[show(if c.ok=true then(0:Int) else 21)=_ from if_neg (fun hq=>by have hq:=Fj.NH.1 hq;unfold Fj.nodes at*;omega)];exact⟨D1,⟨rfl,rfl,h5⟩,h6⟩
        skip;refine AZ 4 [] Z<|CB Z OG (Et q0) Aa<|AP 5 [] Z<|CB Z OG (Et q1) Aa<|AP 6 [] Z<|CB Z OG (Et q2) Aa<|AP 6 [] Z<|CB Z OG (Et q3) Aa<|AP 6 [] Z<|CB Z OG (Et q4) Aa<|AP 6 [] Z<|CB Z OG (Et q5) Aa<|AP 6 [] Z<|CB Z OG (Et q6) Aa<|AP 5 [] Z<|CB Z g22 (PG ⟨h0,h1,h2,h3,h4⟩) Aa<|Du (c:=false) Z (beq_eq_false_iff_ne.2 q7)<|AY 8 [] Z<|T.BC Z fun W D h=>?_
        obtain⟨D1,h5,h6⟩:=A8 h;rw[show(if c.ok=true then(0:Int) else 21)=_ from if_pos (Fj.NH.2 (by unfold Fj.nodes at q7;omega))];exact⟨D1,⟨rfl,rfl,h5⟩,h6⟩
       skip;refine AZ 4 [] Z<|CB Z OG (Et q0) Aa<|AP 5 [] Z<|CB Z OG (Et q1) Aa<|AP 6 [] Z<|CB Z OG (Et q2) Aa<|AP 6 [] Z<|CB Z OG (Et q3) Aa<|AP 6 [] Z<|CB Z OG (Et q4) Aa<|AP 6 [] Z<|CB Z OG (Et q5) Aa<|AP 6 [] Z<|CB Z OG (Ud q6) Aa<|AY 14 [] Z<|T.BC Z fun W D h=>?_
       obtain⟨D1,h5,h6⟩:=A8 h;rw[show(if c.ok=true then(0:Int) else 21)=_ from if_neg (fun hq=>by have hq:=Fj.NH.1 hq;omega)];exact⟨D1,⟨rfl,rfl,h5⟩,h6⟩
      skip;refine AZ 4 [] Z<|CB Z OG (Et q0) Aa<|AP 5 [] Z<|CB Z OG (Et q1) Aa<|AP 6 [] Z<|CB Z OG (Et q2) Aa<|AP 6 [] Z<|CB Z OG (Et q3) Aa<|AP 6 [] Z<|CB Z OG (Et q4) Aa<|AP 6 [] Z<|CB Z OG (Ud q5) Aa<|AY 21 [] Z<|T.BC Z fun W D h=>?_
      obtain⟨D1,h5,h6⟩:=A8 h;rw[show(if c.ok=true then(0:Int) else 21)=_ from if_neg (fun hq=>by have hq:=Fj.NH.1 hq;omega)];exact⟨D1,⟨rfl,rfl,h5⟩,h6⟩
     skip;refine AZ 4 [] Z<|CB Z OG (Et q0) Aa<|AP 5 [] Z<|CB Z OG (Et q1) Aa<|AP 6 [] Z<|CB Z OG (Et q2) Aa<|AP 6 [] Z<|CB Z OG (Et q3) Aa<|AP 6 [] Z<|CB Z OG (Ud q4) Aa<|AY 28 [] Z<|T.BC Z fun W D h=>?_
     obtain⟨D1,h5,h6⟩:=A8 h;rw[show(if c.ok=true then(0:Int) else 21)=_ from if_neg (fun hq=>by have hq:=Fj.NH.1 hq;omega)];exact⟨D1,⟨rfl,rfl,h5⟩,h6⟩
    skip;refine AZ 4 [] Z<|CB Z OG (Et q0) Aa<|AP 5 [] Z<|CB Z OG (Et q1) Aa<|AP 6 [] Z<|CB Z OG (Et q2) Aa<|AP 6 [] Z<|CB Z OG (Ud q3) Aa<|AY 35 [] Z<|T.BC Z fun W D h=>?_
    obtain⟨D1,h5,h6⟩:=A8 h;rw[show(if c.ok=true then(0:Int) else 21)=_ from if_neg (fun hq=>by have hq:=Fj.NH.1 hq;omega)];exact⟨D1,⟨rfl,rfl,h5⟩,h6⟩
   skip;refine AZ 4 [] Z<|CB Z OG (Et q0) Aa<|AP 5 [] Z<|CB Z OG (Et q1) Aa<|AP 6 [] Z<|CB Z OG (Ud q2) Aa<|AP 40 [] Z<|AY 2 [] Z<|T.BC Z fun W D h=>?_
   obtain⟨D1,h5,h6⟩:=A8 h;rw[show(if c.ok=true then(0:Int) else 21)=_ from if_neg (fun hq=>by have hq:=Fj.NH.1 hq;omega)];exact⟨D1,⟨rfl,rfl,h5⟩,h6⟩
  skip;refine AZ 4 [] Z<|CB Z OG (Et q0) Aa<|AP 5 [] Z<|CB Z OG (Ud q1) Aa<|AP 40 [] Z<|AY 9 [] Z<|T.BC Z fun W D h=>?_
  obtain⟨D1,h5,h6⟩:=A8 h;rw[show(if c.ok=true then(0:Int) else 21)=_ from if_neg (fun hq=>by have hq:=Fj.NH.1 hq;omega)];exact⟨D1,⟨rfl,rfl,h5⟩,h6⟩
 skip;refine AZ 4 [] Z<|CB Z OG (Ud q0) Aa<|AP 40 [] Z<|AY 15 [] Z<|T.BC Z fun W D h=>?_
 obtain⟨D1,h5,h6⟩:=A8 h;rw[show(if c.ok=true then(0:Int) else 21)=_ from if_neg (fun hq=>by have hq:=Fj.NH.1 hq;omega)];exact⟨D1,⟨rfl,rfl,h5⟩,h6⟩
end Mp
def He(K:Cx)(ra rr:List Value):List Bk:=[⟨K.m,109,K.Gq.toList⟩,⟨K.ga,3,Dl K.M.at_++ra⟩,⟨K.gr,3,Dl K.M.BM++rr⟩]
structure QJ (K:Cx) (ra rr:List Value):Prop where
 ok:K.M.Ok
 ca:K.M.at_.length+ra.length=K.ca∧K.ca≤maxLen
 cr:K.M.BM.length+rr.length=K.cr∧K.cr≤maxLen
theorem E8.of{K:Cx}{rr:List Value}{R:BB}(h:QJ K ra rr)(hb:Az (He K ra rr) R D w):E8 w K:=by
 have h1:=(F6 hb (x:=⟨K.m,109,K.Gq.toList⟩) (by simp[He])).1;have h2:=(F6 hb (x:=⟨K.ga,3,Dl K.M.at_++ra⟩) (by simp[He])).1;have h3:=(F6 hb (x:=⟨K.gr,3,Dl K.M.BM++rr⟩) (by simp[He])).1;refine⟨h.ok,h1,?_,?_⟩
 ·exact own_blk h2 (by have:=h.ca.1;omega) h.ca.2 (by rw[List.length_map,Nat.mul_one];exact h.ca.1) (by rw[List.length_map,Nat.mul_one])
 exact own_blk h3 (by have:=h.cr.1;omega) h.cr.2 (by rw[List.length_map,Nat.mul_one];exact h.cr.1) (by rw[List.length_map,Nat.mul_one])
def O9(c:Fj)(Jq head Iu Gi DW nodes Bq parts all:Int)(av rv:Value):List Value:=
 [.int .i64 Jq,.int .i64 head,.int .i64 Iu,.int .i64 Gi,.int .i64 DW,.int .i64 nodes,.int .i64 Bq,.int .i64 parts,.int .i64 all,.int .i64 c.k0,.int .i64 c.k1,.int .i64 c.k2,.int .i64 c.k3,.int .i64 c.k4,.int .i64 c.Ai,.int .i64 c.Ak,.int .i64 c.BK,.int .i64 c.EE,.int .i64 c.CQ,.int .i64 c.Af,.int .i64 c.AO,av,rv]
theorem gy{a b:Int}(ha:0≤a∧a≤1000000)(hb:1≤b)(w:World):(binOp .quo t (.int .i64 a) (.int .i64 b)).run Tryz.prog w= .ok (.int .i64 (a/b)) w:=by
 have h0:b≠0:=by omega
 have h1:a.tdiv b=a/b:=Int.tdiv_eq_ediv_of_nonneg ha.1;have h2:=Un ha.1 hb;have h3:IntKind.i64.wrap (a/b)=a/b:=IntWalk.i64_in _ (by omega);simp[binOp,Op.intDiv,go_sem,h0,h1,h3]
theorem Hn:Pm 109 2 21=true:=by kernel_rfl
theorem g6:Cm 6=true:=by kernel_rfl
theorem AaK:Jv 109 [(0,9),(9,12),(21,1),(22,1)]=true:=by kernel_rfl
theorem AaL:LU 109=some [.int .i64 0,.int .i64 0,.int .i64 0,.int .i64 0,.int .i64 0,.int .i64 0,.int .i64 0,.int .i64 0,.int .i64 0,.int .i64 0,.int .i64 0,.int .i64 0,.int .i64 0,.int .i64 0,.int .i64 0,.int .i64 0,.int .i64 0,.int .i64 0,.int .i64 0,.int .i64 0,.int .i64 0,.slice none 0 0,.slice none 0 0]:=by kernel_rfl
namespace Mp
theorem Ι(h:c.ok=true):Cv C 6 [.agg c.cells.toArray] l Cj (.int .i64 0) l Cj:=by
 have:=Hk (C:=C) (l:=l) (Fj.Ok.of h).sm;rw[if_pos h] at this;exact this
theorem Hv{b1 ab am rm:Nat}{FU:List Value}
  (h:Az [⟨b1,109,O9 c 6 (6+c.Ak) (6+c.Ak+5) (6+c.Ak+5+c.Ai*(2+c.BK)) c.DW c.nodes c.Bq ((c.nodes+c.AO-1)/c.AO) (G6 c.BM c.DW) (Dc ab c.nodes.toNat am) (Dc rb c.nodes.toNat rm)⟩,⟨ab,3,Dl (KY c.BM c.DW)++GI⟩,⟨rb,3,Dl c.BM++FU⟩] Cj D w):Az (He ⟨0,0,0,b1,ab,rb,am,rm,c.map⟩ GI FU) Cj D w:=by
 have e:(⟨0,0,0,b1,ab,rb,am,rm,c.map⟩:Mo.Cx).Gq.toList=O9 c 6 (6+c.Ak) (6+c.Ak+5) (6+c.Ak+5+c.Ai*(2+c.BK)) c.DW c.nodes c.Bq ((c.nodes+c.AO-1)/c.AO) (G6 c.BM c.DW) (Dc ab c.nodes.toNat am) (Dc rb c.nodes.toNat rm):=by
  have e1:c.map.at_.length=c.nodes.toNat:=by show(KY c.BM c.DW).length=_;rw[Uo,Il]
  have e2:c.map.BM.length=c.nodes.toNat:=Il c;simp only[Mo.Cx.Gq,e1,e2];rfl
 unfold He;rw[e];exact h
theorem Κ(hok:c.ok=true):Ce (α:=Mo.Cx×List Value×List Value) C 23 [.agg c.cells.toArray] l Cj (fun a=> .tuple #[AX a.1.m,.int .i64 0]) l (fun a=>a.1.M=c.map∧QJ a.1 a.2.1 a.2.2) (fun a=>Az (He a.1 a.2.1 a.2.2) Cj):=by
 have hc:=Fj.Ok.of hok;have hn:=hc.nodes;have hd1:=hc.Ai;have hd2:=hc.Ak;have hd3:=hc.BK;have hd4:=hc.EE;have hd5:=hc.AO;obtain⟨hn1,hn2,hn3⟩:=Fj.nums hc;have hn4:c.DW=6+c.Ak+5+c.Ai*(2+c.BK)+c.Bq*6:=rfl;refine Ci 201 Tryz.func23 Z Aa fun w0 D0=>AZ 2 [1] Z<|F7 Z CE fun b0=>AP 7 [] Z<|CB Z g6 (Ι hok) Aa<|AP 12 [0,4] Z<|Fp Z AaK AaL Z<|F7 Z CE fun b1=>AP 7 [128,1] Z<|CB Z g22 (PG hc.sm) Aa<|AY 6 [] Z<|Ey 17 0 65536 (by kernel_rfl)<|AP 8 [0,1] Z<|BU (c:=2*c.Ai) Z (IntWalk.i64_in _ (by simp only[FC];omega))<|BU (c:=c.nodes+2*c.Ai) Z (IntWalk.i64_in _ (by simp only[FC];omega))<|AP 2 [1] Z<|BU (c:=c.nodes+2*c.Ai+c.Ak) Z (IntWalk.i64_in _ (by simp only[FC];omega))<|AY 10 [] Z<|T.block<|T.loop (fun(x:Nat×Value×List Bk) w=>(x.1≤c.nodes.toNat∧Ht 3 1 x.2.1 x.1 (Dl (c.BM.take x.1)) x.2.2)∧Sy C w0 D0 l (⟨b1,109,O9 c 0 0 0 0 0 c.nodes (c.NI x.1) 0 0 (.slice none 0 0) x.2.1⟩::⟨b0,24,c.cells⟩::x.2.2) Cj w) (fun x=>[(6,.int .i64 ((x.1:Int)+1)),(5,AX b1),(1,AX b0)]) (fun x=>c.nodes.toNat-x.1) (0,.slice none 0 0,[]) (fun w h=>⟨⟨Nat.zero_le _,Ht.nil⟩,h⟩) ⟨Z,Z,Z,trivial⟩ ?_
 rintro⟨i,rv,RB⟩ g;refine T.pure ?_;rintro⟨hi,hR⟩;simp only at hi hR;refine CW 11 [] Z<|T.cond Z ?_ ?_
 ·intro hb0;have hin:i<c.nodes.toNat:=by have:=of_decide_eq_true hb0;omega
  have AfQ:=KO _ (JD hc (v:=(i:Int)+1) (by omega));have hma:=Ov hc i (by omega);have AfR:=Ov hc (i+1) (by omega);exact CW 2 [] Z<|T.block<|AZ 5 [0,1] Z<|CB Z va (UY hc.sm (by omega)) Aa<|CB Z tD (OB (JD hc (by omega))) Aa<|AP 10 [1216] Z<|Qc Z JV z3 (by decide) Z Z Z CE fun b2=>MG (n:=1) (news:=Dl [FM (c.E5 ((i:Int)+1))]) (Ff:=[]) (Hr:=[_,_,_]) (cn:=Dl (c.BM.take (i+1))) (kn:=i+1) hR Z Z Z JV Z .z Z (by simp[BL,Dl]) ⟨by omega,by omega,by omega,by omega⟩ (by rw[VN hin];simp[Dl]) Z CE fun v' B' hR'=>AP 2 [] Z<|KQ Z XL hR'.cell (.s .z) Z (.s .z) Aw<|X.nil<|Ey 18 0 131072 (by kernel_rfl)<|AP 8 [1,2] Z<|BU (c:=FM (c.E5 ((i:Int)+1))+c.EE) Z (IntWalk.i64_in _ (by simp only[FC];omega))<|BU (c:=FM (c.E5 ((i:Int)+1))+c.EE-1) Z (IntWalk.i64_in _ (by simp only[FC];omega))<|AP 2 [2] Z<|Le Z Pg (gy (by omega) (by omega))<|BU (c:=c.NI (i+1)) Z (by simp only[FC];rw[←QX hin];exact IntWalk.i64_in _ (by omega))<|AY 5 [1] Z<|T.Bj<|AZ 2 [] Z<|BU (c:=(((i+1:Nat):Int)+1)) Z (by simp only[FC];rw[IntWalk.i64_in _ (by omega)];omega)<|AY 2 [] Z<|T.FT (i+1,v',B') (by show c.nodes.toNat-(i+1)<c.nodes.toNat-i;omega) (fun w h=>⟨⟨by show i+1≤c.nodes.toNat;omega,hR'⟩,h.Jc Aa Wk.tail⟩) ⟨rfl,rfl,rfl,trivial⟩
 intro hb0;have hi2:i=c.nodes.toNat:=by have:=of_decide_eq_false hb0;omega
 subst hi2;obtain⟨rb,FU,rm,rfl,hr1,hr2,hr3,-,rfl⟩:=hR.resolve_left (fun h=>by omega);rw[Yr] at hr3⊢
 rw[Qj];refine T.exit<|TE.FQ<|TE.DC<|T.seq<|Ey 17 0 65536 (by kernel_rfl)<|AP 8 [0,1] Z<|BU (c:=c.nodes+c.AO) Z (IntWalk.i64_in _ (by simp only[FC];omega))<|BU (c:=c.nodes+c.AO-1) Z (IntWalk.i64_in _ (by simp only[FC];omega))<|AP 2 [1] Z<|Le Z Pg (gy (by omega) (by omega))<|AY 14 [0,16] Z<|Ey 13 0 4096 (by kernel_rfl)<|AP 8 [0,1] Z<|BU (c:=6+c.Ak) Z (IntWalk.i64_in _ (by simp only[FC];omega))<|AP 13 [0,1024] Z<|BU (c:=6+c.Ak+5) Z (IntWalk.i64_in _ (by simp only[FC];omega))<|AY 6 [] Z<|Ey 17 0 65536 (by kernel_rfl)<|AP 10 [0,1,1] Z<|BU (c:=2+c.BK) Z (IntWalk.i64_in _ (by simp only[FC];omega))<|BU (c:=c.Ai*(2+c.BK)) Z (IntWalk.i64_in _ (by simp only[FC];omega))<|BU (c:=6+c.Ak+5+c.Ai*(2+c.BK)) Z (IntWalk.i64_in _ (by simp only[FC];omega))<|AY 6 [] Z<|Ey 17 0 65536 (by kernel_rfl)<|AP 11 [] Z<|BU (c:=c.Bq*6) Z (IntWalk.i64_in _ (by simp only[FC];omega))<|BU (c:=c.DW) Z (by simp only[FC];exact IntWalk.i64_in _ (by omega))<|AY 28 [0,512] Z<|T.block ?_;refine T.loop (fun(x:Nat×Value×List Bk) w=>(x.1≤c.nodes.toNat∧Ht 3 1 x.2.1 x.1 (Dl (KY (c.BM.take x.1) c.DW)) x.2.2)∧Sy C w0 D0 l (⟨b1,109,O9 c 6 (6+c.Ak) (6+c.Ak+5) (6+c.Ak+5+c.Ai*(2+c.BK)) c.DW c.nodes c.Bq ((c.nodes+c.AO-1)/c.AO) (G6 (c.BM.take x.1) c.DW) x.2.1 (Dc rb c.nodes.toNat rm)⟩::⟨b0,24,c.cells⟩::⟨rb,3,Dl c.BM++FU⟩::x.2.2) Cj w) (fun x=>[(170,.int .i64 ((x.1:Nat):Int)),(169,.int .i64 ((c.nodes.toNat:Nat):Int)),(168,Dc rb c.nodes.toNat rm),(5,AX b1)]) (fun x=>c.nodes.toNat-x.1) (0,.slice none 0 0,[]) (fun w h=>⟨⟨Nat.zero_le _,Ht.nil⟩,h⟩) ⟨Z,Z,Z,Z,trivial⟩ ?_;rintro⟨j,av,AB⟩ g2;refine T.pure ?_;rintro⟨hj,hA⟩;simp only at hj hA;refine CW 5 [] Z<|T.cond Z ?_ ?_
 ·intro hb1;have hjn:j<c.nodes.toNat:=Int.ofNat_lt.1 (of_decide_eq_true hb1);have hro:=Xe hc hjn;have hoe:=NJ hc j c.DW;have AfS:=NJ hc (j+1) c.DW;refine CW 2 [] Z<|T.block<|AZ 2 [] Z<|Jm Z JV ⟨Int.natCast_nonneg _,Int.ofNat_lt.2 hjn⟩<|JY Z o3 (.s (.s .z)) (EL (by rw[Il];exact hjn))<|AY 3 [] Z<|Ey 15 31 19456 (by kernel_rfl)<|AP 10 [] Z<|Qc Z JV z3 (by decide) Z Z Z (fun _=>(BP Z XL (.s .z) Z (Ed Z Hn (Ia Z (Bv Z (Bv Z Aw)))))) fun b3=>MG (n:=1) (news:=Dl [G6 (c.BM.take j) c.DW]) (Ff:=[]) (Hr:=[_,_,_,_]) (cn:=Dl (KY (c.BM.take (j+1)) c.DW)) (kn:=j+1) hA Z Z Z JV Z .z Z (by simp[BL,Dl]) ⟨by omega,by omega,by omega,by omega⟩ (by rw[qh hjn];simp[Dl]) Z (fun _=>(BP Z XL (.s .z) Z (Ed Z Hn (Ia Z (Bv Z (Bv Z Aw)))))) fun v' B' hR'=>AP 2 [] Z<|KQ Z XL hR'.cell (.s .z) Z (.s .z) (Aj (by kernel_rfl) (Aj (by kernel_rfl) (Aj (by kernel_rfl) (Aj (by kernel_rfl) (Aj (by kernel_rfl) Aw)))))<|AP 8 [2048,1] Z<|BU (c:=4+c.BM.getD j 0) Z (IntWalk.i64_in _ (by simp only[FC];omega))<|BU (c:=G6 (c.BM.take (j+1)) c.DW) Z (by simp only[FC];rw[←nI hjn];exact IntWalk.i64_in _ (by omega))<|AY 5 [1] Z<|T.Bj<|tx 2 nf Z<|BU (c:=((j+1:Nat):Int)) Z (by simp only[FC];rw[IntWalk.i64_in _ (by omega)];omega)<|AY 2 [] Z ?_
  exact T.FT (j+1,v',B') (by show c.nodes.toNat-(j+1)<c.nodes.toNat-j;omega) (fun w h=>⟨⟨by show j+1≤c.nodes.toNat;omega,hR'⟩,h.Jc Aa Wk.tail⟩) ⟨rfl,rfl,rfl,rfl,trivial⟩
 intro hb1;have hj2:j=c.nodes.toNat:=by have: ¬((j:Nat):Int)<((c.nodes.toNat:Nat):Int):=of_decide_eq_false hb1;omega
 subst hj2;obtain⟨ab,GI,am,rfl,ha1,ha2,JK,-,rfl⟩:=hA.resolve_left (fun h=>by omega);rw[Yr] at JK⊢
 refine T.exit<|TE.FQ<|TE.DC<|CW 6 [] Z<|T.YJ Z fun W D h=>?_
 obtain⟨D1,h1,h2⟩:=D6 [0,3,2] (by decide) h;rw[Jo] at hr3 JK;exact⟨D1,⟨(⟨0,0,0,b1,ab,rb,am,rm,c.map⟩,GI,FU),rfl,⟨rfl,⟨Fj.VO hc,⟨by show(KY c.BM c.DW).length+GI.length=am;omega,ha2⟩,⟨by show c.BM.length+FU.length=rm;omega,hr2⟩⟩⟩,rfl,Hv h1⟩,h2⟩
end Mp
theorem mc:Cm 11=true:=by kernel_rfl
namespace Mp
section
variable{R:BB}{K:Mo.Cx}{rr:List Value}
theorem O0(h:QJ K ra rr){p:Int}:Cv C 54 [AX K.m,.int .i64 p] l (Az (He K ra rr) R) (.int .i64 (K.M.FI p)) l (Az (He K ra rr) R):=Cv.get fun w D hb=>Yx w K (E8.of h hb) p
theorem Sj(h:QJ K ra rr):Cv C 11 [AX K.m] l (Az (He K ra rr) R) (.int .i64 K.M.nodes) l (Az (He K ra rr) R):=Cv.get fun w D hb=>Uu w K (E8.of h hb)
theorem Q3(h:QJ K ra rr){v:Int}:Cv C 33 [AX K.m,.int .i64 v] l (Az (He K ra rr) R) (.int .i64 (K.M.DK v)) l (Az (He K ra rr) R):=Cv.get fun w D hb=>Xg w K (E8.of h hb) v
theorem PH(h:QJ K ra rr){v:Int}:Cv C 56 [AX K.m,.int .i64 v] l (Az (He K ra rr) R) (.int .i64 (K.M.D7 v)) l (Az (He K ra rr) R):=Cv.get fun w D hb=>Ut w K (E8.of h hb) v
theorem Kw(h:QJ K ra rr){v:Int}:Cv C 55 [AX K.m,.int .i64 v] l (Az (He K ra rr) R) (.int .i64 (K.M.CU v)) l (Az (He K ra rr) R):=Cv.get fun w D hb=>Ql w K (E8.of h hb) v
theorem UO(h:QJ K ra rr){v:Int}:Cv C 35 [AX K.m,.int .i64 v] l (Az (He K ra rr) R) (.int .i64 (K.M.Eg v)) l (Az (He K ra rr) R):=Cv.get fun w D hb=>Yw w K (E8.of h hb) v
theorem X0(h:QJ K ra rr){v:Int}:Cv C 36 [AX K.m,.int .i64 v] l (Az (He K ra rr) R) (.int .i64 (K.M.Next v)) l (Az (He K ra rr) R):=Cv.get fun w D hb=>Yy w K (E8.of h hb) v
theorem qU{k:Int}(hk:0≤k∧k≤4294967295):Cv C 53 [.int .u32 0,.int .u32 k] l R (.int .u64 k) l R:=Cv.get fun w _ _=>by
 have:=TT w 0 k (by omega) hk;rw[show pair 0 k=k by unfold pair;omega] at this;exact this
end
theorem Cv.kH{R:BB}(hl:CV R)(h:Cv C f args l Cj v l' Cj):Cv C f args l R v l' R:=by
 have:=Cv.FD h hl;rw[Gl] at this;exact this
theorem Λ{R:BB}(hl:CV R){K:Mo.Cx}{rr:List Value}{v:Int}(hc:c.Ok)(hK:K.M=c.map)(hv: -1000≤v∧v≤1000):Cv C 37 [AX K.m,.int .i64 v] l (Az (He K ra rr) R) (.int .i64 (c.E5 v)) l (Az (He K ra rr) R):=by
 obtain⟨ks,kg,kc,km,ga,gr,ca,cr,M⟩:=K;obtain rfl:M=c.map:=hK;exact Ci 14 Tryz.func37 Z (Ac hl _) fun w0 D0=>T.conv (fun w h=>Sy.opens (H2:=He _ _ _) h hl)<|AZ 20 [] Z<|CB Z va (Cv.kH hl (UY hc.sm hv)) hl<|AY 2 [] Z<|T.BC Z fun W D h=>⟨D,⟨rfl,rfl,h⟩,fun _ hk=>hk⟩
theorem HD{K:Mo.Cx}{rr:List Value}(hc:c.Ok)(hK:K.M=c.map)(hok:QJ K ra rr):Ce (α:=Nat) C 25 [AX K.m] l (Az (He K ra rr) Cj) (fun q=>Dc q c.map.all.toNat c.map.all.toNat) l (fun _=>True) (fun q=>Az (⟨q,90,Gv c.map.first⟩::He K ra rr) Cj):=by
 obtain⟨ks,kg,kc,km,ga,gr,ca,cr,M⟩:=K;obtain rfl:M=c.map:=hK;have hn:=hc.nodes;have hd1:=hc.Ak;obtain⟨hn1,hn2,hn3⟩:=Fj.nums hc;have hn4:c.DW=6+c.Ak+5+c.Ai*(2+c.BK)+c.Bq*6:=rfl;have hall:=iF hc;have AfT:=I7 hc (v:=c.nodes) (by omega);have hst:c.DW≤c.map.DK c.nodes∧c.map.DK c.nodes<c.map.all:=Ur hc (j:=1) (by omega) (by omega);have hhe:c.DW≤c.map.D7 c.nodes∧c.map.D7 c.nodes<c.map.all:=Ur hc (j:=0) (by omega) (by omega);obtain⟨n,dg⟩: ∃n:Nat,c.map.all=(n:Int):=⟨c.map.all.toNat,by omega⟩;have hnn:c.map.all.toNat=n:=by omega
 rw[hnn];have Ad7:1≤c.Bq:=by have:=VP hc;omega
 generalize hL1:Mc c.map (c.Bq.toNat-1) 1 ((List.replicate n 0).set 5 1)=L1;generalize hL2:NG c.map (c.nodes-1).toNat ((L1.set (c.map.DK c.nodes).toNat 1).set (c.map.D7 c.nodes).toNat (c.map.CU c.nodes))=L2;have Zx:c.map.first=L2:=by
  rw[←hL2,←hL1,←hnn,show c.Bq.toNat-1=(c.Bq-1).toNat by omega];rfl
 refine Ci 79 Tryz.func25 Z (Ac Aa _) fun w0 D0=>T.conv (fun w h=>Sy.opens (H2:=He _ _ _) h Aa)<|AZ 19 [0,0,32] Z<|Zs (n:=n) (by omega) dg Z Z Z Z dV kw CE fun b=>AY 3 [] Z ?_
 rw[Hh];refine AZ 2 [8] Z<|CB Z iX (qU (by omega)) Aa<|Jm Z dV ⟨by decide,by omega⟩<|Θ (H1:=[]) (H2:=He ⟨ks,kg,kc,km,ga,gr,ca,cr,c.map⟩ ra rr) (a:=5) Z Z Z Z Z Z M8 Z (by rw[List.length_replicate];omega) Aw<|AY 6 [] Z<|T.block<|T.loop (fun(x:Nat×Dk) w=>((1≤x.1∧(x.1:Int)≤2000∧x.2.length=n)∧Mc c.map (c.Bq.toNat-x.1) x.1 x.2=L1)∧Sy C w0 D0 l (⟨b,90,Gv x.2⟩::He ⟨ks,kg,kc,km,ga,gr,ca,cr,c.map⟩ ra rr) Cj w) (fun x=>[(4,.int .i64 ((x.1:Nat):Int)),(3,Dc b n n),(0,AX km)]) (fun x=>c.Bq.toNat-x.1) (1,(List.replicate n 0).set 5 1) (fun w h=>⟨⟨⟨Nat.le_refl _,by show((1:Nat):Int)≤2000;decide,by simp⟩,hL1⟩,h⟩) ⟨Z,Z,Z,trivial⟩ ?_;rintro⟨p,ws⟩ g;refine T.pure ?_;rintro⟨⟨hp1,hp2,hws⟩,hL⟩;simp only at hp1 hp2 hws hL;refine CW 11 [0,1] Z<|T.cond Z ?_ ?_
 ·intro hb0;have hpm:p<c.Bq.toNat:=by have:((p:Nat):Int)<c.Bq:=of_decide_eq_true hb0;omega
  have hlk:=BT hc (p:=p) (by omega);have hL':Mc c.map (c.Bq.toNat-(p+1)) (p+1) (ws.set (c.map.FI p).toNat ((p:Int)+1))=L1:=by rw[←hL,show c.Bq.toNat-p=(c.Bq.toNat-(p+1))+1 by omega];rfl
  refine CW 2 [] Z<|T.block<|AZ 4 [256] Z<|OT (H1:=[_]) (H2:=_::_) Z tA Z (O0 hok) Aa<|NC Z<|BU (c:=((p:Int)+1)) Z (IntWalk.i64_in _ (by simp only[FC];omega))<|Ic Z FV Ej (IntWalk.u64_in _ (by omega))<|Jm Z dV (show 0≤c.map.FI (p:Int)∧c.map.FI (p:Int)<((n:Nat):Int) by omega)<|Θ (H1:=[]) (H2:=He ⟨ks,kg,kc,km,ga,gr,ca,cr,c.map⟩ ra rr) (show 0+(c.map.FI (p:Int)).toNat*1=(c.map.FI (p:Int)).toNat by omega) Z Z Z Z Z M8 Z (show(c.map.FI (p:Int)).toNat<_ by rw[hws];omega) Aw<|X.nil<|T.Bj<|AZ 2 [] Z<|BU (c:=((p+1:Nat):Int)) Z (by simp only[FC];rw[IntWalk.i64_in _ (by omega)];omega)<|AY 2 [] Z ?_;exact T.FT (p+1,ws.set (c.map.FI p).toNat ((p:Int)+1)) (by show c.Bq.toNat-(p+1)<c.Bq.toNat-p;omega) (fun w h=>⟨⟨⟨by show 1≤p+1;omega,by show((p+1:Nat):Int)≤2000;omega,by show(ws.set _ _).length=n;rw[List.length_set];exact hws⟩,hL'⟩,h⟩) ⟨rfl,rfl,rfl,trivial⟩
 intro hb0;have hpm:c.Bq.toNat-p=0:=by have: ¬((p:Nat):Int)<c.Bq:=of_decide_eq_false hb0;omega
 rw[hpm] at hL;obtain rfl:ws=L1:=hL;refine T.exit<|TE.FQ<|TE.DC<|AZ 3 [] Z<|OT (H1:=[_]) (H2:=_::_) Z mc Z (Sj hok) Aa<|AP 7 [40960] Z<|OT (H1:=[_]) (H2:=_::_) Z ky Z (Q3 hok) Aa<|AP 3 [] Z<|OT (H1:=[_]) (H2:=_::_) Z kx Z (PH hok) Aa<|AP 2 [] Z<|OT (H1:=[_]) (H2:=_::_) Z C6 Z (Kw hok) Aa<|Ic Z FV Ej (IntWalk.u64_in (c.map.CU c.nodes) (by omega))<|Jm Z dV (show 0≤c.map.DK c.nodes∧c.map.DK c.nodes<((n:Nat):Int) by omega)<|Θ (H1:=[]) (H2:=He ⟨ks,kg,kc,km,ga,gr,ca,cr,c.map⟩ ra rr) (show 0+(c.map.DK c.nodes).toNat*1=(c.map.DK c.nodes).toNat by omega) Z Z Z Z Z M8 Z (show(c.map.DK c.nodes).toNat<_ by rw[hws];omega) Aw<|Jm Z dV (show 0≤c.map.D7 c.nodes∧c.map.D7 c.nodes<((n:Nat):Int) by omega)<|Θ (H1:=[]) (H2:=He ⟨ks,kg,kc,km,ga,gr,ca,cr,c.map⟩ ra rr) (show 0+(c.map.D7 c.nodes).toNat*1=(c.map.D7 c.nodes).toNat by omega) Z Z Z Z Z M8 Z (show(c.map.D7 c.nodes).toNat<_ by rw[List.length_set,hws];omega) Aw<|AP 5 [] Z<|BU (c:=(((c.nodes-1).toNat:Nat):Int)) Z (by show IntKind.i64.wrap (FC .sub c.nodes 1)=_;simp only[FC];rw[IntWalk.i64_in _ (by omega)];omega)<|AY 2 [] Z<|T.block ?_;refine T.loop (fun(x:Nat×Dk) w=>(((x.1:Int)≤60∧(x.1:Int)<c.nodes∧x.2.length=n)∧NG c.map x.1 x.2=L2)∧Sy C w0 D0 l (⟨b,90,Gv x.2⟩::He ⟨ks,kg,kc,km,ga,gr,ca,cr,c.map⟩ ra rr) Cj w) (fun x=>[(6,.int .i64 ((x.1:Nat):Int)),(3,Dc b n n),(0,AX km)]) (fun x=>x.1) ((c.nodes-1).toNat,(ws.set (c.map.DK c.nodes).toNat 1).set (c.map.D7 c.nodes).toNat (c.map.CU c.nodes)) (fun w h=>⟨⟨⟨by show(((c.nodes-1).toNat:Nat):Int)≤60;omega,by show(((c.nodes-1).toNat:Nat):Int)<c.nodes;omega,by show((ws.set _ _).set _ _).length=n;rw[List.length_set,List.length_set];exact hws⟩,hL2⟩,h⟩) ⟨Z,Z,Z,trivial⟩ ?_;rintro⟨v,ws2⟩ g2;refine T.pure ?_;rintro⟨⟨hv1,hv2,hws2⟩,hF⟩;simp only at hv1 hv2 hws2 hF;refine CW 6 [] Z<|T.cond Z ?_ ?_
 ·intro hb1;obtain⟨v,rfl⟩: ∃u,v=u+1:=⟨v-1,by have:((v:Nat):Int)≥1:=of_decide_eq_true hb1;omega⟩;rw[show((v+1:Nat):Int)=(v:Int)+1 from rfl] at*
  have hcl:=JD hc (v:=(v:Int)+1) (by omega);have hro:=I7 hc (v:=(v:Int)+1) (by omega);refine CW 2 [] Z<|T.block<|AZ 5 [] Z<|OT (H1:=[_]) (H2:=_::_) Z g37 Z (Λ Aa hc Z (by omega)) Aa<|OT (H1:=[_]) (H2:=_::_) Z lf Z (UO hok) Aa<|AY 3 [] Z ?_;have hhd:=BW hc hcl;have hnx:c.DW≤c.map.Next ((v:Int)+1)∧c.map.Next ((v:Int)+1)<c.map.all:=Ur hc (v:=(v:Int)+1) (j:=3) (by omega) (by omega);refine Ey 10 0 512 (by kernel_rfl)<|AP 3 [] Z<|OT (H1:=[_]) (H2:=_::_) Z g36 Z (X0 hok) Aa<|AP 2 [] Z<|Jm Z dV (show 0≤c.map.Eg (c.E5 ((v:Int)+1))∧c.map.Eg (c.E5 ((v:Int)+1))<((n:Nat):Int) by omega)<|JY Z M8 .z (Hi (a:=c.map.Eg (c.E5 ((v:Int)+1))) (by rw[hws2];omega))<|Jm Z dV (show 0≤c.map.Next ((v:Int)+1)∧c.map.Next ((v:Int)+1)<((n:Nat):Int) by omega)<|Θ (H1:=[]) (H2:=He ⟨ks,kg,kc,km,ga,gr,ca,cr,c.map⟩ ra rr) (show 0+(c.map.Next ((v:Int)+1)).toNat*1=(c.map.Next ((v:Int)+1)).toNat by omega) Z Z Z Z Z M8 Z (show(c.map.Next ((v:Int)+1)).toNat<_ by rw[hws2];omega) Aw<|AP 5 [64] Z<|Ic Z FP Ej (IntWalk.u32_in _ (by omega))<|CB Z iX (qU (by omega)) Aa<|Jm Z dV (show 0≤c.map.Eg (c.E5 ((v:Int)+1))∧c.map.Eg (c.E5 ((v:Int)+1))<((n:Nat):Int) by omega)<|Θ (H1:=[]) (H2:=He ⟨ks,kg,kc,km,ga,gr,ca,cr,c.map⟩ ra rr) (show 0+(c.map.Eg (c.E5 ((v:Int)+1))).toNat*1=(c.map.Eg (c.E5 ((v:Int)+1))).toNat by omega) Z Z Z Z Z M8 Z (show(c.map.Eg (c.E5 ((v:Int)+1))).toNat<_ by rw[List.length_set,hws2];omega) Aw<|X.nil<|T.Bj<|AZ 2 [] Z<|BU (c:=((v:Nat):Int)) Z (by simp only[FC];rw[IntWalk.i64_in _ (by omega)];omega)<|AY 2 [] Z ?_
  exact T.FT (v,(ws2.set (c.map.Next ((v:Int)+1)).toNat (ws2.getD (c.map.Eg (c.E5 ((v:Int)+1))).toNat 0)).set (c.map.Eg (c.E5 ((v:Int)+1))).toNat ((v:Int)+1)) (by show v<v+1;omega) (fun w h=>⟨⟨⟨by show(v:Int)≤60;omega,by show(v:Int)<c.nodes;omega,by show((ws2.set _ _).set _ _).length=n;rw[List.length_set,List.length_set];exact hws2⟩,hF⟩,h⟩) ⟨rfl,rfl,rfl,trivial⟩
 intro hb1;obtain rfl:v=0:=by have: ¬((v:Nat):Int)≥1:=of_decide_eq_false hb1;omega
 obtain rfl:ws2=L2:=hF;refine T.exit<|TE.FQ<|TE.DC<|CW 5 [] Z<|T.BC Z fun W D h=>?_
 refine⟨D,⟨b,rfl,trivial,rfl,?_⟩,fun _ hk=>hk⟩;rw[Zx];exact h
end Mp
theorem g59:Cm 59=true:=by kernel_rfl
theorem g61:Cm 61=true:=by kernel_rfl
theorem dj:Jv 133 [(0,1),(1,1),(2,1),(3,4),(7,1),(8,1),(9,1),(10,1),(11,1),(12,1),(13,1),(14,1),(15,1),(16,5),(21,1)]=true:=by kernel_rfl
theorem AaN:Jv 166 [(0,1),(1,1)]=true:=by kernel_rfl
theorem dk:LU 133=some [.pointer none,.int .i64 0,.slice none 0 0,.int .i64 0,.int .i64 0,.int .i64 0,.int .i64 0,.slice none 0 0,.pointer none,.int .u64 0,.int .u64 0,.int .u64 0,.int .u64 0,.int .i64 0,.pointer none,.pointer none,.int .i64 0,.int .i64 0,.int .i64 0,.int .i64 0,.int .i64 0,.nilFunc]:=by kernel_rfl
theorem AaO:LU 166=some [.pointer none,.slice none 0 0]:=by kernel_rfl
theorem fM:Cn C 59 [AX C.m] l Cj l (fun q=>XJ C q []):=by
 exact Ci 6 Tryz.func59 Z Aa fun w0 D0=>AZ 7 [0,4] Z<|Fp Z AaN AaO Z<|F7 Z CE fun b0=>AY 2 [] Z<|T.BC Z fun W D h=>⟨D,⟨_,rfl,rfl,_,_,.inl ⟨rfl,rfl,rfl⟩,h⟩,fun _ hk=>hk⟩
theorem Μ{i:Int}(qV:C.M.O8 i≥0):Cn C 28 [AX C.m,.int .i64 i,.slice none 0 0] l Cj l (fun q=>J9 C q (.new C.M i [])):=by
 exact Ci 36 Tryz.func28 Z Aa fun w0 D0=>AZ 9 [0,40] Z<|UF Z g59 (fM) (fun _=>Am) CE fun q0=>Fp Z dj dk Z<|F7 Z CE fun b1=>AP 7 [] Z<|CB Z lr (iM) Am<|Du (c:=true) Z (decide_eq_true qV)<|AP 6 [72] Z<|CB Z mc (Sj) Am<|Qc Z JV z3 (by decide) Z Z Z CE fun b2=>AP 10 [1,512] Z<|UG Z Z Z<|zm Z Z Z Z XK<|CB Z g61 (Cv.frame Am qC) Am<|AY 4 [1] Z<|T.Jc (H':=[_,_]) (R':=BG (XJ C q0 []) (Me (.slice none 0 0) [])) (Ag Am Ap) (Wk.Az (U5 (B:=[]) (.inl ⟨Z,⟨_,_,Z⟩,Z⟩)) _)<|AZ 2 [2] Z<|Tm (H2:=[_,_]) (is:=[1,0]) (by decide) Z Z Z Z tG Z (PX (x:=(⟨i,[],Wd,[C.M.nodes],[],0,0,0,0,0,.new 0 0,.Bl 0 0,BH,.ES⟩:Mu)) (ov:= .slice none 0 0) (rest:=[]) (m:=1) (by simp) (by simp)) Dj Aw<|AY 6 [] Z<|T.BC Z fun W D h=>⟨D,⟨_,rfl,rfl,h⟩,fun _ hk=>hk⟩
theorem Ce.dl{α:Type}{v:α→Value}{P:α→Prop}{B:α→List Bk}(h:Ce C f args l (Az H Cj) v l' P (fun a=>Az (B a) Cj))(hF:CV F):Ce C f args l (Az H F) v l' P (fun a=>Az (B a) F):=by
 have:=Ce.FD h hF;simp only[EK,Gl] at this;exact this
theorem qW{rest:List Value}(hx: ∀o∈x.Aq,Np o)(hrm:x.Af.length+rest.length=m)(hF:CV F):Cv C 62 [AX d] l (Az [⟨d,133,x.cs C ov (Dc rb x.Af.length m) bf H6 H7 nv⟩,Sz rb x rest] (BG (BG (XJ C bf x.Ar) (Me ov x.Aq)) F)) (.tuple #[]) l (BG (J9 C d (x.BX C.M)) F):=by
 have:=Cv.FD (PX (C:=C) (l:=l) (d:=d) (ov:=ov) (rb:=rb) (bf:=bf) (H6:=H6) (H7:=H7) (nv:=nv) hx hrm) hF;rw[EK] at this;exact this
theorem Ν{Aq:List I4}{n1 ob:Bk}{Rx:BB}(h:mC ov Aq [n1]):Wk (Az [n1,ob] Rx) (BG (BG Rx (Me ov Aq)) (Az [ob] Cj)):=by
 have e:Az [n1,ob] Rx=BG (Az [n1] Rx) (Az [ob] Cj):=by
  rw[EK,D9 Rx,EK,Gl];rfl
 rw[e];exact Wk.BG (U5 h) (Wk.refl _)
theorem Ξ{i:Int}{Aq:List I4}{ob oc:Nat}{OD:List Value}(qV:C.M.O8 i≥0)(hne:Aq≠[])(h64:Aq.length≤64)(hoc:Aq.length≤oc)(hk: ∀o∈Aq,Np o):Cn C 28 [AX C.m,.int .i64 i,Dc ob Aq.length oc] l (Az [⟨ob,65,Nk Aq++OD⟩] Cj) l (fun q=>BG (J9 C q (.new C.M i Aq)) (Az [⟨ob,65,Nk Aq++OD⟩] Cj)):=by
 have hl:=List.length_pos_iff.2 hne;have e:Mu.new C.M i Aq=Mu.BX C.M ⟨i,Aq,Wd,[C.M.nodes],[],0,0,0,0,0,.new 0 0,.Bl 0 0,BH,.ES⟩:=by
  unfold Mu.new;rw[List.take_of_length_le h64]
 rw[e];refine Ci 36 Tryz.func28 Z (Ac Aa _) fun w0 D0=>Gu Aa<|AZ 9 [0,40] Z<|UF Z g59 (fM) (fun _=>Am) CE fun q0=>Fp Z dj dk Z<|F7 Z CE fun b1=>AP 7 [] Z<|CB Z lr (iM) Am<|Du (c:=true) Z (decide_eq_true qV)<|AP 6 [72] Z<|CB Z mc (Sj) Am<|Qc Z JV z3 (by decide) Z Z Z CE fun b2=>AP 10 [1,576] Z<|UG Z Z Z<|kq (k:=Aq.length) Z Z Z Z XK ⟨by omega,by omega,by omega⟩<|NW (H1:=[_,_]) (H2:=[_]) (B:=fun(a:Nat×List Value×Nat)=>[⟨a.1,65,Nk Aq++a.2.1⟩,⟨ob,65,Nk Aq++OD⟩]) Z g61 Z (Ce.dl (wL (news:=Nk Aq) (rest:=OD) ⟨by omega,by omega⟩ (Xu Aq)) Am) (fun _=>Am) JH fun a3 JK=>AY 4 [1] Z<|T.Jc (H':=[_,_]) (R':=BG (BG (XJ C q0 []) (Me (.slice (some ⟨a3.1,0,none⟩) Aq.length a3.2.2) Aq)) (Az [⟨ob,65,Nk Aq++OD⟩] Cj)) (Ag (Ag Am Ap) (Ac Aa _)) ((Wk.pick [0,1,2,3] (by decide)).trans (Wk.Az (Ν (.inr ⟨hne,a3.1,[],a3.2.1,a3.2.2,Z,JK.1.1,Z⟩)) [_,_]))<|AZ 2 [2] Z ?_
 exact Tm (H2:=[_,_]) (is:=[1,0]) (by decide) Z Z Z Z tG Z (qW (x:=(⟨i,Aq,Wd,[C.M.nodes],[],0,0,0,0,0,.new 0 0,.Bl 0 0,BH,.ES⟩:Mu)) (ov:= .slice (some ⟨a3.1,0,none⟩) Aq.length a3.2.2) (rest:=[]) (m:=1) hk (by simp) (Ac Aa _)) (Ag Dj (Ac Aa _)) Aw<|AY 6 [] Z<|T.BC Z fun W D h=>⟨D,⟨_,rfl,rfl,h⟩,fun _ hk=>hk⟩
def PgV(sv:Value)(Aq:List I4)(B:List Bk):Prop:=(Aq=[]∧sv= .slice none 0 0∧B=[])∨(Aq≠[]∧ ∃b rest c,sv=Dc b Aq.length c∧Aq.length≤c∧B=[⟨b,65,Nk Aq++rest⟩])
def fO(sv:Value)(Aq:List I4):BB:=fun D w=> ∃B,PgV sv Aq B∧Az B Cj D w
theorem kJ{Aq:List I4}:CV (fO sv Aq):=AQ fun _=>Ba (Ac Aa _)
def Xx(Aq:List I4):Prop:=Aq.length≤64∧ ∀o∈Aq,Np o
theorem HE{i:Int}{Aq:List I4}(qV:C.M.O8 i≥0)(ho:Xx Aq):Cn C 28 [AX C.m,.int .i64 i,sv] l (fO sv Aq) l (fun q=>BG (J9 C q (.new C.M i Aq)) (fO sv Aq)):=by
 intro w D ha hm hR;obtain⟨B,hB,hb⟩:=hR;rcases hB with⟨rfl,rfl,rfl⟩|⟨hne,b,rest,c,rfl,hc,rfl⟩
 ·refine(Cn.fr (Μ qV) Aa w D ha hm hb).mono ?_;rintro e w' ⟨v,m,D',h1,h2,⟨q,h3,h4,D1,D2,h5,h6,h7⟩,h8⟩;exact⟨v,m,D',h1,h2,⟨q,h3,h4,D1,D2,h5,⟨[],.inl ⟨rfl,rfl,rfl⟩,h6⟩,h7⟩,h8⟩
 refine(Ξ qV hne ho.1 hc ho.2 w D ha hm hb).mono ?_;rintro e w' ⟨v,m,D',h1,h2,⟨q,h3,h4,D1,D2,h5,h6,h7⟩,h8⟩;exact⟨v,m,D',h1,h2,⟨q,h3,h4,D1,D2,h5,⟨_,.inr ⟨hne,b,rest,c,rfl,hc,rfl⟩,h6⟩,h7⟩,h8⟩
namespace Mp
def wrap(C:Mo.Cx)(l:Dk)(R:BB):BB:=fun D w=> ∃Dw,R Dw w∧E8 w C∧Mo.Mem w C l∧Mo.aO C w Dw∧ ∀k,D k↔(Dw k∨k=C.s∨k=C.g∨k=C.m∨k=C.ga∨k=C.gr)
theorem Bo{C:Mo.Cx}{R:BB}(hl:CV R):CV (wrap C l R):=by
 rintro D w w' ⟨Dw,h1,h2,h3,h4,h5⟩ hk;have hs:w'.heap[C.s]?=w.heap[C.s]?:=hk _ ((h5 _).2 (.inr (.inl rfl)));have hg:w'.heap[C.g]?=w.heap[C.g]?:=hk _ ((h5 _).2 (.inr (.inr (.inl rfl))));have hm:w'.heap[C.m]?=w.heap[C.m]?:=hk _ ((h5 _).2 (.inr (.inr (.inr (.inl rfl)))));have hga:w'.heap[C.ga]?=w.heap[C.ga]?:=hk _ ((h5 _).2 (.inr (.inr (.inr (.inr (.inl rfl))))));have hgr:w'.heap[C.gr]?=w.heap[C.gr]?:=hk _ ((h5 _).2 (.inr (.inr (.inr (.inr (.inr rfl))))));have hM:E8 w' C:=by
  refine⟨h2.ok,hm.trans h2.mb,own_move h2.ra (fun k hk=>?_),own_move h2.rr (fun k hk=>?_)⟩
  ·have e:C.ga=k:=by simpa[Value.ownBlock] using hk
   subst e;exact hga
  have e:C.gr=k:=by simpa[Value.ownBlock] using hk
  subst e;exact hgr
 have HF:Mo.Mem w' C l:=by
  obtain⟨n,hn⟩:=h3.head;refine⟨h3.ne,⟨n,hs.trans hn⟩,own_move h3.row (fun k hk=>?_),h3.uD⟩;have e:C.g=k:=by simpa[Value.ownBlock] using hk
  subst e;exact hg
 refine⟨Dw,hl Dw w w' h1 (fun k hk'=>hk k ((h5 k).2 (.inl hk'))),hM,HF,⟨hM,fun k hk'=>?_,HF.lt,h4.ns,h4.ng,h4.nm,h4.na,h4.nr⟩,h5⟩;have h6:=hk k ((h5 k).2 (.inl hk'));have h7:=h4.lt k hk';apply Classical.byContradiction;intro h8;rw[Array.getElem?_eq_getElem h7,Array.getElem?_eq_none (by omega)] at h6;cases h6
theorem nW{C:Mo.Cx}{args:Array Value}{l0:Dk}{R:BB}{Q:Value→Dk→BB}(h:Mo.Ct C f args l R Q):Ct C0 f args l0 (wrap C l R) fun u _=>fun D w=> ∃l',wrap C l' (Q u l') D w:=by
 rintro w D ha hm ⟨Dw,h1,h2,h3,h4,h5⟩;refine(h w Dw h4 h3 h1).mono ?_;rintro e w' ⟨v,l',D',rfl,hm',hQ,hc,hD'⟩;have hlt:=h2.lt;have no: ∀b,¬Dw b→b<w.heap.size→ ¬D' b:=fun b g1 g2 g3=>by
  rcases(hD' b g3).2 with g4|g4
  ·exact g1 g4
  omega
 have hM:E8 w' C:=h2.Kr hc (by
  rintro(g|g|g)
  ·exact h4.nm.1 g
  ·exact h4.nm.2.1 g
  ·exact h4.nm.2.2 g) (by
  rintro(g|g|g)
  ·exact h4.na.1 g
  ·exact h4.na.2.1 g
  ·exact h4.na.2.2 g) (by
  rintro(g|g|g)
  ·exact h4.nr.1 g
  ·exact h4.nr.2.1 g
  exact h4.nr.2.2 g)
 have hsz:=hc.size;refine⟨v,l0,fun k=>D' k∨k=C.s∨k=C.g∨k=C.m∨k=C.ga∨k=C.gr,rfl,⟨⟩,⟨l',D',hQ,hM,hm',⟨hM,fun k hk=>(hD' k hk).1,hm'.lt,no _ h4.ns h4.ls.1,no _ h4.ng h4.ls.2,⟨no _ h4.nm.1 hlt.1,h4.nm.2⟩,⟨no _ h4.na.1 hlt.2.1,h4.na.2⟩,⟨no _ h4.nr.1 hlt.2.2,h4.nr.2⟩⟩,fun k=>Iff.rfl⟩,hc.mono ?_,fun k hk=>?_⟩
 ·rintro k (g|g|g)
  ·exact(h5 k).2 (.inl g)
  ·exact(h5 k).2 (.inr (.inl g))
  exact(h5 k).2 (.inr (.inr (.inl g)))
 rcases hk with hk|rfl|rfl|rfl|rfl|rfl
 ·have:=hD' k hk;exact⟨this.1,this.2.imp (fun g=>(h5 k).2 (.inl g)) id⟩
 ·exact⟨by have:=h4.ls.1;omega,.inl ((h5 _).2 (.inr (.inl rfl)))⟩
 ·exact⟨by have:=h4.ls.2;omega,.inl ((h5 _).2 (.inr (.inr (.inl rfl))))⟩
 ·exact⟨by have:=hlt.1;omega,.inl ((h5 _).2 (.inr (.inr (.inr (.inl rfl)))))⟩
 ·exact⟨by have:=hlt.2.1;omega,.inl ((h5 _).2 (.inr (.inr (.inr (.inr (.inl rfl))))))⟩
 exact⟨by have:=hlt.2.2;omega,.inl ((h5 _).2 (.inr (.inr (.inr (.inr (.inr rfl))))))⟩
theorem Zy{C:Mo.Cx}{l0:Dk}{R:BB}(h:Mo.Cv C f args l R v l' R'):Cv C0 f args l0 (wrap C l R) v l0 (wrap C l' R'):=fun w D ha hm hR=>
 (nW (l0:=l0) h w D ha hm hR).mono fun e w' ⟨u,_,D',he,hm',⟨m,Dw,⟨h1,h2,h3⟩,h4⟩,hc,hD⟩=>by
  subst h1 h2;exact⟨u,l0,D',he,⟨⟩,⟨rfl,rfl,Dw,h3,h4⟩,hc,hD⟩
theorem HG{C:Mo.Cx}{l0:Dk}{R:BB}{R':Nat→BB}(h:Mo.Cn C f args l R l' R'):Cn C0 f args l0 (wrap C l R) l0 (fun q=>wrap C l' (R' q)):=fun w D ha hm hR=>
 (nW (l0:=l0) h w D ha hm hR).mono fun e w' ⟨u,_,D',he,hm',⟨m,Dw,⟨q,h1,h2,h3⟩,h4⟩,hc,hD⟩=>by
  subst h2;exact⟨u,l0,D',he,⟨⟩,⟨q,h1,rfl,Dw,h3,h4⟩,hc,hD⟩
theorem n6{α:Type}{C:Mo.Cx}{l0:Dk}{R:BB}{v:α→Value}{P:α→Prop}{R':α→BB}(h:Mo.Ce C f args l R v l' P R'):Ce C0 f args l0 (wrap C l R) v l0 P (fun a=>wrap C l' (R' a)):=fun w D ha hm hR=>
 (nW (l0:=l0) h w D ha hm hR).mono fun e w' ⟨u,_,D',he,hm',⟨m,Dw,⟨a,h1,h2,h3,h4⟩,h5⟩,hc,hD⟩=>by
  subst h3;exact⟨u,l0,D',he,⟨⟩,⟨a,h1,h2,rfl,Dw,h4,h5⟩,hc,hD⟩
def Xy(R R':BB):Prop:= ∀D w,(∀k,D k→k<w.heap.size)→R D w→ ∃D',R' D' w∧ ∀k,D' k→D k
theorem Xy.of{R:BB}(h:Wk R R'):Xy R R':=fun D w _ hR=>h D w hR
theorem Xy.trans{R R'':BB}(h:Xy R R')(k:Xy R' R''):Xy R R'':=fun D w hl h1=>by
 obtain⟨D1,h2,h3⟩:=h D w hl h1;obtain⟨D2,h4,h5⟩:=k D1 w (fun x hx=>hl x (h3 x hx)) h2;exact⟨D2,h4,fun x hx=>h3 x (h5 x hx)⟩
theorem Xy.blk{x:Bk}{R:BB}(h:Xy R R'):Xy (blk x R) (blk x R'):=fun D w hl ⟨h1,D1,h2,h3,h4⟩=>by
 obtain⟨D2,g1,g2⟩:=h D1 w (fun k hk=>hl k ((h4 k).2 (.inr hk))) h2;exact⟨fun k=>k=x.b∨D2 k,⟨h1,D2,g1,fun h5=>h3 (g2 _ h5),fun _=>Iff.rfl⟩,fun k hk=>(h4 k).2 (hk.imp id (g2 k))⟩
theorem Xy.Az{R R':BB}(h:Xy R R'): ∀H,Xy (Az H R) (Az H R')
 |[]=>h
 |x::H=>Xy.blk (Xy.Az h H)
section
variable{R:BB}{r:List Code}
theorem Sy.HH(h:Sy C w0 D0 l H R w)(hl:CV R')(hk:Xy (Mo.Az H R) (Mo.Az H' R')):Sy C w0 D0 l H' R' w:=by
 obtain⟨D,h1,h2⟩:=h.NK;obtain⟨D',h3,h4⟩:=hk D w (fun k hk=>(h2 k hk).1) h1;exact⟨h.OW,h.Kr,h.mem,hl,D',h3,fun k hk=>h2 k (h4 k hk)⟩
theorem T.HH[Inhabited (List Deferred)](hl:CV R')(hk:Xy (Mo.Az H R) (Mo.Az H' R'))(h:T Q n r (Sy C w0 D0 l H' R') e):T Q n r (Sy C w0 D0 l H R) e:=T.conv (fun w hS=>hS.HH hl hk) h
end
theorem Sb{s g cap:Nat}{K:Mo.Cx}{rr fP:List Value}{R:BB}(hK:QJ K ra rr)(hr:Nc l)(hc:l.length≤cap)(hcm:cap≤maxLen)(hlen:l.length+fP.length=cap):
  Xy (Az (⟨s,113,[Dc g l.length cap,.int .i64 0]⟩::⟨g,90,Gv l++fP⟩::He K ra rr) R) (wrap ⟨s,g,cap,K.m,K.ga,K.gr,K.ca,K.cr,K.M⟩ l R):=fun D w hlt h=>by
 obtain⟨hp,hm,DR,h1,h2,h3⟩:=QY h;have hs:=hm ⟨s,113,[Dc g l.length cap,.int .i64 0]⟩ (by simp);have hg:=hm ⟨g,90,Gv l++fP⟩ (by simp);have hmm:=hm ⟨K.m,109,K.Gq.toList⟩ (by simp[He]);have hga:=hm ⟨K.ga,3,Dl K.M.at_++ra⟩ (by simp[He]);have hgr:=hm ⟨K.gr,3,Dl K.M.BM++rr⟩ (by simp[He]);have hL:=Wk.tail.trans Wk.tail D w h;obtain⟨DL,hL,-⟩:=hL;have gz:E8 w K:=E8.of hK hL;have dp:E8 w ⟨s,g,cap,K.m,K.ga,K.gr,K.ca,K.cr,K.M⟩:=⟨gz.ok,gz.mb,gz.ra,gz.rr⟩;simp only[He,List.pairwise_cons] at hp;obtain⟨p1,p2,p3,p4,-⟩:=hp;have e1:s≠g:=p1 ⟨g,90,Gv l++fP⟩ (by simp);have e2:s≠K.m:=p1 ⟨K.m,109,K.Gq.toList⟩ (by simp);have e3:s≠K.ga:=p1 ⟨K.ga,3,Dl K.M.at_++ra⟩ (by simp);have e4:s≠K.gr:=p1 ⟨K.gr,3,Dl K.M.BM++rr⟩ (by simp);have e5:g≠K.m:=p2 ⟨K.m,109,K.Gq.toList⟩ (by simp);have e6:g≠K.ga:=p2 ⟨K.ga,3,Dl K.M.at_++ra⟩ (by simp);have e7:g≠K.gr:=p2 ⟨K.gr,3,Dl K.M.BM++rr⟩ (by simp);have HF:Mo.Mem w ⟨s,g,cap,K.m,K.ga,K.gr,K.ca,K.cr,K.M⟩ l:=by
  refine⟨e1.symm,⟨0,hs.1⟩,?_,hr⟩;exact own_blk hg.1 hc hcm (by rw[List.length_map,Nat.mul_one];exact hlen) (by rw[List.length_map,Nat.mul_one])
 refine⟨fun k=>DR k∨k=s∨k=g∨k=K.m∨k=K.ga∨k=K.gr,⟨DR,h1,dp,HF,⟨dp,fun k hk=>hlt k (h3 k hk),HF.lt,?_,?_,⟨?_,e2.symm,e5.symm⟩,⟨?_,e3.symm,e6.symm⟩,⟨?_,e4.symm,e7.symm⟩⟩,fun k=>Iff.rfl⟩,fun k hk=>?_⟩
 ·exact h2 ⟨s,113,[Dc g l.length cap,.int .i64 0]⟩ (by simp)
 ·exact h2 ⟨g,90,Gv l++fP⟩ (by simp)
 ·exact h2 ⟨K.m,109,K.Gq.toList⟩ (by simp[He])
 ·exact h2 ⟨K.ga,3,Dl K.M.at_++ra⟩ (by simp[He])
 ·exact h2 ⟨K.gr,3,Dl K.M.BM++rr⟩ (by simp[He])
 rcases hk with hk|rfl|rfl|rfl|rfl|rfl
 ·exact h3 k hk
 ·exact hs.2
 ·exact hg.2
 ·exact hmm.2
 ·exact hga.2
 exact hgr.2
theorem HI{C:Mo.Cx}{R:BB}{x:Bk}:Xy (Mo.blk x (wrap C l R)) (wrap C l (Mo.blk x R)):=fun D w hlt ⟨h1,D1,⟨Dw,g1,g2,g3,g4,g5⟩,h3,h4⟩=>by
 have ne: ∀b,D1 b→b≠x.b:=fun b hb e=>h3 (e▸hb)
 have hs:=ne C.s ((g5 _).2 (.inr (.inl rfl)));have hg:=ne C.g ((g5 _).2 (.inr (.inr (.inl rfl))));have hm:=ne C.m ((g5 _).2 (.inr (.inr (.inr (.inl rfl)))));have hga:=ne C.ga ((g5 _).2 (.inr (.inr (.inr (.inr (.inl rfl))))));have hgr:=ne C.gr ((g5 _).2 (.inr (.inr (.inr (.inr (.inr rfl))))));have no: ∀b,b≠x.b→ ¬Dw b→ ¬(b=x.b∨Dw b):=fun b e1 e2 e3=>e3.elim e1 e2
 refine⟨D,⟨fun k=>k=x.b∨Dw k,⟨h1,Dw,g1,fun hk=>h3 ((g5 _).2 (.inl hk)),fun k=>Iff.rfl⟩,g2,g3,⟨g2,fun k hk=>?_,g4.ls,no _ hs g4.ns,no _ hg g4.ng,⟨no _ hm g4.nm.1,g4.nm.2⟩,⟨no _ hga g4.na.1,g4.na.2⟩,⟨no _ hgr g4.nr.1,g4.nr.2⟩⟩,fun k=>?_⟩,fun _ h=>h⟩
 ·rcases hk with rfl|hk
  ·exact hlt _ ((h4 _).2 (.inl rfl))
  exact g4.lt k hk
 rw[h4,g5,or_assoc]
theorem ig{C:Mo.Cx}{l:Dk}{R:BB}: ∀(H:List Bk),Xy (Mo.Az H (wrap C l R)) (wrap C l (Mo.Az H R))
 |[]=>Xy.of (Wk.refl _)
 |x::H=>(Xy.blk (ig H)).trans HI
theorem Sd{C:Mo.Cx}{R:BB}(h:Wk R R'):Wk (wrap C l R) (wrap C l R'):=fun D w ⟨Dw,g1,g2,g3,g4,g5⟩=>by
 obtain⟨D2,h1,h2⟩:=h Dw w g1;refine⟨fun k=>D2 k∨k=C.s∨k=C.g∨k=C.m∨k=C.ga∨k=C.gr,⟨D2,h1,g2,g3,g4.sub h2,fun k=>Iff.rfl⟩,fun k hk=>(g5 k).2 (hk.imp (h2 k) id)⟩
theorem iq{C:Mo.Cx}{R:BB}(h:R=R'):Wk (wrap C l R) (wrap C l R'):=by
 subst h;exact Wk.refl _
end Mp
def Zz(M:Bz):Nat→List Mk
 |0=>[]
 |i+1=>Zz M i++[.new M i]
def kK(M:Bz)(ps:List (List I4)):Nat→List Mu
 |0=>[]
 |i+1=>kK M ps i++[.new M i (ps.getD i [])]
theorem iw(M:Bz): ∀n,Zz M n=(List.range n).map fun(i:Nat)=>Mk.new M i
 |0=>rfl
 |n+1=>by rw[Zz,iw M n,List.range_succ,List.map_append];rfl
theorem iy(M:Bz)(ps:List (List I4)): ∀n,kK M ps n=(List.range n).map fun(i:Nat)=>Mu.new M i (ps.getD i [])
 |0=>rfl
 |n+1=>by rw[kK,iy M ps n,List.range_succ,List.map_append];rfl
theorem ZA(M:Bz): ∀n,(Zz M n).length=n
 |0=>rfl
 |n+1=>by simp[Zz,ZA M n]
theorem ZB(M:Bz)(ps:List (List I4)): ∀n,(kK M ps n).length=n
 |0=>rfl
 |n+1=>by simp[kK,ZB M ps n]
theorem HJ{ms:List Mk}{m:Mk}(h:qs.length=ms.length):Ig C (qs++[q]) (ms++[m])=BG (Ig C qs ms) (Uj C q m):=by
 unfold Ig;rw[List.zipWith_append h,Zw];show BG _ (BG (Uj C q m) Cj)=_;rw[jH]
theorem HK{ms:List Mu}{m:Mu}(h:qs.length=ms.length):Iz C (qs++[q]) (ms++[m])=BG (Iz C qs ms) (J9 C q m):=by
 unfold Iz;rw[List.zipWith_append h,Zw];show BG _ (BG (J9 C q m) Cj)=_;rw[jH]
theorem wZ{ms:List Mk}{m:Mk}{R:BB}(h:qs.length=ms.length):BG (Uj C q m) (BG (Ig C qs ms) R)=BG (Ig C (qs++[q]) (ms++[m])) R:=by
 rw[HJ h,←CO,D9 (Uj C q m)]
theorem xA{ms:List Mu}{m:Mu}{A R:BB}(h:qs.length=ms.length):BG (J9 C q m) (BG A (BG (Iz C qs ms) R))=BG A (BG (Iz C (qs++[q]) (ms++[m])) R):=by
 rw[HK h,←CO,D9 (J9 C q m),CO,←CO (J9 C q m),D9 (J9 C q m)]
theorem Nc.set(h:Nc l)(a:Nat){v:Int}(hv:Bf v):Nc (l.set a v):=XU h a v hv
theorem ZC{M:Bz}: ∀(n p:Nat) (l:Dk),n+p≤100000→Nc l→Nc (Mc M n p l)
 |0,_,_,_,h=>h
 |n+1,p,l,hp,h=>ZC n (p+1) _ (by omega) (h.set _ (by unfold Bf;omega))
theorem ZE{M:Bz}: ∀(n:Nat) (l:Dk),n≤100000→Nc l→Nc (NG M n l)
 |0,_,_,h=>h
 |n+1,l,hn,h=>ZE n _ (by omega) ((h.set _ (h _)).set _ (by unfold Bf;omega))
theorem fQ(h:c.Ok):Nc c.map.first:=by
 obtain⟨h1,-,-⟩:=Fj.nums h;have hn:=h.nodes;have hr:=I7 h (v:=c.nodes) (by omega);have h0:Nc ((List.replicate c.map.all.toNat 0).set 5 1):=by
  refine Nc.set (fun i=>?_) 5 (by unfold Bf;omega);rw[List.getD_eq_getElem?_getD,List.getElem?_replicate];split<;>simp
 refine ZE _ _ (by show(c.nodes-1).toNat≤100000;omega) (Nc.set (Nc.set (ZC _ _ _ (by show(c.Bq-1).toNat+1≤100000;omega) h0) _ (by unfold Bf;omega)) _ ?_);show Bf (c.map.CU c.nodes);unfold Bf;omega
theorem AaP:Jv 113 [(0,1),(1,1)]=true:=by kernel_rfl
theorem md:Ip 46 66 1=true:=by kernel_rfl
theorem AaQ:LU 113=some [.slice none 0 0,.int .i64 0]:=by kernel_rfl
namespace Mp
theorem TY{k c:Nat}{rest:List Value}(hk:0<k∧k≤1000000)(hcs:news.length=k*1):
  Ce (α:=Nat×List Value×Nat) C 52 [.slice (some ⟨b,0,none⟩) k c] l (Az [⟨b,90,news++rest⟩] Cj) (fun a=> .slice (some ⟨a.1,0,none⟩) k a.2.2) l (fun a=>(k≤a.2.2∧news.length+a.2.1.length=a.2.2*1)∧a.2.2≤maxLen) (fun a=>Az [⟨a.1,90,news++a.2.1⟩,⟨b,90,news++rest⟩] Cj):=by
 refine Ci 8 Tryz.func52 Z (Ac Aa _) fun w0 D0=>Gu Aa<|AZ 8 [] Z<|xq (b:=false) Z Z Z Z KH Z<|AP 5 [5] Z<|Fk Z Z dV CE fun b0=>NC Z<|Fl (cs:=news) (rest:=rest) Z Z Z dV (.s .z) hk hcs JH fun q rs m hm=>AY 2 [] Z<|T.BC Z fun W D h=>?_
 obtain⟨D1,h1,h2⟩:=D6 [0,2] (by decide) h;exact⟨D1,⟨(q,rs,m),rfl,hm,rfl,h1⟩,h2⟩
theorem Ce.n7{α:Type}{v:α→Value}{P:α→Prop}{B:α→List Bk}(h:Ce C f args l (Az H Cj) v l' P (fun a=>Az (B a) Cj))(hF:CV F):Ce C f args l (Az (H++H2) F) v l' P (fun a=>Az (B a++H2) F):=by
 have:=Ce.FD h (F:=Az H2 F) (Ac hF H2);simp only[EK,Gl,←J5] at this;exact this
theorem qX{c:Nat}(hk:0<ws.length∧ws.length≤1000000):
  Ce (α:=Nat×Nat×List Value×Nat) C 24 [Dc b ws.length c] l (Az [⟨b,90,Gv ws⟩] Cj) (fun a=>AX a.1) l (fun a=>(ws.length≤a.2.2.2∧ws.length+a.2.2.1.length=a.2.2.2)∧a.2.2.2≤maxLen) (fun a=>Az [⟨a.1,113,[Dc a.2.1 ws.length a.2.2.2,.int .i64 0]⟩,⟨a.2.1,90,Gv ws++a.2.2.1⟩] Cj):=by
 refine Ci 7 Tryz.func24 Z (Ac Aa _) fun w0 D0=>Gu Aa<|T.Jc (H':=[⟨b,90,Gv ws++[]⟩]) (R':=Cj) Aa (by rw[List.append_nil];exact Wk.refl _)<|AZ 7 [0,10] Z<|NW (H1:=[]) (H2:=[_]) (B:=fun(a:Nat×List Value×Nat)=>[⟨a.1,90,Gv ws++a.2.1⟩,⟨b,90,Gv ws++[]⟩]) Z zz Z (TY (news:=Gv ws) (rest:=[]) hk (by simp[Gv])) (fun _=>Aa) JH fun a0 ha0=>Fp Z AaP AaQ Z<|F7 Z CE fun b1=>AY 2 [] Z<|T.BC Z fun W D h=>?_
 obtain⟨D1,h1,h2⟩:=D6 [0,1] (by decide) h;exact⟨D1,⟨(b1,a0),rfl,⟨⟨ha0.1.1,by have:=ha0.1.2;simpa[Gv] using this⟩,ha0.2⟩,rfl,h1⟩,h2⟩
theorem HL{K:Mo.Cx}:Cn C 26 [AX K.m] l Cj l (fun q=>IY K q .new):=by
 exact Ci 6 Tryz.func26 Z Aa fun w0 D0=>AZ 7 [0,4] Z<|Fp Z AaD AaE Z<|F7 Z CE fun b0=>AY 2 [] Z<|T.BC Z fun W D h=>⟨D,⟨_,rfl,rfl,h⟩,fun _ hk=>hk⟩
end Mp
theorem g23:Cm 23=true:=by kernel_rfl
theorem g24:Cm 24=true:=by kernel_rfl
theorem g25:Cm 25=true:=by kernel_rfl
theorem g26:Cm 26=true:=by kernel_rfl
theorem g27:Cm 27=true:=by kernel_rfl
theorem g28:Cm 28=true:=by kernel_rfl
theorem l80:Jv 80 [(0,1),(1,1),(2,1),(3,1),(4,1),(5,1)]=true:=by kernel_rfl
theorem z80:LU 80=some [.pointer none,.pointer none,.slice none 0 0,.slice none 0 0,.pointer none,.slice none 0 0]:=by kernel_rfl
theorem z81:LU 81=some [.pointer none]:=by kernel_rfl
theorem z83:LU 83=some [.pointer none]:=by kernel_rfl
namespace Mp
theorem Ο{K:Mo.Cx}{rr:List Value}(hc:c.Ok)(hok:QJ K ra rr)(hK:K.M=c.map):Ce (α:=Nat) C 25 [AX K.m] l (Az (He K ra rr) Cj) (fun q=>Dc q c.map.first.length c.map.first.length) l (fun _=>True) (fun q=>Az (⟨q,90,Gv c.map.first⟩::He K ra rr) Cj):=by
 have:=HD (C:=C) (l:=l) hc hK hok;rw[VQ];exact this
def IW:List Value→List (List I4)→BB
 |v::vs,p::ps=>BG (fO v p) (IW vs ps)
 |_,_=>Cj
theorem Hw: ∀{vs:List Value} {ps:List (List I4)},CV (IW vs ps)
 |[],_=>Aa
 |_::_,[]=>Aa
 |_::_,_::_=>Ag kJ Hw
theorem HN: ∀{vs:List Value} {ps:List (List I4)} {j:Nat} {v:Value},vs[j]?=some v→j<ps.length→ ∃F,CV F∧IW vs ps=BG (fO v (ps.getD j [])) F
 |[],_,_,_,h,_=>by simp at h
 |_::_,[],_,_,_,h=>by simp at h
 |v::vs,p::ps,0,w,h,_=>by
  obtain rfl:v=w:=by simpa using h
  exact⟨IW vs ps,Hw,rfl⟩
 |v::vs,p::ps,j+1,w,h,hj=>by
  obtain⟨F,hF,e⟩:=HN (vs:=vs) (ps:=ps) (j:=j) (v:=w) (by simpa using h) (by simpa using hj);refine⟨BG (fO v p) F,Ag kJ hF,?_⟩;show BG (fO v p) (IW vs ps)=_;rw[e,←CO,D9 (fO v p),CO];rfl
theorem HO{C:Mo.Cx}{A B D:BB}(hsv:Ir[i]?=some sv)(qV:C.M.O8 ((i:Nat):Int)≥0)(hi:i<IV.length)(hpo: ∀p∈IV,Xx p)(hA:CV A)(hB:CV B)(hD:CV D):
  Mo.Cn C 28 [AX C.m,.int .i64 ((i:Nat):Int),sv] l (BG A (BG B (BG D (IW Ir IV)))) l (fun q=>BG (J9 C q (.new C.M ((i:Nat):Int) (IV.getD i []))) (BG A (BG B (BG D (IW Ir IV))))):=by
 obtain⟨F,hF,e⟩:=HN hsv hi;have hin:IV.getD i []∈IV:=by
  rw[List.getD_eq_getElem?_getD,List.getElem?_eq_getElem hi];exact List.getElem_mem hi
 have e2:BG A (BG B (BG D (IW Ir IV)))=BG (fO sv (IV.getD i [])) (BG A (BG B (BG D F))):=by
  rw[e,←CO D,D9 D,CO,←CO B,D9 B,CO,←CO A,D9 A,CO]
 have:=Mo.Cn.FD (HE (C:=C) (l:=l) (i:=((i:Nat):Int)) (sv:=sv) qV (hpo _ hin)) (Ag hA (Ag hB (Ag hD hF)));rw[e2];simp only[CO] at this;exact this
theorem HP{A B D P:BB}:Az H (BG A (BG B (BG D P)))=BG (Az H (BG A (BG B D))) P:=by rw[EK,CO,CO]
theorem Se{LJ:List Value}(h:Ir[j]?=some sv):Qb (Ir++LJ) (0+((j:Nat):Int).toNat*1)=some sv:=by
 have hl:j<Ir.length:=by
  rcases Nat.lt_or_ge j Ir.length with g|g
  ·exact g
  rw[List.getElem?_eq_none g] at h;cases h
 rw[FO,show 0+((j:Nat):Int).toNat*1=j by omega,List.getElem?_append_left hl];exact h
theorem Ce.Xz{α:Type}{v:α→Value}{P:α→Prop}{B:α→List Bk}(h:Ce C f args l (Az H Cj) v l' P (fun a=>Az (B a) Cj))(hF:CV F):Ce C f args l (Az H F) v l' P (fun a=>Az (B a) F):=by
 have:=Ce.FD h hF;simp only[EK,Gl] at this;exact this
theorem Ρ{C:Mo.Cx}{R:BB}:Wk (wrap C l (BG R F)) (BG (wrap C l R) F):=fun D w ⟨Dw,⟨D1,D2,h1,h2,h3,h4⟩,g2,g3,g4,g5⟩=>by
 have hs: ∀k,D1 k→Dw k:=fun k hk=>(h4 k).2 (.inl hk)
 refine⟨D,⟨fun k=>D1 k∨k=C.s∨k=C.g∨k=C.m∨k=C.ga∨k=C.gr,D2,⟨D1,h1,g2,g3,g4.sub hs,fun k=>Iff.rfl⟩,h2,fun k hk h5=>?_,fun k=>?_⟩,fun k hk=>hk⟩
 ·have hd:Dw k:=(h4 k).2 (.inr h5);rcases hk with hk|rfl|rfl|rfl|rfl|rfl
  ·exact h3 k hk h5
  ·exact g4.ns hd
  ·exact g4.ng hd
  ·exact g4.nm.1 hd
  ·exact g4.na.1 hd
  exact g4.nr.1 hd
 rw[g5,h4];constructor
 ·rintro((h|h)|h)
  ·exact .inl (.inl h)
  ·exact .inr h
  exact .inl (.inr h)
 rintro((h|h)|h)
 ·exact .inl (.inl h)
 ·exact .inr h
 exact .inl (.inr h)
theorem qY{LJ:List Value}{pb pc:Nat}(hok:c.ok=true)(hpl:((IV.length:Nat):Int)=c.Ak)(hsl:Ir.length=IV.length)(hpo: ∀p∈IV,Xx p):Ce (α:=Mo.Cx×Nat) C 7 [.agg c.cells.toArray,Dc pb IV.length pc] l (Az [⟨pb,66,Ir++LJ⟩] (IW Ir IV)) (fun a=> .tuple #[AX a.2,.int .i64 0]) l (fun a=>a.1.M=c.map) (fun a=>Az [⟨pb,66,Ir++LJ⟩] (BG (wrap a.1 c.map.first (JZ a.1 a.2 (Wo.new c.map IV))) (IW Ir IV))):=by
 have hc:=Fj.Ok.of hok;have hn:=hc.nodes;have hd1:=hc.Ai;have hd2:=hc.Ak;have bY:=Fj.VO hc;obtain⟨hn1,hn2,hn3⟩:=Fj.nums hc;have hn4:c.DW=6+c.Ak+5+c.Ai*(2+c.BK)+c.Bq*6:=rfl;have hall:=iF hc;have hfl:0<c.map.first.length∧c.map.first.length≤1000000:=by rw[VQ];omega
 have Uk:CV (IW Ir IV):=Hw;refine Ci 74 Tryz.func7 Z (Ac Uk _) fun w0 D0=>Gu Uk<|AZ 2 [1] Z<|F7 Z CE fun b0=>AP 6 [2] Z<|NW (H1:=[_,_]) (H2:=[]) (B:=fun(a:Mo.Cx×List Value×List Value)=>He a.1 a.2.1 a.2.2) Z g23 Z (Ce.Xz (H:=[]) (Κ hok) Uk) (fun _=>Uk) JH fun a1 ha1=>AY 8 [] Z ?_
 obtain⟨⟨ks,kg,kc,km,ga,gr,ca,cr,M⟩,ra,rr⟩:=a1;obtain⟨hM1,dt⟩:=ha1;obtain rfl:M=c.map:=hM1;refine AZ 10 [0,172] Z<|NW (H1:=[_,_]) (H2:=[_,_,_]) (B:=fun(q:Nat)=>⟨q,90,Gv c.map.first⟩::He ⟨ks,kg,kc,km,ga,gr,ca,cr,c.map⟩ ra rr) Z g25 Z (Ce.Xz (Ο hc dt Z) Uk) (fun _=>Uk) JH fun a2 ha2=>NW (H1:=[_,_]) (H2:=[_,_,_,_]) (B:=fun(a:Nat×Nat×List Value×Nat)=>[⟨a.1,113,[Dc a.2.1 c.map.first.length a.2.2.2,.int .i64 0]⟩,⟨a.2.1,90,Gv c.map.first++a.2.2.1⟩]++He ⟨ks,kg,kc,km,ga,gr,ca,cr,c.map⟩ ra rr) Z g24 Z (Ce.n7 (H2:=He ⟨ks,kg,kc,km,ga,gr,ca,cr,c.map⟩ ra rr) (qX (ws:=c.map.first) hfl) Uk) (fun _=>Uk) JH fun a3 JK=>NC Z<|bP Z Z Z Z g26 (Cn.fr (HL (K:=⟨ks,kg,kc,km,ga,gr,ca,cr,c.map⟩)) Uk) (fun _=>Ag BZ Uk) CE fun q4=>Fp Z l80 z80 Z<|F7 Z CE fun b5=>AY 4 [] Z ?_
 obtain⟨sb,gb,fP,Nu⟩:=a3;refine T.HH (H':=[_,_,_]) (R':=wrap (⟨sb,gb,Nu,km,ga,gr,ca,cr,c.map⟩:Mo.Cx) c.map.first (BG (IY (⟨sb,gb,Nu,km,ga,gr,ca,cr,c.map⟩:Mo.Cx) q4 .new) (IW Ir IV))) (Bo (Ag BZ Hw)) (Xy.Az (Sb dt (fQ hc) JK.1.1 JK.2 JK.1.2) [_,_,_])<|CW 5 [0,1] Z<|T.block<|T.loop (fun(x:Nat×Value×List Bk×List Nat) w=>((x.1:Int)≤c.Ai∧Ht 81 1 x.2.1 x.1 (Rn x.2.2.2) x.2.2.1∧x.2.2.2.length=x.1)∧Sy C w0 D0 l (⟨b5,80,[AX km,AX sb,x.2.1,.slice none 0 0,AX q4,.slice none 0 0]⟩::⟨b0,24,c.cells⟩::⟨pb,66,Ir++LJ⟩::x.2.2.1) (wrap (⟨sb,gb,Nu,km,ga,gr,ca,cr,c.map⟩:Mo.Cx) c.map.first (BG (Ig (⟨sb,gb,Nu,km,ga,gr,ca,cr,c.map⟩:Mo.Cx) x.2.2.2 (Zz c.map x.1)) (BG (IY (⟨sb,gb,Nu,km,ga,gr,ca,cr,c.map⟩:Mo.Cx) q4 .new) (IW Ir IV)))) w) (fun x=>[(30,.int .i64 ((x.1:Nat):Int)),(29,.int .i64 c.Ai),(8,AX b5),(6,AX km),(2,AX b0),(1,Dc pb IV.length pc)]) (fun x=>c.Ai.toNat-x.1) (0,.slice none 0 0,[],[]) (fun w h=>⟨⟨by show((0:Nat):Int)≤c.Ai;omega,Ht.nil,rfl⟩,by show Sy C w0 D0 l _ (wrap _ _ (BG Cj _)) w;rw[Gl];exact h⟩) ⟨Z,Z,Z,Z,Z,Z,trivial⟩ ?_;rintro⟨i,mv,MB,qs⟩ g;refine T.pure ?_;rintro⟨hi,hR,du⟩;simp only at hi hR du;have hF1:CV (BG (Ig (⟨sb,gb,Nu,km,ga,gr,ca,cr,c.map⟩:Mo.Cx) qs (Zz c.map i)) (BG (IY (⟨sb,gb,Nu,km,ga,gr,ca,cr,c.map⟩:Mo.Cx) q4 .new) (IW Ir IV))):=Ag Dv (Ag BZ Hw);refine CW 5 [] Z<|T.cond Z ?_ ?_
 ·intro hb0;have him:((i:Nat):Int)<c.Ai:=of_decide_eq_true hb0;refine CW 2 [] Z<|T.block<|CW 5 [] Z<|Ey 13 31 4992 (by kernel_rfl)<|AP 7 [] Z<|bP Z Z Z Z g27 (HG (Mo.Cn.fr (Er (C:=(⟨sb,gb,Nu,km,ga,gr,ca,cr,c.map⟩:Mo.Cx)) bY (show 0≤((i:Nat):Int)∧((i:Nat):Int)<c.Ai by omega)) hF1)) (fun _=>Bo (Ag HY hF1)) (fun _=>(BP Z lw .z Z (Ed Z G3 (Ia Z (Bv Z (Bv Z Aw)))))) fun q6=>Qc Z ly z81 (by decide) Z Z Z (fun _=>(BP Z lw (.s .z) Z (Ed Z G3 (Ia Z (Bv Z (Bv Z Aw)))))) fun b7=>MG (n:=1) (news:=[AX q6]) (Ff:=[]) (Hr:=[_,_,_,_]) (cn:=Rn (qs++[q6])) (kn:=i+1) hR Z Z Z ly Z .z Z (by simp[BL]) ⟨by omega,by omega,by omega,by omega⟩ (by simp[Rn]) Z (fun _=>(BP Z lw (.s .z) Z (Ed Z G3 (Ia Z (Bv Z (Bv Z Aw)))))) fun v' B' hR'=>AP 2 [] Z<|KQ Z lw hR'.cell (.s .z) Z (.s .z) (Aj (by kernel_rfl) (Aj (by kernel_rfl) (Aj (by kernel_rfl) (Aj (by kernel_rfl) (Aj (by kernel_rfl) Aw)))))<|X.nil<|T.Bj<|tx 2 nf Z<|BU (c:=((i+1:Nat):Int)) Z (by simp only[FC];rw[IntWalk.i64_in _ (by omega)];omega)<|AY 2 [] Z ?_
  exact T.FT (i+1,v',B',qs++[q6]) (by show c.Ai.toNat-(i+1)<c.Ai.toNat-i;omega) (fun w h=>⟨⟨by show((i+1:Nat):Int)≤c.Ai;omega,hR',by show(qs++[_]).length=i+1;rw[List.length_append,du];rfl⟩,h.Jc (Bo (Ag Dv (Ag BZ Hw))) (Wk.tail.trans (Wk.Az (iq (wZ (by rw[ZA];exact du))) _))⟩) ⟨rfl,rfl,rfl,rfl,rfl,rfl,trivial⟩
 intro hb0;have hie:((i:Nat):Int)=c.Ai:=by have: ¬((i:Nat):Int)<c.Ai:=of_decide_eq_false hb0;omega
 obtain⟨mb,Vj,mm,rfl,hr1,hr2,hr3,-,rfl⟩:=hR.resolve_left (fun h=>by omega);have hr4:(Rn qs).length=qs.length:=by simp[Rn]
 refine T.exit<|TE.FQ<|TE.DC<|CW 7 [0,1] Z<|T.block<|T.loop (fun(x:Nat×Value×List Bk×List Nat) w=>((x.1:Int)≤c.Ak∧Ht 83 1 x.2.1 x.1 (Rn x.2.2.2) x.2.2.1∧x.2.2.2.length=x.1)∧Sy C w0 D0 l (⟨b5,80,[AX km,AX sb,Dc mb i mm,x.2.1,AX q4,.slice none 0 0]⟩::⟨b0,24,c.cells⟩::⟨pb,66,Ir++LJ⟩::⟨mb,81,Rn qs++Vj⟩::x.2.2.1) (wrap (⟨sb,gb,Nu,km,ga,gr,ca,cr,c.map⟩:Mo.Cx) c.map.first (BG (Ig (⟨sb,gb,Nu,km,ga,gr,ca,cr,c.map⟩:Mo.Cx) qs (Zz c.map i)) (BG (Iz (⟨sb,gb,Nu,km,ga,gr,ca,cr,c.map⟩:Mo.Cx) x.2.2.2 (kK c.map IV x.1)) (BG (IY (⟨sb,gb,Nu,km,ga,gr,ca,cr,c.map⟩:Mo.Cx) q4 .new) (IW Ir IV))))) w) (fun x=>[(48,.int .i64 ((x.1:Nat):Int)),(47,.int .i64 c.Ak),(8,AX b5),(6,AX km),(1,Dc pb IV.length pc)]) (fun x=>c.Ak.toNat-x.1) (0,.slice none 0 0,[],[]) (fun w h=>⟨⟨by show((0:Nat):Int)≤c.Ak;omega,Ht.nil,rfl⟩,by show Sy C w0 D0 l _ (wrap _ _ (BG _ (BG Cj _))) w;rw[Gl];exact h⟩) ⟨Z,Z,Z,Z,Z,trivial⟩ ?_;rintro⟨j,uv,UB,us⟩ g2;refine T.pure ?_;rintro⟨hj,hU,dx⟩;simp only at hj hU dx;have hF2:CV (BG (Ig (⟨sb,gb,Nu,km,ga,gr,ca,cr,c.map⟩:Mo.Cx) qs (Zz c.map i)) (BG (Iz (⟨sb,gb,Nu,km,ga,gr,ca,cr,c.map⟩:Mo.Cx) us (kK c.map IV j)) (BG (IY (⟨sb,gb,Nu,km,ga,gr,ca,cr,c.map⟩:Mo.Cx) q4 .new) (IW Ir IV)))):=Ag Dv (Ag DF (Ag BZ Hw));refine CW 5 [] Z<|T.cond Z ?_ ?_
 ·intro hb1;have hjm:((j:Nat):Int)<c.Ak:=of_decide_eq_true hb1;have hjl:j<IV.length:=by omega
  obtain⟨sv,hsv⟩: ∃sv,Ir[j]?=some sv:=⟨_,List.getElem?_eq_getElem (show j<Ir.length by omega)⟩;refine CW 2 [] Z<|T.block<|AZ 15 [] Z<|Du (c:=true) Z (decide_eq_true (show((j:Nat):Int)<((IV.length:Nat):Int) by omega))<|AP 5 [] Z<|Jm Z md (show 0≤((j:Nat):Int)∧((j:Nat):Int)<((IV.length:Nat):Int) by omega)<|JY (v:=sv) Z Mv (.s (.s .z)) (Se hsv)<|AY 2 [] Z<|Ey 14 31 9984 (by kernel_rfl)<|AP 8 [] Z<|bP Z Z Z Z g28 (HG (HO (C:=(⟨sb,gb,Nu,km,ga,gr,ca,cr,c.map⟩:Mo.Cx)) (l:=c.map.first) (i:=j) (IV:=IV) hsv (cV hc (show 0≤((j:Nat):Int)∧((j:Nat):Int)<c.Ak by omega)) hjl hpo Dv DF BZ)) (fun _=>Bo (Ag Dj hF2)) (fun _=>(BP Z lx .z Z (Ed Z G4 (Ia Z (Bv Z (Bv Z Aw)))))) fun q8=>Qc Z lz z83 (by decide) Z Z Z (fun _=>(BP Z lx (.s .z) Z (Ed Z G4 (Ia Z (Bv Z (Bv Z Aw)))))) fun b9=>MG (n:=1) (news:=[AX q8]) (Ff:=[]) (Hr:=[_,_,_,_,_]) (cn:=Rn (us++[q8])) (kn:=j+1) hU Z Z Z lz Z .z Z (by simp[BL]) ⟨by omega,by omega,by omega,by omega⟩ (by simp[Rn]) Z (fun _=>(BP Z lx (.s .z) Z (Ed Z G4 (Ia Z (Bv Z (Bv Z Aw)))))) fun v' B' B7=>AP 2 [] Z<|KQ Z lx B7.cell (.s .z) Z (.s .z) (Aj (by kernel_rfl) (Aj (by kernel_rfl) (Aj (by kernel_rfl) (Aj (by kernel_rfl) (Aj (by kernel_rfl) Aw)))))<|X.nil<|T.Bj<|tx 2 nf Z ?_
  refine BU (c:=((j+1:Nat):Int)) Z (by simp only[FC];rw[IntWalk.i64_in _ (by omega)];omega)<|AY 2 [] Z ?_;exact T.FT (j+1,v',B',us++[q8]) (by show c.Ak.toNat-(j+1)<c.Ak.toNat-j;omega) (fun w h=>⟨⟨by show((j+1:Nat):Int)≤c.Ak;omega,B7,by show(us++[_]).length=j+1;rw[List.length_append,dx];rfl⟩,h.Jc (Bo (Ag Dv (Ag DF (Ag BZ Hw)))) (Wk.tail.trans (Wk.Az (iq (xA (by rw[ZB];exact dx))) _))⟩) ⟨rfl,rfl,rfl,rfl,rfl,trivial⟩
 intro hb1;have hje:((j:Nat):Int)=c.Ak:=by have: ¬((j:Nat):Int)<c.Ak:=of_decide_eq_false hb1;omega
 obtain⟨ub,ja,um,rfl,hu1,hu2,hu3,-,rfl⟩:=hU.resolve_left (fun h=>by omega);have mQ:(Rn us).length=us.length:=by simp[Rn]
 have ZD:(Wo.new c.map IV).Ai=Zz c.map i:=by rw[iw,show i=c.Ai.toNat by omega];rfl
 have ZS:(Wo.new c.map IV).Ak=kK c.map IV j:=by rw[iy,show j=c.Ak.toNat by omega];rfl
 have fold_eq: ∀{D:LV} {w:World},Az [⟨b5,80,[AX km,AX sb,Dc mb i mm,Dc ub j um,AX q4,.slice none 0 0]⟩,⟨mb,81,Rn qs++Vj⟩,⟨ub,83,Rn us++ja⟩] (BG (Ig (⟨sb,gb,Nu,km,ga,gr,ca,cr,c.map⟩:Mo.Cx) qs (Zz c.map i)) (BG (Iz (⟨sb,gb,Nu,km,ga,gr,ca,cr,c.map⟩:Mo.Cx) us (kK c.map IV j)) (IY (⟨sb,gb,Nu,km,ga,gr,ca,cr,c.map⟩:Mo.Cx) q4 .new))) D w→Az [GQ (⟨sb,gb,Nu,km,ga,gr,ca,cr,c.map⟩:Mo.Cx) b5 mb qs.length mm ub us.length um q4 (.slice none 0 0),GO mb qs Vj,GP ub us ja] (BG (Ig (⟨sb,gb,Nu,km,ga,gr,ca,cr,c.map⟩:Mo.Cx) qs (Wo.new c.map IV).Ai) (BG (Iz (⟨sb,gb,Nu,km,ga,gr,ca,cr,c.map⟩:Mo.Cx) us (Wo.new c.map IV).Ak) (IY (⟨sb,gb,Nu,km,ga,gr,ca,cr,c.map⟩:Mo.Cx) q4 (Wo.new c.map IV).Ik))) D w:=fun h=>by rw[ZD,ZS,du,dx];exact h
 refine T.exit<|TE.FQ<|TE.DC<|T.seq<|T.HH (H':=[⟨pb,66,Ir++LJ⟩]) (R':=BG (wrap (⟨sb,gb,Nu,km,ga,gr,ca,cr,c.map⟩:Mo.Cx) c.map.first (JZ (⟨sb,gb,Nu,km,ga,gr,ca,cr,c.map⟩:Mo.Cx) b5 (Wo.new c.map IV))) (IW Ir IV)) (Ag (Bo BF) Hw) ((Xy.of (Wk.pick [2,0,3,4] (by decide))).trans (Xy.blk ((ig [_,_,_]).trans (Xy.of ((Sd (Wk.of fun D w h=>by
  rw[HP] at h;obtain⟨D1,D2,h1,h2,h3,h4⟩:=h;exact⟨D1,D2,⟨⟨qs,us,mb,Vj,mm,ub,ja,um,q4,.slice none 0 0,[]⟩,⟨by rw[ZD,ZA];exact du,by rw[ZS,ZB];exact dx,by show qs.length+Vj.length=mm;omega,by show us.length+ja.length=um;omega,.inl ⟨rfl,rfl,rfl⟩⟩,fold_eq h1⟩,h2,h3,h4⟩)).trans Ρ))))) ?_
 exact CW 5 [] Z<|T.YJ Z fun W D h=>⟨D,⟨((⟨sb,gb,Nu,km,ga,gr,ca,cr,c.map⟩:Mo.Cx),b5),rfl,rfl,rfl,h⟩,fun _ hk=>hk⟩
theorem Wk.dy{R:BB}:Wk (BG R F) R:=by
 rw[D9];exact Wk.right
theorem Τ{Aq:List I4}{pb ob oc:Nat}{OD:List Value}(hok:c.ok=true)(hmu:c.Ak=1)(hne:Aq≠[])(hoc:Aq.length≤oc)(ho:Xx Aq):Ce (α:=Mo.Cx×Nat) C 7 [.agg c.cells.toArray,Dc pb 1 1] l (Az [⟨pb,66,[Dc ob Aq.length oc]⟩,⟨ob,65,Nk Aq++OD⟩] Cj) (fun a=> .tuple #[AX a.2,.int .i64 0]) l (fun a=>a.1.M=c.map) (fun a=>wrap a.1 c.map.first (JZ a.1 a.2 (Wo.new c.map [Aq]))):=fun w D ha hm hR=>by
 obtain⟨h1,D1,h2,h3,h4⟩:=hR;have h0:Az [⟨pb,66,[Dc ob Aq.length oc]++[]⟩] (IW [Dc ob Aq.length oc] [Aq]) D w:=⟨h1,D1,(by
  show BG (fO _ _) Cj D1 w;rw[jH];exact⟨_,.inr ⟨hne,ob,OD,oc,rfl,hoc,rfl⟩,h2⟩),h3,h4⟩
 have hn:=qY (C:=C) (l:=l) (c:=c) (IV:=[Aq]) (Ir:=[Dc ob Aq.length oc]) (LJ:=[]) (pb:=pb) (pc:=1) hok (by rw[hmu];rfl) rfl (fun p hp=>by rw[List.mem_singleton.1 hp];exact ho);have hq:Ce (α:=Mo.Cx×Nat) C 7 [.agg c.cells.toArray,Dc pb 1 1] l (Az [⟨pb,66,[Dc ob Aq.length oc]++[]⟩] (IW [Dc ob Aq.length oc] [Aq])) (fun a=> .tuple #[AX a.2,.int .i64 0]) l (fun a=>a.1.M=c.map) (fun a=>wrap a.1 c.map.first (JZ a.1 a.2 (Wo.new c.map [Aq]))):=Ct.mono hn fun u m D w ⟨a,g1,g2,g3,g4⟩=>by
  obtain⟨D1,k1,k2⟩:=Wk.tail D w g4;obtain⟨D2,k3,k4⟩:=Wk.dy D1 w k1;exact⟨D2,⟨a,g1,g2,g3,k3⟩,fun k hk=>k2 k (k4 k hk)⟩
 exact hq w D ha hm h0
end Mp
section
variable{R:BB}
variable{lo:Nat→Bool}{d:Option Nat}{gd:Option (Nat×Bool)}{x:Operand}
end
theorem Ce.n7{α:Type}{v:α→Value}{P:α→Prop}{B:α→List Bk}(h:Ce C f args l (Az H Cj) v l' P (fun a=>Az (B a) Cj))(hF:CV F):Ce C f args l (Az (H++H2) F) v l' P (fun a=>Az (B a++H2) F):=by
 have:=Ce.FD h (F:=Az H2 F) (Ac hF H2);simp only[EK,Gl,←J5] at this;exact this
theorem g48:Cm 48=true:=by kernel_rfl
theorem Ue{p:Nat}(h4:W.Ai.length≤4∧W.Ak.length≤4):Cv C 9 [AX p] l (JZ C p W) (.int .i64 ((W.FX:Nat):Int)) l (JZ C p W):=by
 refine Ci 17 Tryz.func9 Z BF fun w0 D0=>T.ex (fun _=>Ba (Ac (Ag Dv (Ag DF BZ)) _)) ?_
 rintro⟨qs,us,mb,rm,cm,ub,ru,cu,db,lv,LB⟩;refine T.and (fun _=>Ac (Ag Dv (Ag DF BZ)) _) ?_;intro ha;have hq0:qs.length=W.Ai.length:=ha.q;have hu0:us.length=W.Ak.length:=ha.u;obtain⟨F,hF⟩: ∃F,F=Az (GO mb qs rm::GP ub us ru::LB) (BG (Ig C qs W.Ai) (BG (Iz C us W.Ak) (IY C db W.Ik))):=⟨_,rfl⟩;have hl:CV F:=by rw[hF];exact Ac (Ag Dv (Ag DF BZ)) _
 refine T.conv (fun w h=>Sy.opens (H2:=[GQ C p mb qs.length cm ub us.length cu db lv]) (R:=F) (by rw[hF];exact h) hl)<|CW 13 [] Z<|Ey 13 0 0 (by kernel_rfl)<|AP 10 [] Z<|BU (c:=((qs.length:Int)+us.length)) Z (EG (show -9223372036854775808≤((qs.length:Int)+us.length)∧((qs.length:Int)+us.length)≤9223372036854775807 by omega))<|BU (c:=((qs.length:Int)+us.length+1)) Z (EG (show -9223372036854775808≤((qs.length:Int)+us.length+1)∧((qs.length:Int)+us.length+1)≤9223372036854775807 by omega))<|AY 2 [] Z<|T.BC Z fun W_ D h=>?_
 subst hF;exact⟨D,⟨by rw[show((W.FX:Nat):Int)=((qs.length:Int)+us.length+1) by unfold Wo.FX;omega];rfl,rfl,⟨⟨qs,us,mb,rm,cm,ub,ru,cu,db,_,_⟩,ha,h⟩⟩,fun _ hk=>hk⟩
theorem Sf{p:Nat}(NP:W.Bl≠[])(hll:W.Bl.length≤1000000):Ce (α:=Nat×List Value×Nat) C 20 [AX p] l (JZ C p W) (fun a=> .slice (some ⟨a.1,0,none⟩) W.Bl.length a.2.2) l (fun a=>(W.Bl.length≤a.2.2∧(PY W.Bl).length+a.2.1.length=a.2.2*5)∧a.2.2≤maxLen) (fun a=>Az [⟨a.1,33,PY W.Bl++a.2.1⟩] (JZ C p W)):=by
 refine Ci 10 Tryz.func20 Z BF fun w0 D0=>T.ex (fun _=>Ba (Ac (Ag Dv (Ag DF BZ)) _)) ?_
 rintro⟨qs,us,mb,rm,cm,ub,ru,cu,db,lv,LB⟩;refine T.and (fun _=>Ac (Ag Dv (Ag DF BZ)) _) ?_;intro ha;obtain⟨lb,Vg,lc,rfl,hne,hlc,hlr,rfl⟩:=ha.Bl.resolve_left (fun h=>NP h.2.1);refine T.conv (fun w h=>Sy.opens (H2:=[_,_,_,_]) h (Ag Dv (Ag DF BZ)))<|AZ 18 [0,0,16] Z<|NW (H1:=[_,_,_]) (H2:=[_]) (B:=fun(a:Nat×List Value×Nat)=>[⟨a.1,33,PY W.Bl++a.2.1⟩,⟨lb,33,PY W.Bl++Vg⟩]) Z g48 Z (Ce.n7 (H2:=[]) (wM (news:=PY W.Bl) (rest:=Vg) ⟨by have:=List.length_pos_iff.2 NP;omega,hll⟩ (OE _)) (Ag Dv (Ag DF BZ))) (fun _=>(Ag Dv (Ag DF BZ))) JH fun a0 ha0=>AY 2 [] Z<|T.BC Z fun W_ D h=>?_
 obtain⟨D1,h1,h2⟩:=Wk.pick [3,0,1,2,4] (by decide) D W_ h;obtain⟨k1,D2,k2,k3,k4⟩:=h1;exact⟨D1,⟨a0,rfl,ha0,rfl,⟨k1,D2,⟨⟨qs,us,mb,rm,cm,ub,ru,cu,db,_,_⟩,ha,k2⟩,k3,k4⟩⟩,h2⟩
theorem Wo.Υ{Di:Nat}:(W.EC M Di dr).1.Ai.length=W.Ai.length∧(W.EC M Di dr).1.Ak.length=W.Ak.length∧(W.EC M Di dr).1.Bl=W.Bl:=by
 unfold Wo.EC;split
 ·exact⟨by simp only[List.length_set],rfl,rfl⟩
 split
 ·exact⟨rfl,by simp only[List.length_set],rfl⟩
 exact⟨rfl,rfl,rfl⟩
theorem Wo.HQ{Di:Nat}:(W.step M Di dr).1.Ai.length=W.Ai.length∧(W.step M Di dr).1.Ak.length=W.Ak.length∧(W.step M Di dr).1.Bl.length≤W.Bl.length+1:=by
 obtain⟨h1,h2,h3⟩:=Wo.Υ (M:=M) (W:=W) (Di:=Di) (dr:=dr);unfold Wo.step;split
 ·exact⟨h1,h2,by rw[h3];omega⟩
 exact⟨h1,h2,by simp only[List.length_append,h3,List.length_cons,List.length_nil];omega⟩
structure Wo.Go (M:Bz) (W:Wo) (A k:Nat):Prop where
 ok:W.Ok M
 Φ:W.Ai.length≤4∧W.Ak.length≤4
 tL:W.FX=A
 Bl:W.Bl.length≤k
theorem Wo.Go.step{M:Bz}{W:Wo}{A k:Nat}(h:W.Go M A k)(hM:M.Ok)(Di:Nat)(dr:Int):(W.step M Di dr).1.Go M A (k+1):=by
 obtain⟨h1,h2,h3⟩:=Wo.HQ (M:=M) (W:=W) (Di:=Di) (dr:=dr);have:=h.tL;refine⟨Wo.Ef hM h.ok Di dr,by rw[h1,h2];exact h.Φ,?_,by have:=h.Bl;omega⟩;unfold Wo.FX at this⊢
 rw[h1,h2];exact this
theorem Wo.Go.mono{k k':Nat}(h:W.Go M A k)(hk:k≤k'):W.Go M A k':=⟨h.ok,h.Φ,h.tL,Nat.le_trans h.Bl hk⟩
theorem qZ{d:Int}{a:Nat}{t:Wo×Bool}(h:I5 M d n a W=t)(hn:0<n)(h7:(W.step M a d).2.kind=7)(h0:(W.step M a d).2.a=0):t=((W.step M a d).1,true):=by
 obtain⟨m,rfl⟩: ∃m,n=m+1:=⟨n-1,by omega⟩;rw[←h];unfold I5;rw[if_pos ⟨h7,h0⟩]
theorem fU{d:Int}{a:Nat}{t:Wo×Bool}(h:I5 M d n a W=t)(hn:0<n)(h7: ¬((W.step M a d).2.kind=7∧(W.step M a d).2.a=0)):I5 M d (n-1) (if a+1=W.FX then 0 else a+1) (W.step M a d).1=t:=by
 obtain⟨m,rfl⟩: ∃m,n=m+1:=⟨n-1,by omega⟩;rw[←h]
 conv=>rhs;unfold I5
 rw[if_neg h7];rfl
theorem fV(hi:i<n):(n-i)*A=(n-(i+1))*A+A:=by
 obtain⟨k,rfl⟩: ∃k,n=i+1+k:=⟨n-(i+1),by omega⟩;rw[show i+1+k-i=k+1 by omega,show i+1+k-(i+1)=k by omega,Nat.add_mul,Nat.one_mul]
theorem HR:Pm 33 2 2=true:=by kernel_rfl
theorem g8:Cm 8=true:=by kernel_rfl
theorem tM:Jv 38 [(0,1),(1,1)]=true:=by kernel_rfl
theorem Mx:LU 38=some [.int .i64 0,.int .i64 0]:=by kernel_rfl
namespace Mp
theorem Χ{K:Mo.Cx}{p L0:Nat}{d:Int}{mV:Wo×Bool}(hM:K.M.Ok)(hp:0≤K.M.parts∧K.M.parts≤100000)(hW:W.Go K.M A L0)(hA:0<A)(hn:L0+n*A+A<900000)(hnn:n≤900000)(ht:I5 K.M d (n*A) 0 W=mV):
  Cv C 19 [AX p,.int .i64 (n:Int),.int .i64 d] l (wrap K W.l (JZ K p W)) (.bool mV.2) l (wrap K mV.1.l (JZ K p mV.1)):=by
 refine Ci 36 Tryz.func19 Z (Bo BF) fun w0 D0=>CW 13 [] Z<|T.block<|T.loop (fun(x:Nat×Wo) w=>((x.1≤n∧x.2.Go K.M A (L0+x.1*A))∧I5 K.M d ((n-x.1)*A) 0 x.2=mV)∧Sy C w0 D0 l [] (wrap K x.2.l (JZ K p x.2)) w) (fun x=>[(8,.int .i64 ((x.1:Nat):Int)),(7,.bool false),(0,AX p),(1,.int .i64 (n:Int)),(2,.int .i64 d)]) (fun x=>n-x.1) (0,W) (fun w h=>⟨⟨⟨Nat.zero_le _,hW.mono (by omega)⟩,by show I5 K.M d ((n-0)*A) 0 W=mV;exact ht⟩,h⟩) ⟨Z,Z,Z,Z,Z,trivial⟩ ?_
 rintro⟨i,W1⟩ g;refine T.pure ?_;rintro⟨⟨hi,hG1⟩,ht1⟩;simp only at hi hG1 ht1;refine CW 7 [] Z<|T.cond Z ?_ ?_
 ·intro hb0;have hin:i<n:=by have:((i:Nat):Int)<(n:Int):=of_decide_eq_true hb0;omega
  have hiA:i*A≤n*A:=Nat.mul_le_mul_right A (by omega);refine CW 2 [] Z<|T.block<|CW 4 [] Z<|T.block<|T.loop (fun(x:Nat×Wo) w=>((x.1≤A∧x.2.Go K.M A (L0+i*A+x.1))∧I5 K.M d ((n-i)*A-x.1) (if x.1=A then 0 else x.1) x.2=mV)∧Sy C w0 D0 l [] (wrap K x.2.l (JZ K p x.2)) w) (fun x=>[(9,.int .i64 ((x.1:Nat):Int)),(8,.int .i64 ((i:Nat):Int)),(7,.bool false),(0,AX p),(1,.int .i64 (n:Int)),(2,.int .i64 d)]) (fun x=>A-x.1) (0,W1) (fun w h=>⟨⟨⟨Nat.zero_le _,hG1⟩,by show I5 K.M d ((n-i)*A-0) (if 0=A then 0 else 0) W1=mV;rw[Nat.sub_zero,if_neg (by omega)];exact ht1⟩,h⟩) ⟨Z,Z,Z,Z,Z,Z,trivial⟩ ?_;rintro⟨a,W2⟩ g2;refine T.pure ?_;rintro⟨⟨ha,hG2⟩,ht2⟩;simp only at ha hG2 ht2;have h4:=hG2.Φ;have hact:=hG2.tL;have NP:=hG2.Bl;refine AZ 5 [] Z<|CB Z g9 (Zy (Ue h4)) (Bo BF)<|AY 2 [] Z<|T.cond Z ?_ ?_
  ·intro hb1;have haA:a<A:=by have:((a:Nat):Int)<((W2.FX:Nat):Int):=of_decide_eq_true hb1;omega
   rw[if_neg (by omega)] at ht2;have hpos:a<(n-i)*A:=by rw[fV hin];omega
   refine CW 2 [] Z<|T.block<|AZ 5 [112] Z<|Fp Z tM Mx Z<|Ls Z g8 (Zy (WA (C:=K) (W:=W2) (Di:=a) (dr:=d) (by omega) hM hp hG2.ok h4 (by omega))) (Bo BF) Aw<|Hg Z Ih CE fun b0=>AY 3 [] Z ?_
   by_cases h7:(W2.step K.M a d).2.kind=7
   ·skip;refine AZ 3 [] Z<|Du (c:=true) Z (beq_iff_eq.2 h7)<|AY 6 [] Z<|T.cond Z ?_ ?_
    ·intro hb3;refine CW 4 [] Z<|T.J8<|TE.CJ<|TE.TU<|TE.CJ<|TE.CJ<|TE.TU<|TE.CJ<|TE.BC rfl fun W_ D h=>?_
     rw[qZ ht2 (by omega) h7 (eq_of_beq hb3)];obtain⟨D1,h1,h2⟩:=Wk.tail D W_ h;exact⟨D1,⟨rfl,rfl,h1⟩,h2⟩
    intro hb3;refine T.skip<|T.Bj<|AZ 2 [] Z<|BU (c:=((a+1:Nat):Int)) Z (by simp only[FC];rw[IntWalk.i64_in _ (by omega)];omega)<|AY 2 [] Z ?_;exact T.FT (a+1,(W2.step K.M a d).1) (by show A-(a+1)<A-a;omega) (fun w h=>⟨⟨⟨by show a+1≤A;omega,hG2.step hM a d⟩,by have:=fU ht2 (by omega) (fun h=>ne_of_beq_false hb3 h.2);rw[hact] at this;rw[Nat.sub_sub] at this;exact this⟩,Sy.Jc h (Bo BF) Wk.tail⟩) ⟨rfl,rfl,rfl,rfl,rfl,rfl,trivial⟩
   skip;refine AZ 3 [] Z<|Du (c:=false) Z (beq_eq_false_iff_ne.2 h7)<|AY 8 [] Z<|T.Bj<|AZ 2 [] Z<|BU (c:=((a+1:Nat):Int)) Z (by simp only[FC];rw[IntWalk.i64_in _ (by omega)];omega)<|AY 2 [] Z ?_;exact T.FT (a+1,(W2.step K.M a d).1) (by show A-(a+1)<A-a;omega) (fun w h=>⟨⟨⟨by show a+1≤A;omega,hG2.step hM a d⟩,by have:=fU ht2 (by omega) (fun h=>h7 h.1);rw[hact] at this;rw[Nat.sub_sub] at this;exact this⟩,Sy.Jc h (Bo BF) Wk.tail⟩) ⟨rfl,rfl,rfl,rfl,rfl,rfl,trivial⟩
  intro hb1;have haA:a=A:=by have: ¬((a:Nat):Int)<((W2.FX:Nat):Int):=of_decide_eq_false hb1;omega
  refine T.exit<|TE.FQ<|TE.DC<|T.Bj<|AZ 2 [] Z<|BU (c:=((i+1:Nat):Int)) Z (by simp only[FC];rw[IntWalk.i64_in _ (by omega)];omega)<|AY 2 [] Z ?_;exact T.FT (i+1,W2) (by show n-(i+1)<n-i;omega) (fun w h=>⟨⟨⟨by show i+1≤n;omega,hG2.mono (by show _≤L0+(i+1)*A;rw[Nat.add_mul];omega)⟩,by show I5 K.M d ((n-(i+1))*A) 0 W2=mV;rw[←ht2,if_pos haA,haA,fV hin,Nat.add_sub_cancel]⟩,h⟩) ⟨rfl,rfl,rfl,rfl,rfl,trivial⟩
 intro hb0;refine T.exit<|TE.FQ<|TE.DC<|CW 5 [] Z<|T.BC Z fun W_ D h=>?_
 have hin:i=n:=by have: ¬((i:Nat):Int)<(n:Int):=of_decide_eq_false hb0;omega
 rw[hin,Nat.sub_self,Nat.zero_mul] at ht1;subst ht1;exact⟨D,⟨rfl,rfl,h⟩,fun _ hk=>hk⟩
theorem Ψ{C:Mo.Cx}{R:BB}{x:Bk}:Wk (wrap C l (Mo.blk x R)) (Mo.blk x (wrap C l R)):=fun D w ⟨Dw,⟨h1,D1,h2,h3,h4⟩,g2,g3,g4,g5⟩=>by
 have hx:Dw x.b:=(h4 _).2 (.inl rfl);have ns:x.b≠C.s:=fun e=>g4.ns (e▸hx)
 have ng:x.b≠C.g:=fun e=>g4.ng (e▸hx)
 have nm:x.b≠C.m:=fun e=>g4.nm.1 (e▸hx)
 have na:x.b≠C.ga:=fun e=>g4.na.1 (e▸hx)
 have nr:x.b≠C.gr:=fun e=>g4.nr.1 (e▸hx)
 refine⟨D,⟨h1,fun k=>D1 k∨k=C.s∨k=C.g∨k=C.m∨k=C.ga∨k=C.gr,⟨D1,h2,g2,g3,g4.sub fun k hk=>(h4 k).2 (.inr hk),fun k=>Iff.rfl⟩,?_,fun k=>?_⟩,fun _ h=>h⟩
 ·rintro(h|h|h|h|h|h)
  ·exact h3 h
  ·exact ns h
  ·exact ng h
  ·exact nm h
  ·exact na h
  exact nr h
 rw[g5,h4,or_assoc]
theorem rC{C:Mo.Cx}{l:Dk}{R:BB}: ∀(H:List Bk),Wk (wrap C l (Mo.Az H R)) (Mo.Az H (wrap C l R))
 |[]=>Wk.refl _
 |x::H=>Ψ.trans (Wk.blk (rC H))
theorem Sh{α:Type}{C:Mo.Cx}{l0:Dk}{R:BB}{v:α→Value}{P:α→Prop}{B:α→List Bk}(h:Mo.Ce C f args l R v l' P (fun a=>Mo.Az (B a) R')):Ce C0 f args l0 (wrap C l R) v l0 P (fun a=>Mo.Az (B a) (wrap C l' R')):=
 Ce.wk (n6 h) (Wk.refl _) fun a=>rC (B a)
def ZF(L:List Ev):Nat:=(L.filter fun e=>decide (e.kind=5∧e.a=1∧e.Di=0)).length
theorem SK{L:List Ev}(hi:i<L.length):ZF (L.drop i)=(if(L.getD i BH).kind=5∧(L.getD i BH).a=1∧(L.getD i BH).Di=0 then 1 else 0)+ZF (L.drop (i+1)):=by
 rw[List.drop_eq_getElem_cons hi,List.getD_eq_getElem?_getD,List.getElem?_eq_getElem hi,Option.getD_some];unfold ZF;rw[List.filter_cons];split
 ·rename_i h;rw[if_pos (of_decide_eq_true h)];simp only[List.length_cons];omega
 rename_i h;rw[if_neg fun g=>h (decide_eq_true g)];omega
theorem HS(e:Ev): ¬e.kind=5∨(e.kind=5∧ ¬e.a=1)∨(e.kind=5∧e.a=1∧ ¬e.Di=0)∨(e.kind=5∧e.a=1∧e.Di=0):=by
 by_cases h1:e.kind=5
 ·by_cases h2:e.a=1
  ·by_cases h3:e.Di=0
   ·exact .inr (.inr (.inr ⟨h1,h2,h3⟩))
   exact .inr (.inr (.inl ⟨h1,h2,h3⟩))
  exact .inr (.inl ⟨h1,h2⟩)
 exact .inl h1
theorem kL{rest:List Value}: ∀(L:List Ev) (i k:Nat),i<L.length→k<5→Qb (PY L++rest) (i*5+k)=(L.getD i BH).cells[k]?
 |[],i,k,hi,_=>by simp at hi
 |e::L,0,k,_,hk=>by
  rw[FO,Nat.zero_mul,Nat.zero_add];show(e.cells++PY L++rest)[k]?=_;rw[List.append_assoc,List.getElem?_append_left (by simpa[Ev.cells] using hk)];rfl
 |e::L,i+1,k,hi,hk=>by
  have:=kL (rest:=rest) L i k (by simpa using hi) hk;rw[FO] at this⊢
  show(e.cells++PY L++rest)[(i+1)*5+k]?=_;have e5:e.cells.length=5:=rfl;rw[List.append_assoc,List.getElem?_append_right (by omega),show(i+1)*5+k-e.cells.length=i*5+k by omega,this];rfl
theorem Vk{rest:List Value}{L:List Ev}(hi:i<L.length):Qb (PY L++rest) (0+((i:Nat):Int).toNat*5+0)=some (.int .i64 (L.getD i BH).kind):=by
 rw[Int.toNat_natCast,Nat.zero_add];exact kL L i 0 hi (by decide)
theorem jc{rest:List Value}{L:List Ev}(hi:i<L.length):Qb (PY L++rest) (0+((i:Nat):Int).toNat*5+1)=some (.int .i64 (L.getD i BH).Di):=by
 rw[Int.toNat_natCast,Nat.zero_add];exact kL L i 1 hi (by decide)
theorem HT{rest:List Value}{L:List Ev}(hi:i<L.length):Qb (PY L++rest) (0+((i:Nat):Int).toNat*5+2)=some (.int .i64 (L.getD i BH).a):=by
 rw[Int.toNat_natCast,Nat.zero_add];exact kL L i 2 hi (by decide)
end Mp
theorem g19:Cm 19=true:=by kernel_rfl
theorem g20:Cm 20=true:=by kernel_rfl
theorem g7:Cm 7=true:=by kernel_rfl
theorem l24:Jv 24 [(0,5),(5,1),(6,1),(7,1),(8,1),(9,1),(10,1),(11,1)]=true:=by kernel_rfl
theorem l65:Jv 65 [(0,1),(1,1),(2,1),(3,1)]=true:=by kernel_rfl
theorem z22:LU 22=some [.int .i64 0,.int .i64 0,.int .i64 0,.int .i64 0,.int .i64 0]:=by kernel_rfl
theorem z66:LU 66=some [.slice none 0 0]:=by kernel_rfl
namespace Mp
theorem fZ:Xx [⟨0,1,0,0⟩,⟨3,0,0,0⟩]:=⟨by decide,fun o h=>by
 rcases List.mem_cons.1 h with rfl|h
 ·unfold Np;decide
 rw[List.mem_singleton.1 h];unfold Np;decide⟩
theorem HU{Mw:Bz}{W0 W1 W2:Wo}(hMw:Mw=QW.map)(hW0:W0=Wo.new QW.map [[⟨0,1,0,0⟩,⟨3,0,0,0⟩]])(hMo:Mw.Ok)(hpo:0≤Mw.parts∧Mw.parts≤100000)(hG0:W0.Go Mw 3 0)(hW1:uJ Mw 1 0 12 W0=W1)(hR:I5 Mw 1 (200*3) 0 W1=(W2,true))(hne:W2.Bl≠[])(hll:W2.Bl.length≤1000000)(hH:ZF W2.Bl=1):
  Cv C 5 [] l Cj (.bool true) l Cj:=by
 have hops:Xx [⟨0,1,0,0⟩,⟨3,0,0,0⟩]:=fZ;refine Ci 71 Tryz.func5 Z Aa fun w0 D0=>AZ 6 [0,112] Z<|cb Z Z Z UW o3 z22 Z<|Fp Z l24 z24 Z<|Fp Z l65 Bt Z<|Fp Z l65 Bt Z<|Qc Z XK Bt (by decide) Z Z Z CE fun b0=>Qc Z md z66 (by decide) Z Z Z CE fun b1=>NW (H1:=[]) (H2:=[_,_]) (B:=fun(_:Mo.Cx×Nat)=>[]) Z g7 Z (Τ (c:=QW) (Aq:=[⟨0,1,0,0⟩,⟨3,0,0,0⟩]) (oc:=2) (OD:=[]) Z Z (by simp) (Nat.le_refl _) hops) (fun _=>Bo BF) JH fun a2 ha2=>AY 8 [] Z ?_
 obtain⟨⟨ks,kg,kc,km,ga,gr,ca,cr,M⟩,p⟩:=a2;have hKM:M=QW.map:=ha2;obtain⟨K,hK⟩: ∃K:Mo.Cx,K=⟨ks,kg,kc,km,ga,gr,ca,cr,M⟩:=⟨_,rfl⟩;have hKm:K.M=Mw:=by rw[hK,hMw];exact hKM
 have hM:K.M.Ok:=by rw[hKm];exact hMo
 have hp:0≤K.M.parts∧K.M.parts≤100000:=by rw[hKm];exact hpo
 rw[←hKm] at hG0 hW1 hR;refine T.HH (H':=[]) (R':=wrap K W0.l (JZ K p W0)) (Bo BF) (Xy.of (Wk.of fun D w h=>by rw[hK,hW0];exact h)) ?_;have h40:=hG0.Φ;refine AZ 5 [] Z<|CB Z g9 (Zy (Ue h40)) (Bo BF)<|Du (c:=false) Z (by rw[hG0.tL];rfl)<|AY 9 [] Z<|T.block<|T.loop (fun(x:Nat×Wo) w=>((x.1≤12∧x.2.Go K.M 3 x.1)∧uJ K.M 1 0 (12-x.1) x.2=W1)∧Sy C w0 D0 l [] (wrap K x.2.l (JZ K p x.2)) w) (fun x=>[(3,.int .i64 ((x.1:Nat):Int)),(1,AX p)]) (fun x=>12-x.1) (0,W0) (fun w h=>⟨⟨⟨Nat.zero_le _,hG0⟩,hW1⟩,h⟩) ⟨Z,Z,trivial⟩ ?_;rintro⟨i,W3⟩ g;refine T.pure ?_;rintro⟨⟨hi,hG3⟩,ht1⟩;simp only at hi hG3 ht1;have h4:=hG3.Φ;have hact:=hG3.tL;have NP:=hG3.Bl;refine CW 6 [] Z<|T.cond Z ?_ ?_
 ·intro hb0;have kM:i<12:=by have:((i:Nat):Int)<12:=of_decide_eq_true hb0;omega
  have So:=hG3.step hM 1 0;have hr0:uJ K.M 1 0 (12-(i+1)) (W3.step K.M 1 0).1=W1:=by rw[←ht1,show 12-i=12-(i+1)+1 by omega];rfl
  have hst1:Cv C 8 [AX p,.agg #[.int .i64 ((1:Nat):Int),.int .i64 0]] l (wrap K W3.l (JZ K p W3)) (.agg (W3.step K.M 1 0).2.cells.toArray) l (wrap K (W3.step K.M 1 0).1.l (JZ K p (W3.step K.M 1 0).1)):=Zy (WA (C:=K) (W:=W3) (Di:=1) (dr:=0) (by omega) hM hp hG3.ok h4 (by omega));generalize(W3.step K.M 1 0).2.cells.toArray=E at hst1;generalize(W3.step K.M 1 0).1=W4 at So hr0 hst1;have hst:Cv C 8 [AX p,.agg #[.int .i64 1,.int .i64 0]] l (wrap K W3.l (JZ K p W3)) (.agg E) l (wrap K W4.l (JZ K p W4)):=hst1;exact CW 2 [] Z<|T.block<|AZ 2 [4] Z<|Fp Z tM Mx Z<|Ls Z g8 (hst) (Bo BF) Aw<|X.nil<|T.Bj<|AZ 2 [] Z<|BU (c:=((i+1:Nat):Int)) Z (by simp only[FC];rw[IntWalk.i64_in _ (by omega)];omega)<|AY 2 [] Z<|T.FT (i+1,W4) (by show 12-(i+1)<12-i;omega) (fun w h=>⟨⟨⟨by show i+1≤12;omega,So⟩,hr0⟩,h⟩) ⟨rfl,rfl,trivial⟩
 intro hb0;have kM:i=12:=by have: ¬((i:Nat):Int)<12:=of_decide_eq_false hb0;omega
 subst kM;obtain rfl:W3=W1:=ht1;have hG1:W3.Go K.M 3 12:=hG3;refine T.exit<|TE.FQ<|TE.DC<|AZ 3 [2] Z<|Ls Z g19 (Χ (C:=C) (l:=l) (K:=K) (n:=200) (A:=3) (L0:=12) (mV:=(W2,true)) hM hp hG1 (by decide) (by decide) (by decide) hR) (Bo BF) Aw<|AP 5 [2] Z<|NW (H1:=[]) (H2:=[]) (B:=fun(a:Nat×List Value×Nat)=>[⟨a.1,33,PY W2.Bl++a.2.1⟩]) Z g20 Z (Sh (Sf hne hll)) (fun _=>Bo BF) JH fun a3 JK=>AY 3 [] Z ?_
 obtain⟨nb,nr,nm⟩:=a3;refine CW 8 [] Z<|T.block<|T.loop (fun(x:Nat×Nat) w=>((x.1≤W2.Bl.length∧x.2≤x.1)∧x.2+ZF (W2.Bl.drop x.1)=1)∧Sy C w0 D0 l [⟨nb,33,PY W2.Bl++nr⟩] (wrap K W2.l (JZ K p W2)) w) (fun x=>[(7,.int .i64 ((x.1:Nat):Int)),(6,.int .i64 ((x.2:Nat):Int)),(5,Dc nb W2.Bl.length nm),(4,.bool true)]) (fun x=>W2.Bl.length-x.1) (0,0) (fun w h=>⟨⟨⟨Nat.zero_le _,Nat.zero_le _⟩,by show 0+ZF (W2.Bl.drop 0)=1;rw[List.drop_zero,hH]⟩,h⟩) ⟨Z,Z,Z,Z,trivial⟩ ?_;rintro⟨j,k⟩ g2;refine T.pure ?_;rintro⟨⟨hj,hkj⟩,hh⟩;simp only at hj hkj hh;refine CW 8 [] Z<|T.cond Z ?_ ?_
 ·intro hb1;have hjm:j<W2.Bl.length:=by have:((j:Nat):Int)<((W2.Bl.length:Nat):Int):=of_decide_eq_true hb1;omega
  refine CW 2 [] Z<|T.block<|T.seq ?_;rcases HS (W2.Bl.getD j BH) with h5|⟨h5,h6⟩|⟨h5,h6,h7⟩|⟨h5,h6,h7⟩
  ·skip;refine AZ 3 [] Z<|Jm Z Wl ⟨Int.natCast_nonneg _,Int.ofNat_lt.2 hjm⟩<|uG Z dw<|JY Z o3 .z (Vk hjm)<|Du (c:=false) Z (beq_eq_false_iff_ne.2 h5)<|AY 19 [] Z<|T.Bj<|AZ 2 [] Z<|BU (c:=((j+1:Nat):Int)) Z (by simp only[FC];rw[IntWalk.i64_in _ (by omega)];omega)<|AY 2 [] Z ?_;exact T.FT (j+1,k) (by show W2.Bl.length-(j+1)<W2.Bl.length-j;omega) (fun w h=>⟨⟨⟨by show j+1≤_;omega,by show k≤j+1;omega⟩,by show k+ZF (W2.Bl.drop (j+1))=1;rw[SK hjm,if_neg (fun g=>h5 g.1)] at hh;omega⟩,h⟩) ⟨rfl,rfl,rfl,rfl,trivial⟩
  ·skip;refine AZ 3 [] Z<|Jm Z Wl ⟨Int.natCast_nonneg _,Int.ofNat_lt.2 hjm⟩<|uG Z dw<|JY Z o3 .z (Vk hjm)<|Du (c:=true) Z (beq_iff_eq.2 h5)<|AP 3 [] Z<|Jm Z Wl ⟨Int.natCast_nonneg _,Int.ofNat_lt.2 hjm⟩<|uG Z HR<|JY Z o3 .z (HT hjm)<|Du (c:=false) Z (beq_eq_false_iff_ne.2 h6)<|AY 12 [] Z<|T.Bj<|AZ 2 [] Z<|BU (c:=((j+1:Nat):Int)) Z (by simp only[FC];rw[IntWalk.i64_in _ (by omega)];omega)<|AY 2 [] Z ?_;exact T.FT (j+1,k) (by show W2.Bl.length-(j+1)<W2.Bl.length-j;omega) (fun w h=>⟨⟨⟨by show j+1≤_;omega,by show k≤j+1;omega⟩,by show k+ZF (W2.Bl.drop (j+1))=1;rw[SK hjm,if_neg (fun g=>h6 g.2.1)] at hh;omega⟩,h⟩) ⟨rfl,rfl,rfl,rfl,trivial⟩
  ·skip;refine AZ 3 [] Z<|Jm Z Wl ⟨Int.natCast_nonneg _,Int.ofNat_lt.2 hjm⟩<|uG Z dw<|JY Z o3 .z (Vk hjm)<|Du (c:=true) Z (beq_iff_eq.2 h5)<|AP 3 [] Z<|Jm Z Wl ⟨Int.natCast_nonneg _,Int.ofNat_lt.2 hjm⟩<|uG Z HR<|JY Z o3 .z (HT hjm)<|Du (c:=true) Z (beq_iff_eq.2 h6)<|AP 4 [] Z<|Jm Z Wl ⟨Int.natCast_nonneg _,Int.ofNat_lt.2 hjm⟩<|uG Z Ys<|JY Z o3 .z (jc hjm)<|Du (c:=false) Z (beq_eq_false_iff_ne.2 h7)<|AY 4 [] Z<|T.Bj<|AZ 2 [] Z<|BU (c:=((j+1:Nat):Int)) Z (by simp only[FC];rw[IntWalk.i64_in _ (by omega)];omega)<|AY 2 [] Z ?_;exact T.FT (j+1,k) (by show W2.Bl.length-(j+1)<W2.Bl.length-j;omega) (fun w h=>⟨⟨⟨by show j+1≤_;omega,by show k≤j+1;omega⟩,by show k+ZF (W2.Bl.drop (j+1))=1;rw[SK hjm,if_neg (fun g=>h7 g.2.2)] at hh;omega⟩,h⟩) ⟨rfl,rfl,rfl,rfl,trivial⟩
  skip;refine AZ 3 [] Z<|Jm Z Wl ⟨Int.natCast_nonneg _,Int.ofNat_lt.2 hjm⟩<|uG Z dw<|JY Z o3 .z (Vk hjm)<|Du (c:=true) Z (beq_iff_eq.2 h5)<|AP 3 [] Z<|Jm Z Wl ⟨Int.natCast_nonneg _,Int.ofNat_lt.2 hjm⟩<|uG Z HR<|JY Z o3 .z (HT hjm)<|Du (c:=true) Z (beq_iff_eq.2 h6)<|AP 4 [] Z<|Jm Z Wl ⟨Int.natCast_nonneg _,Int.ofNat_lt.2 hjm⟩<|uG Z Ys<|JY Z o3 .z (jc hjm)<|Du (c:=true) Z (beq_iff_eq.2 h7)<|AP 5 [] Z<|BU (c:=((k+1:Nat):Int)) Z (by simp only[FC];rw[IntWalk.i64_in _ (by omega)];omega)<|AY 2 [] Z<|T.Bj<|AZ 2 [] Z<|BU (c:=((j+1:Nat):Int)) Z (by simp only[FC];rw[IntWalk.i64_in _ (by omega)];omega)<|AY 2 [] Z ?_;exact T.FT (j+1,k+1) (by show W2.Bl.length-(j+1)<W2.Bl.length-j;omega) (fun w h=>⟨⟨⟨by show j+1≤_;omega,by show k+1≤j+1;omega⟩,by show k+1+ZF (W2.Bl.drop (j+1))=1;rw[SK hjm,if_pos ⟨h5,h6,h7⟩] at hh;omega⟩,h⟩) ⟨rfl,rfl,rfl,rfl,trivial⟩
 intro hb1;have hjm:j=W2.Bl.length:=by have: ¬((j:Nat):Int)<((W2.Bl.length:Nat):Int):=of_decide_eq_false hb1;omega
 subst hjm;rw[List.drop_length] at hh;have hk1:k=1:=hh;refine T.exit<|TE.FQ<|TE.DC<|AZ 5 [] Z<|Du (c:=true) Z (show(((k:Nat):Int)==1)=true from beq_iff_eq.2 (by omega))<|AY 3 [] Z<|T.BC Z fun W_ D h=>?_
 obtain⟨D1,h1,h2⟩:=Wk.Cj _ D W_ h;exact⟨D1,⟨rfl,rfl,h1⟩,h2⟩
end Mp
theorem Mu.Ha(h:c.Ok){i:Int}{Aq:List I4}(ho: ∀o∈Aq,Np o):(Mu.new c.map i Aq).Ok c.map:=by
 have hn:=h.nodes;have hb:=h.CQ;have z:Bf 0:=by unfold Bf;omega
 refine Mu.U9 (Fj.VO h) ⟨fun v hv=>?_,by simp,fun o ho'=>ho o (List.mem_of_mem_take ho'),(by show Np Wd;unfold Np;decide),⟨z,z,z,z⟩,fun t ht=>by simp at ht,by show((0:Nat):Int)<c.CQ;omega⟩;obtain rfl:v=c.map.nodes:=by simpa using hv
 show EW c.nodes;unfold EW;omega
theorem Wo.Ha(h:c.Ok){ps:List (List I4)}(ho: ∀Aq∈ps,∀o∈Aq,Np o):(Wo.new c.map ps).Ok c.map:=by
 have hM:=Fj.VO h;refine⟨fQ h,fun m hm=>?_,fun m hm=>?_,De.Ha⟩
 ·obtain⟨i,hi,rfl⟩:=List.mem_map.1 hm;have:=List.mem_range.1 hi;exact Mk.Ha hM ⟨by omega,by omega⟩
 obtain⟨i,hi,rfl⟩:=List.mem_map.1 hm;refine Mu.Ha h fun o hoo=>?_
 rw[List.getD_eq_getElem?_getD] at hoo;cases hg:ps[i]? with
 |none=>simp[hg] at hoo
 |some Aq=>exact ho Aq (List.mem_of_getElem? hg) o (by simpa[hg] using hoo)
theorem Wo.HW(h:c.Ok){ps:List (List I4)}(ho: ∀Aq∈ps,∀o∈Aq,Np o):(Wo.new c.map ps).Go c.map (c.Ai.toNat+c.Ak.toNat+1) 0:=by
 have h1:=h.Ai;have h2:=h.Ak;have e1:(Wo.new c.map ps).Ai.length=c.Ai.toNat:=by
  show((List.range c.Ai.toNat).map _).length=_;simp
 have e2:(Wo.new c.map ps).Ak.length=c.Ak.toNat:=by
  show((List.range c.Ak.toNat).map _).length=_;simp
 exact⟨Wo.Ha h ho,by omega,by unfold Wo.FX;omega,Nat.le_refl _⟩
def Uf:Wo×Bool:=I5 Ou 1 600 0 (uJ Ou 1 0 12 Yn)
theorem xB:Uf.2=true∧Uf.1.Bl≠[]∧Uf.1.Bl.length≤1000000∧Mp.ZF Uf.1.Bl=1:=by decide+kernel
namespace Mp
theorem Ω:Cv C 5 [] l Cj (.bool true) l Cj:=by
 have hc:QW.Ok:=Fj.Ok.of rfl;obtain⟨h1,h2,h3,h4⟩:=xB;have hops:=Mp.fZ.2;have hgo:Yn.Go Ou 3 0:=Wo.HW hc (ps:=[[⟨0,1,0,0⟩,⟨3,0,0,0⟩]]) (fun Aq h=>by
  rw[List.mem_singleton] at h;subst h;exact hops)
 have hp:0≤Ou.parts∧Ou.parts≤100000:=by decide+kernel
 have hM:Ou.Ok:=Fj.VO hc;have hR:I5 Ou 1 600 0 (uJ Ou 1 0 12 Yn)=Uf:=by unfold Uf;rfl
 have e1:Ou=QW.map:=rfl;have e2:Yn=Wo.new QW.map [[⟨0,1,0,0⟩,⟨3,0,0,0⟩]]:=rfl;generalize Uf=r at h1 h2 h3 h4 hR;obtain⟨W2,b⟩:=r;obtain rfl:b=true:=h1;generalize Ou=Mw at*
 generalize Yn=W0 at*
 generalize hW1:uJ Mw 1 0 12 W0=W1 at hR;exact HU e1 e2 hM hp hgo hW1 hR h2 h3 h4
def p2:Nat→Int
 |0=>1
 |n+1=>p2 n*2
theorem n8: ∀{i:Nat},i≤4→1≤p2 i∧p2 i≤16
 |0,_=>by decide
 |1,_=>by decide
 |2,_=>by decide
 |3,_=>by decide
 |4,_=>by decide
 |n+5,h=>by omega
theorem HX: ∀{i:Nat},i≤4→p2 i=FM i
 |0,_=>by decide
 |1,_=>by decide
 |2,_=>by decide
 |3,_=>by decide
 |4,_=>by decide
 |n+5,h=>by omega
def cN(c:Fj)(k:Nat):Int:=[c.k0,c.k1,c.k2,c.k3,c.k4].getD k 0
theorem HZ(h:c.Sm){k:Nat}(hk:k<5):0≤cN c k∧cN c k≤12:=by
 obtain⟨h0,h1,h2,h3,h4⟩:=h;rcases(show k=0∨k=1∨k=2∨k=3∨k=4 by omega) with rfl|rfl|rfl|rfl|rfl
 ·exact h0
 ·exact h1
 ·exact h2
 ·exact h3
 exact h4
def NQ(c:Fj):Nat→List Int
 |0=>[]
 |k+1=>NQ c k++List.replicate (cN c k).toNat (k:Int)
theorem rD{c:Fj}(h:c.Sm): ∀{k:Nat},k≤5→(NQ c k).length≤12*k
 |0,_=>by simp[NQ]
 |k+1,hk=>by
  have:=rD h (k:=k) (by omega);have:=HZ h (k:=k) (by omega);simp only[NQ,List.length_append,List.length_replicate];omega
theorem If{k:Nat}(hk:k<5):Qb [.int .i64 c.k0,.int .i64 c.k1,.int .i64 c.k2,.int .i64 c.k3,.int .i64 c.k4] (0+((k:Nat):Int).toNat)=some (.int .i64 (cN c k)):=by
 rcases(show k=0∨k=1∨k=2∨k=3∨k=4 by omega) with rfl|rfl|rfl|rfl|rfl<;>rfl
theorem rE{c:Fj}{v:Int}: ∀{k:Nat},v∈NQ c k→0≤v∧v<k
 |0,h=>by simp[NQ] at h
 |k+1,h=>by
  unfold NQ at h;rcases List.mem_append.1 h with h|h
  ·have:=rE h;omega
  have:=(List.mem_replicate.1 h).2;omega
def Qd(c:Fj):List Int:=NQ c 5
theorem kN(h:c.Ok):((Qd c).length:Int)=c.nodes:=by
 obtain⟨h0,h1,h2,h3,h4⟩:=h.sm;unfold Qd;simp only[NQ,List.length_append,List.length_replicate,List.length_nil];unfold Fj.nodes;show(((0+c.k0.toNat+c.k1.toNat+c.k2.toNat+c.k3.toNat+c.k4.toNat:Nat)):Int)=_;omega
theorem Ro{v:Int}{l:List Int}:(List.replicate n v++l)[i]?=if i<n then some v else l[i-n]?:=by
 by_cases h:i<n
 ·rw[if_pos h,List.getElem?_append_left (by simpa using h),List.getElem?_replicate,if_pos h]
 rw[if_neg h,List.getElem?_append_right (by simpa using h)];simp
theorem Sp(h:c.Ok)(hi:(i:Int)<c.nodes):(Qd c)[i]?=some (c.E5 ((i:Int)+1)):=by
 obtain⟨h0,h1,h2,h3,h4⟩:=h.sm;unfold Fj.nodes at hi;have e:Qd c=List.replicate c.k0.toNat 0++(List.replicate c.k1.toNat 1++(List.replicate c.k2.toNat 2++(List.replicate c.k3.toNat 3++(List.replicate c.k4.toNat 4++[])))):=by
  unfold Qd;simp only[NQ,List.nil_append,List.append_assoc,List.append_nil];rfl
 rw[e,Ro,Ro,Ro,Ro,Ro];unfold Fj.E5;rw[if_neg (show¬((i:Int)+1<1) by omega)];by_cases a:(i:Int)+1≤c.k0
 ·rw[if_pos (show i<c.k0.toNat by omega),if_pos a]
 rw[if_neg (show¬i<c.k0.toNat by omega),if_neg a];by_cases b:(i:Int)+1-c.k0≤c.k1
 ·rw[if_pos (show i-c.k0.toNat<c.k1.toNat by omega),if_pos b]
 rw[if_neg (show¬i-c.k0.toNat<c.k1.toNat by omega),if_neg b];by_cases d:(i:Int)+1-c.k0-c.k1≤c.k2
 ·rw[if_pos (show i-c.k0.toNat-c.k1.toNat<c.k2.toNat by omega),if_pos d]
 rw[if_neg (show¬i-c.k0.toNat-c.k1.toNat<c.k2.toNat by omega),if_neg d];by_cases f:(i:Int)+1-c.k0-c.k1-c.k2≤c.k3
 ·rw[if_pos (show i-c.k0.toNat-c.k1.toNat-c.k2.toNat<c.k3.toNat by omega),if_pos f]
 rw[if_neg (show¬i-c.k0.toNat-c.k1.toNat-c.k2.toNat<c.k3.toNat by omega),if_neg f,if_pos (show i-c.k0.toNat-c.k1.toNat-c.k2.toNat-c.k3.toNat<c.k4.toNat by omega),if_pos (show(i:Int)+1-c.k0-c.k1-c.k2-c.k3≤c.k4 by omega)]
theorem Im(h:c.Ok):c.BM=(Qd c).map FM:=by
 have hl:=kN h;have hn:=h.nodes;refine List.ext_getElem? fun i=>?_
 unfold Fj.BM;rw[List.getElem?_map,List.getElem?_map];by_cases hi:(i:Int)<c.nodes
 ·rw[Sp h hi,List.getElem?_range (by omega)];rfl
 rw[List.getElem?_eq_none (by simp;omega),List.getElem?_eq_none (by omega)];rfl
theorem Sq(h:c.Ok)(hi:i<(Qd c).length):0≤(Qd c).getD i 0∧(Qd c).getD i 0≤4:=by
 have:(Qd c).getD i 0∈Qd c:=by
  rw[List.getD_eq_getElem?_getD,List.getElem?_eq_getElem hi];exact List.getElem_mem hi
 have:=rE this;omega
theorem δ{L:List Int}{f:Int→Int}(hi:i<L.length):Dl ((L.take i).map f)++Dl [f (L.getD i 0)]=Dl ((L.take (i+1)).map f):=by
 rw[List.take_add_one,List.getElem?_eq_getElem hi,List.getD_eq_getElem?_getD,List.getElem?_eq_getElem hi];unfold Dl;rw[List.map_append,List.map_append];rfl
end Mp
namespace Mp
theorem rF{k:Nat}(hk:k≤4):Cv C 73 [.int .i64 ((k:Nat):Int)] l Cj (.int .i64 (FM ((k:Nat):Int))) l Cj:=by
 refine Ci 19 Tryz.func73 Z Aa fun w0 D0=>AZ 8 [] Z<|Du (c:=false) Z (decide_eq_false (show¬((k:Nat):Int)<0 by omega))<|AP 2 [] Z<|Du (c:=false) Z (decide_eq_false (show¬((k:Nat):Int)>4 by omega))<|Hz Z<|AY 12 [] Z<|T.block<|T.loop (fun(x:Nat) w=>x≤k∧Sy C w0 D0 l [] Cj w) (fun x=>[(0,.int .i64 ((k:Nat):Int)),(4,.int .i64 ((x:Nat):Int)),(3,.int .i64 (p2 x))]) (fun x=>k-x) 0 (fun w h=>⟨Nat.zero_le _,h⟩) ⟨Z,Z,Z,trivial⟩ ?_
 intro i g;refine T.pure ?_;intro hi;refine CW 7 [] Z<|T.cond Z ?_ ?_
 ·intro hb0;have hik:i<k:=by have:((i:Nat):Int)<((k:Nat):Int):=of_decide_eq_true hb0;omega
  exact CW 2 [] Z<|T.block<|AZ 2 [] Z<|BU (c:=p2 (i+1)) Z (by have:=n8 (i:=i) (by omega);simp only[FC];rw[IntWalk.i64_in _ (by omega)];rfl)<|AY 2 [] Z<|T.Bj<|AZ 2 [] Z<|BU (c:=((i+1:Nat):Int)) Z (by simp only[FC];rw[IntWalk.i64_in _ (by omega)];omega)<|AY 2 [] Z<|T.FT (i+1) (by show k-(i+1)<k-i;omega) (fun w h=>⟨by show i+1≤k;omega,h⟩) ⟨rfl,rfl,rfl,trivial⟩
 intro hb0;obtain rfl:i=k:=by have: ¬((i:Nat):Int)<((k:Nat):Int):=of_decide_eq_false hb0;omega
 refine T.exit<|TE.FQ<|TE.DC<|CW 5 [] Z<|T.BC Z fun W D h=>?_
 rw[←HX hk];exact⟨D,⟨rfl,rfl,h⟩,fun _ hk=>hk⟩
theorem ζ(hs:c.Sm):Ce (α:=Value×List Bk) C 72 [.agg #[.int .i64 c.k0,.int .i64 c.k1,.int .i64 c.k2,.int .i64 c.k3,.int .i64 c.k4]] l Cj (fun a=>a.1) l (fun a=>Ht 3 1 a.1 (NQ c 5).length (Dl (NQ c 5)) a.2) (fun a=>Az a.2 Cj):=by
 refine Ci 26 Tryz.func72 Z Aa fun w0 D0=>AZ 2 [1] Z<|F7 Z CE fun b0=>AY 11 [] Z<|T.block<|T.loop (fun(x:Nat×Value×List Bk) w=>(x.1≤5∧Ht 3 1 x.2.1 (NQ c x.1).length (Dl (NQ c x.1)) x.2.2)∧Sy C w0 D0 l (⟨b0,22,[.int .i64 c.k0,.int .i64 c.k1,.int .i64 c.k2,.int .i64 c.k3,.int .i64 c.k4]⟩::x.2.2) Cj w) (fun x=>[(4,.int .i64 ((x.1:Nat):Int)),(3,x.2.1),(1,AX b0)]) (fun x=>5-x.1) (0,.slice none 0 0,[]) (fun w h=>⟨⟨Nat.zero_le _,Ht.nil⟩,h⟩) ⟨Z,Z,Z,trivial⟩ ?_
 rintro⟨k,v,B⟩ g;refine T.pure ?_;rintro⟨hk,hR⟩;simp only at hk hR;refine CW 6 [] Z<|T.cond Z ?_ ?_
 ·intro hb0;have hk5:k<5:=by have:((k:Nat):Int)<5:=of_decide_eq_true hb0;omega
  have hc:=HZ hs hk5;have hcl:=rD hs (k:=k) (by omega);refine CW 2 [] Z<|T.block<|CW 4 [] Z<|T.block<|T.loop (fun(x:Nat×Value×List Bk) w=>((x.1:Int)≤cN c k∧Ht 3 1 x.2.1 ((NQ c k).length+x.1) (Dl (NQ c k++List.replicate x.1 (k:Int))) x.2.2)∧Sy C w0 D0 l (⟨b0,22,[.int .i64 c.k0,.int .i64 c.k1,.int .i64 c.k2,.int .i64 c.k3,.int .i64 c.k4]⟩::x.2.2) Cj w) (fun x=>[(5,.int .i64 ((x.1:Nat):Int)),(4,.int .i64 ((k:Nat):Int)),(3,x.2.1),(1,AX b0)]) (fun x=>(cN c k).toNat-x.1) (0,v,B) (fun w h=>⟨⟨hc.1,by show Ht 3 1 v ((NQ c k).length+0) (Dl (NQ c k++[])) B;rw[List.append_nil];exact hR⟩,h⟩) ⟨Z,Z,Z,Z,trivial⟩ ?_;rintro⟨i,u,B2⟩ g2;refine T.pure ?_;rintro⟨hi,hS⟩;simp only at hi hS;refine CW 2 [] Z ?_;by_cases hq:((i:Nat):Int)<cN c k
  ·skip;exact AZ 3 [] Z<|OU Z UW o3 (show 0≤((k:Nat):Int)∧((k:Nat):Int)<((5:Nat):Int) by omega)<|JY (v:= .int .i64 (cN c k)) Z o3 .z (If hk5)<|Du (c:=true) Z (decide_eq_true hq)<|AP 2 [] Z<|Du (c:=true) Z (decide_eq_true (show((i:Nat):Int)<12 by omega))<|Hz Z<|AY 4 [] Z<|T.block<|AZ 3 [12] Z<|Qc Z JV z3 (by decide) Z Z Z CE fun b1=>MG (n:=1) (news:=[.int .i64 ((k:Nat):Int)]) (Ff:=[]) (Hr:=[_,_]) (cn:=Dl (NQ c k++List.replicate (i+1) (k:Int))) (kn:=(NQ c k).length+(i+1)) hS Z Z Z JV Z .z Z (by simp[BL]) ⟨by omega,by omega,by omega,by omega⟩ (by simp[Dl,List.replicate_succ']) Z CE fun v' B' hS'=>AY 2 [] Z<|T.Bj<|AZ 2 [] Z<|BU (c:=((i+1:Nat):Int)) Z (by simp only[FC];rw[IntWalk.i64_in _ (by omega)];omega)<|AY 2 [] Z<|T.FT (i+1,v',B') (by show(cN c k).toNat-(i+1)<(cN c k).toNat-i;omega) (fun w h=>⟨⟨by show((i+1:Nat):Int)≤cN c k;omega,hS'⟩,h.Jc Aa Wk.tail⟩) ⟨rfl,rfl,rfl,rfl,trivial⟩
  skip;refine AZ 3 [] Z<|OU Z UW o3 (show 0≤((k:Nat):Int)∧((k:Nat):Int)<((5:Nat):Int) by omega)<|JY (v:= .int .i64 (cN c k)) Z o3 .z (If hk5)<|Du (c:=false) Z (decide_eq_false hq)<|AP 3 [] Z<|Hz Z<|AY 2 [] Z<|T.exit<|TE.FQ<|TE.DC<|T.Bj<|AZ 2 [] Z<|BU (c:=((k+1:Nat):Int)) Z (by simp only[FC];rw[IntWalk.i64_in _ (by omega)];omega)<|AY 2 [] Z ?_;exact T.FT (k+1,u,B2) (by show 5-(k+1)<5-k;omega) (fun w h=>⟨⟨by show k+1≤5;omega,by show Ht 3 1 u (NQ c (k+1)).length (Dl (NQ c (k+1))) B2;rw[show NQ c (k+1)=NQ c k++List.replicate i (k:Int) from by rw[NQ,show(cN c k).toNat=i by omega]];rw[List.length_append,List.length_replicate];exact hS⟩,h⟩) ⟨rfl,rfl,rfl,trivial⟩
 intro hb0;obtain rfl:k=5:=by have: ¬((k:Nat):Int)<5:=of_decide_eq_false hb0;omega
 refine T.exit<|TE.FQ<|TE.DC<|CW 5 [] Z<|T.BC Z fun W D h=>?_
 obtain⟨D1,h1,h2⟩:=A8 h;exact⟨D1,⟨(v,B),rfl,hR,rfl,h1⟩,h2⟩
end Mp
theorem g72:Cm 72=true:=by kernel_rfl
theorem g73:Cm 73=true:=by kernel_rfl
theorem l60:Jv 60 [(0,5),(5,1),(6,1),(7,1),(8,1),(9,1),(10,1),(11,1)]=true:=by kernel_rfl
theorem m60:Bq 60 12=true:=by kernel_rfl
theorem z60:LU 60=some [.int .i64 0,.int .i64 0,.int .i64 0,.int .i64 0,.int .i64 0,.int .i64 0,.int .i64 0,.int .i64 0,.int .i64 0,.int .i64 0,.int .i64 0,.int .i64 0]:=by kernel_rfl
namespace Mp
theorem kP{v:Int}(hv:0≤v∧v≤4):Cv C 73 [.int .i64 v] l Cj (.int .i64 (FM v)) l Cj:=by
 obtain⟨k,rfl⟩: ∃k:Nat,v=k:=⟨v.toNat,by omega⟩;exact rF (by omega)
theorem Is(hc:c.Ok):Ce (α:=Value×List Bk) C 40 [.agg c.cells.toArray] l Cj (fun a=>a.1) l (fun a=>Ht 3 1 a.1 (Qd c).length (Dl c.BM) a.2) (fun a=>Az a.2 Cj):=by
 refine Ci 24 Tryz.func40 Z Aa fun w0 D0=>AZ 2 [1] Z<|F7 Z CE fun b0=>AP 10 [0,4] Z<|NW (H1:=[_]) (H2:=[]) (B:=fun(a:Value×List Bk)=>a.2) Z g72 Z (ζ hc.sm) (fun _=>Aa) JH fun a1 ha1=>AY 4 [] Z ?_
 obtain⟨av,AB⟩:=a1;have hlen:=kN hc;have hn:=hc.nodes;obtain⟨ab,ar,am,rfl,-,-,-,-,rfl⟩:=(show Ht 3 1 av (Qd c).length (Dl (Qd c)) AB from ha1).resolve_left (fun h=>by have:=h.2.1;omega);refine CW 3 [] Z<|T.block<|T.loop (fun(x:Nat×Value×List Bk) w=>(x.1≤(Qd c).length∧Ht 3 1 x.2.1 x.1 (Dl (((Qd c).take x.1).map FM)) x.2.2)∧Sy C w0 D0 l (⟨b0,60,c.cells⟩::⟨ab,3,Dl (Qd c)++ar⟩::x.2.2) Cj w) (fun x=>[(5,.int .i64 ((x.1:Nat):Int)),(4,Dc ab (Qd c).length am),(3,x.2.1)]) (fun x=>(Qd c).length-x.1) (0,.slice none 0 0,[]) (fun w h=>⟨⟨Nat.zero_le _,Ht.nil⟩,h⟩) ⟨Z,Z,Z,trivial⟩ ?_;rintro⟨i,v,B⟩ g;refine T.pure ?_;rintro⟨hi,hR⟩;simp only at hi hR;refine CW 8 [] Z<|T.cond Z ?_ ?_
 ·intro hb0;have hil:i<(Qd c).length:=by have:((i:Nat):Int)<(((Qd c).length:Nat):Int):=of_decide_eq_true hb0;omega
  exact CW 2 [] Z<|T.block<|AZ 4 [192] Z<|Jm Z JV ⟨Int.natCast_nonneg _,Int.ofNat_lt.2 hil⟩<|JY Z o3 (.s .z) (EL hil)<|CB Z g73 (kP (Sq hc hil)) Aa<|Qc Z JV z3 (by decide) Z Z Z CE fun b2=>MG (n:=1) (news:=Dl [FM ((Qd c).getD i 0)]) (Ff:=[]) (Hr:=[_,_,_]) (cn:=Dl (((Qd c).take (i+1)).map FM)) (kn:=i+1) hR Z Z Z JV Z .z Z (by simp[BL,Dl]) ⟨by omega,by omega,by omega,by omega⟩ (δ hil) Z CE fun v' B' hR'=>AY 2 [] Z<|T.Bj<|AZ 2 [] Z<|BU (c:=((i+1:Nat):Int)) Z (by simp only[FC];rw[IntWalk.i64_in _ (by omega)];omega)<|AY 2 [] Z<|T.FT (i+1,v',B') (by show(Qd c).length-(i+1)<(Qd c).length-i;omega) (fun w h=>⟨⟨by show i+1≤(Qd c).length;omega,hR'⟩,h.Jc Aa Wk.tail⟩) ⟨rfl,rfl,rfl,trivial⟩
 intro hb0;obtain rfl:i=(Qd c).length:=by have: ¬((i:Nat):Int)<(((Qd c).length:Nat):Int):=of_decide_eq_false hb0;omega
 refine T.exit<|TE.FQ<|TE.DC<|CW 5 [] Z<|T.BC Z fun W D h=>?_
 rw[List.take_length,←Im hc] at hR;obtain⟨D1,h1,h2⟩:=(Wk.tail.trans Wk.tail) D W h;exact⟨D1,⟨(v,B),rfl,hR,rfl,h1⟩,h2⟩
theorem rG:Cv C 17 [.agg c.cells.toArray] l Cj (.agg c.cells.toArray) l Cj:=by
 refine Ci 20 Tryz.func17 Z Aa fun w0 D0=>AZ 2 [3] Z<|F7 Z CE fun b0=>Hg Z z60 CE fun b1=>AP 19 [131072,1,1,1,1,1,1,1,1] Z<|Fp Z l60 z60 Z<|AY 2 [] Z<|T.Io Z Z m60 .z Z fun W D h=>?_
 obtain⟨D1,h1,h2⟩:=Wk.Cj _ D W h;exact⟨D1,⟨rfl,rfl,h1⟩,h2⟩
theorem WB{rs:List Value}{a:Nat}(h:a<vs.length):Qb (vs++rs) (0+((a:Nat):Int).toNat*1)=some (vs.getD a (.int .i64 0)):=by
 rw[FO,show 0+((a:Nat):Int).toNat*1=a by omega,List.getElem?_append_left h,List.getD_eq_getElem?_getD,List.getElem?_eq_getElem h];rfl
theorem kQ{rs:List Value}{a:Nat}{x:Value}(h:a<vs.length):NL (vs++rs) (0+((a:Nat):Int).toNat*1) x=vs.set a x++rs:=by
 rw[OX,show 0+((a:Nat):Int).toNat*1=a by omega,List.set_append_left _ _ h]
end Mp
theorem WC:Ip 54 41 1=true:=by kernel_rfl
namespace Mp
theorem SL{c a:Nat}{rest:List Value}{x:Value}(ha:a<vs.length)(hn:vs.length≤1000000)(hcell: ∀v∈vs,BL v=true)(hx:BL x=true):
  Ce (α:=Nat×List Value×Nat) C 78 [Dc b vs.length c,.int .i64 ((a:Nat):Int),x] l (Az [⟨b,41,vs++rest⟩] Cj) (fun q=>Dc q.1 vs.length q.2.2) l (fun q=>vs.length≤q.2.2∧q.2.2≤maxLen∧vs.length+q.2.1.length=q.2.2) (fun q=>Az [⟨q.1,41,vs.set a x++q.2.1⟩,⟨b,41,vs++rest⟩] Cj):=by
 refine Ci 16 Tryz.func78 Z (Ac Aa _) fun w0 D0=>Gu Aa<|AZ 12 [0,0,4] Z<|MG (n:=1) (news:=vs) (Ff:=rest) (Hr:=[_]) (cn:=vs) (kn:=vs.length) (Ht.nil:Ht 41 1 (.slice none 0 0) 0 [] []) Z Z Z WC Z .z (by omega) hcell ⟨by omega,by omega,by omega,by omega⟩ Z (by omega) CE fun v' B' hR'=>?_
 obtain⟨q,rs,m,rfl,hm1,hm2,hm3,-,rfl⟩:=hR'.resolve_left (fun h=>by have:=h.2.1;omega);refine AP 7 [16] Z<|Jm Z WC ⟨Int.natCast_nonneg _,Int.ofNat_lt.2 ha⟩<|KQ Z XL hx (.s .z) (WB ha) (.s .z) Aw ?_;rw[kQ ha];refine AY 6 [] Z<|T.BC Z fun W D h=>?_
 obtain⟨D1,h1,h2⟩:=D6 [1,0] (by decide) h;exact⟨D1,⟨(q,rs,m),rfl,⟨hm1,hm2,by show vs.length+rs.length=m;omega⟩,rfl,h1⟩,h2⟩
theorem η{c a:Nat}{rest:List Value}{x:Value}(ha:a<vs.length)(hn:vs.length≤1000000)(hcell: ∀v∈vs,BL v=true)(hx:BL x=true):
  Ce (α:=Nat×List Value×Nat) C 42 [Dc b vs.length c,.int .i64 ((a:Nat):Int),x] l (Az [⟨b,3,vs++rest⟩] Cj) (fun q=>Dc q.1 vs.length q.2.2) l (fun q=>vs.length≤q.2.2∧q.2.2≤maxLen∧vs.length+q.2.1.length=q.2.2) (fun q=>Az [⟨q.1,3,vs.set a x++q.2.1⟩,⟨b,3,vs++rest⟩] Cj):=by
 refine Ci 16 Tryz.func42 Z (Ac Aa _) fun w0 D0=>Gu Aa<|AZ 12 [0,0,4] Z<|MG (n:=1) (news:=vs) (Ff:=rest) (Hr:=[_]) (cn:=vs) (kn:=vs.length) (Ht.nil:Ht 3 1 (.slice none 0 0) 0 [] []) Z Z Z JV Z .z (by omega) hcell ⟨by omega,by omega,by omega,by omega⟩ Z (by omega) CE fun v' B' hR'=>?_
 obtain⟨q,rs,m,rfl,hm1,hm2,hm3,-,rfl⟩:=hR'.resolve_left (fun h=>by have:=h.2.1;omega);refine AP 7 [16] Z<|Jm Z JV ⟨Int.natCast_nonneg _,Int.ofNat_lt.2 ha⟩<|KQ Z o3 hx (.s .z) (WB ha) (.s .z) Aw ?_;rw[kQ ha];refine AY 6 [] Z<|T.BC Z fun W D h=>?_
 obtain⟨D1,h1,h2⟩:=D6 [1,0] (by decide) h;exact⟨D1,⟨(q,rs,m),rfl,⟨hm1,hm2,by show vs.length+rs.length=m;omega⟩,rfl,h1⟩,h2⟩
end Mp
namespace Iv
variable{a v j b n w:Int}{e:Ev}{f:Nat→Nat}{k:Nat}{t:yV}{H H':List Int}{y:Mk}{F:Nat→List Int}{D:De}
open Go.Proofs.YtmpcfamcbaineaaGreat.Mo
structure Gr where
 Af:List (List Int)
 nodes:List (List Int)
 D5:Int
def Gr.is(g:Gr)(m:Int):Prop:=0≤m∧m<g.Af.length
instance (g:Gr) (m:Int):Decidable (g.is m):=inferInstanceAs (Decidable (_∧_))
def Gr.rs(g:Gr)(m:Int):List Int:=g.Af.getD m.toNat []
def Gr.A7(g:Gr)(v:Int):List Int:=g.nodes.getD (v-1).toNat []
def Gr.BM(g:Gr)(m:Int):Prop:=g.is m∧((g.rs m).length:Int)<g.D5
instance (g:Gr) (m:Int):Decidable (g.BM m):=inferInstanceAs (Decidable (_∧_))
def Gr.root(g:Gr)(m a:Int):Int:=if g.is m∧0≤a∧a<(g.rs m).length then(g.rs m).getD a.toNat 0 else -1
def Gr.has(g:Gr)(m a i:Int):Prop:=0<g.root m a∧0≤i∧i<(g.A7 (g.root m a)).length
instance (g:Gr) (m a i:Int):Decidable (g.has m a i):=inferInstanceAs (Decidable (_∧_))
def Gr.push(g:Gr)(m v:Int):Gr:={g with Af:=g.Af.set m.toNat (g.rs m++[v])}
def Gr.alloc(g:Gr)(m n:Int):Gr×Int×Bool:=
 if¬g.BM m∨n<0∨n>64 then(g,0,false)
 else(Gr.push {g with nodes:=g.nodes++[List.replicate n.toNat 0]} m (g.nodes.length+1),g.nodes.length+1,true)
def Gr.G5(g:Gr)(m a i:Int):Gr×Int×Bool:=
 if¬(g.BM m∧g.has m a i) then(g,0,false)
 else(g.push m ((g.A7 (g.root m a)).getD i.toNat 0),(g.A7 (g.root m a)).getD i.toNat 0,true)
def Gr.Es(g:Gr)(m a i b:Int):Gr×Bool:=
 if¬g.has m a i∨g.root m b<0 then(g,false)
 else({g with nodes:=g.nodes.set (g.root m a-1).toNat ((g.A7 (g.root m a)).set i.toNat (g.root m b))},true)
def Gr.Kq(g:Gr)(m:Int):Gr×Bool:=
 if¬g.is m∨(g.rs m).length=0 then(g,false) else({g with Af:=g.Af.set m.toNat (g.rs m).dropLast},true)
def Gr.NU(g:Gr)(m a:Int):Gr×Bool:=if¬g.BM m∨g.root m a<0 then(g,false) else(g.push m (g.root m a),true)
structure Pr where
 g:Gr
 at_:List Int
 ok:Bool
def Pr.P6(p:Pr)(a:Int):Nat:=(max (min a (p.at_.length-1)) 0).toNat
def Pr.take(p:Pr)(Ai:Int)(e:Ev):Pr:=
 if e.kind=5 then(if e.a<1∨e.a≥p.at_.length then{p with ok:=false} else{p with at_:=p.at_.set e.a.toNat 0})
 else if e.kind=8 then
  if p.ok=true∧(p.g.alloc (e.Di-Ai) e.b).2.2=true∧e.a≥1∧e.a<p.at_.length∧p.at_.getD (p.P6 e.a) 0=0 then
   ⟨(p.g.alloc (e.Di-Ai) e.b).1,p.at_.set e.a.toNat (p.g.alloc (e.Di-Ai) e.b).2.1,true⟩
  else{p with ok:=false}
 else if e.kind=9 then
  ⟨(p.g.G5 (e.Di-Ai) e.a e.b).1,p.at_,p.ok&&(p.g.G5 (e.Di-Ai) e.a e.b).2.2&&decide (e.c≥0∧e.c<p.at_.length∧p.at_.getD (p.P6 e.c) 0=(p.g.G5 (e.Di-Ai) e.a e.b).2.1)⟩
 else if e.kind=10 then⟨(p.g.Es (e.Di-Ai) e.a e.b e.c).1,p.at_,p.ok&&(p.g.Es (e.Di-Ai) e.a e.b e.c).2⟩
 else if e.kind=11 then⟨(p.g.Kq (e.Di-Ai)).1,p.at_,p.ok&&(p.g.Kq (e.Di-Ai)).2⟩
 else if e.kind=12 then⟨(p.g.NU (e.Di-Ai) e.a).1,p.at_,p.ok&&(p.g.NU (e.Di-Ai) e.a).2⟩
 else p
end Iv
namespace Mp
open Iv
structure GA where
 rb:Nat
 rm:Nat
 FU:List Value
 r0:Value
 RB:List Bk
 nb:Nat
 nm:Nat
 Ib:List Value
 vs:List Value
 NB:List (List Bk)
def Ul:List Value→List (List Int)→List (List Bk)→Prop
 |[],[],[]=>True
 |v::vs,x::xs,b::bs=>Ht 3 1 v x.length (Dl x) b∧Ul vs xs bs
 |_,_,_=>False
theorem Ul.len: ∀{vs:List Value} {xs:List (List Int)} {bs:List (List Bk)},Ul vs xs bs→vs.length=xs.length∧bs.length=xs.length
 |[],[],[],_=>⟨rfl,rfl⟩
 |v::vs,x::xs,b::bs,h=>by
  have:=Ul.len h.2;simp only[List.length_cons];omega
theorem Ht.TG{k:Nat}{cs:List Value}(h:Ht et n v k cs B):BL v=true:=by
 obtain⟨p,m,rfl⟩:=h.len;rfl
theorem Ul.cell: ∀{vs:List Value} {xs:List (List Int)} {bs:List (List Bk)},Ul vs xs bs→ ∀v∈vs,BL v=true
 |[],[],[],_,v,hv=>by simp at hv
 |v::vs,x::xs,b::bs,h,u,hu=>by
  rcases List.mem_cons.1 hu with rfl|hu
  ·exact Ht.TG h.1
  exact Ul.cell h.2 u hu
theorem Ul.at_: ∀{vs:List Value} {xs:List (List Int)} {bs:List (List Bk)} {j:Nat},Ul vs xs bs→j<xs.length→Ht 3 1 (vs.getD j (.int .i64 0)) (xs.getD j []).length (Dl (xs.getD j [])) (bs.getD j [])
 |v::vs,x::xs,b::bs,0,h,_=>h.1
 |v::vs,x::xs,b::bs,j+1,h,hj=>by
  have:=Ul.at_ (j:=j) h.2 (by simpa using hj);simpa using this
 |[],[],_,_,_,hj=>by simp at hj
 |[],_::_,_,_,h,_=>h.elim
 |_::_,[],_,_,_,hj=>by simp at hj
 |_::_,_::_,[],_,h,_=>h.elim
theorem Ul.set_: ∀{vs:List Value} {xs:List (List Int)} {bs:List (List Bk)} {j:Nat} {v:Value} {x:List Int} {b:List Bk},Ul vs xs bs→Ht 3 1 v x.length (Dl x) b→Ul (vs.set j v) (xs.set j x) (bs.set j b)
 |[],[],[],_,_,_,_,_,_=>trivial
 |v::vs,x::xs,b::bs,0,_,_,_,h,g=>⟨g,h.2⟩
 |v::vs,x::xs,b::bs,j+1,_,_,_,h,g=>⟨h.1,Ul.set_ (j:=j) h.2 g⟩
 |[],_::_,_,_,_,_,_,h,_=>h.elim
 |[],[],_::_,_,_,_,_,h,_=>h.elim
 |_::_,[],_,_,_,_,_,h,_=>h.elim
 |_::_,_::_,[],_,_,_,_,h,_=>h.elim
theorem Ul.snoc: ∀{vs:List Value} {xs:List (List Int)} {bs:List (List Bk)} {v:Value} {x:List Int} {b:List Bk},Ul vs xs bs→Ht 3 1 v x.length (Dl x) b→Ul (vs++[v]) (xs++[x]) (bs++[b])
 |[],[],[],_,_,_,_,g=>⟨g,trivial⟩
 |v::vs,x::xs,b::bs,_,_,_,h,g=>⟨h.1,Ul.snoc h.2 g⟩
 |[],_::_,_,_,_,_,h,_=>h.elim
 |[],[],_::_,_,_,_,h,_=>h.elim
 |_::_,[],_,_,_,_,h,_=>h.elim
 |_::_,_::_,[],_,_,_,h,_=>h.elim
structure GA.Ok (a:GA) (rv nv:Value) (g:Gr) (r:List Int):Prop where
 Af:g.Af=[r]
 rv:rv=Dc a.rb 1 a.rm
 nv:nv=Dc a.nb g.nodes.length a.nm
 rc:1≤a.rm∧a.rm≤maxLen∧1+a.FU.length=a.rm
 nc:g.nodes.length≤a.nm∧a.nm≤maxLen∧g.nodes.length+a.Ib.length=a.nm
 r0:Ht 3 1 a.r0 r.length (Dl r) a.RB
 ns:Ul a.vs g.nodes a.NB
def GR(rv nv:Value)(g:Gr):BB:=fun D w=> ∃a:GA×List Int,a.1.Ok rv nv g a.2∧Az (⟨a.1.rb,41,[a.1.r0]++a.1.FU⟩::⟨a.1.nb,41,a.1.vs++a.1.Ib⟩::(a.1.RB++a.1.NB.flatten)) Cj D w
theorem C9{g:Gr}:CV (GR rv nv g):=AQ fun _=>Ba (Ac Aa _)
end Mp
theorem dz:Pm 56 0 0=true:=by kernel_rfl
theorem gB:Pm 56 1 1=true:=by kernel_rfl
theorem jd:Pm 56 2 2=true:=by kernel_rfl
theorem n9:Cm 77=true:=by kernel_rfl
theorem gG:Bq 56 3=true:=by kernel_rfl
theorem oA:one 54=true:=by kernel_rfl
namespace Mp
theorem Gr.XS{g:Iv.Gr}{r:List Int}(h:g.Af=[r]):g.rs 0=r∧g.is 0:=by
 refine⟨by unfold Iv.Gr.rs;rw[h];rfl,?_⟩;unfold Iv.Gr.is;rw[h];simp
theorem Gr.ei{g:Iv.Gr}{r:List Int}(h:g.Af=[r]):g.BM 0↔(r.length:Int)<g.D5:=by
 have:=Gr.XS h;unfold Iv.Gr.BM;rw[this.1];exact⟨fun k=>k.2,fun k=>⟨this.2,k⟩⟩
theorem Gr.eo{g:Iv.Gr}{r:List Int}(h:g.Af=[r]):decide (g.BM 0)=decide ((r.length:Int)<g.D5):=decide_eq_decide.2 (Gr.ei h)
theorem It{g:Iv.Gr}:Cv C 74 [.agg #[rv,nv,.int .i64 g.D5],.int .i64 0] l (GR rv nv g) (.bool (decide (g.BM 0))) l (GR rv nv g):=by
 refine Ci 25 Tryz.func74 Z C9 fun w0 D0=>T.ex (fun _=>Ba (Ac Aa _)) ?_
 rintro⟨⟨rb,rm,FU,r0,RB,nb,nm,Ib,vs,NB⟩,r⟩;refine T.and (fun _=>Ac Aa _) ?_;intro ha;refine T.Og Aa ?_;have ha0:=ha;obtain⟨hg,rfl,rfl,hrc,hnc,hr0,hns⟩:=ha;simp only at hg hrc hnc hr0 hns;refine AZ 2 [1] Z<|F7 Z CE fun b0=>AY 3 [] Z<|Ey 21 0 0 (by kernel_rfl)<|AP 7 [] Z<|Du (c:=true) Z (decide_eq_true (show(0:Int)<((1:Nat):Int) by decide))<|AP 5 [] Z<|Jm Z WC ⟨Int.le_refl 0,(by decide:(0:Int)<((1:Nat):Int))⟩<|JY (v:=r0) Z XL (.s .z) Z<|PZ hr0 Z Z Z CX<|AY 6 [] Z<|T.BC Z fun W D h=>?_
 rw[Gr.eo hg];obtain⟨D1,h1,h2⟩:=A8 h;exact⟨D1,⟨rfl,rfl,⟨(⟨_,_,_,_,_,_,_,_,_,_⟩,_),ha0,h1⟩⟩,h2⟩
theorem Gr.X6{g:Iv.Gr}{a:Int}(h:a<0):g.root 0 a= -1:=if_neg fun k=>by have:=k.2.1;omega
theorem Gr.X7{g:Iv.Gr}{r:List Int}{a:Int}(hg:g.Af=[r])(h:a≥r.length):g.root 0 a= -1:=if_neg fun k=>by have:=k.2.2;rw[(Gr.XS hg).1] at this;omega
theorem Gr.X8{g:Iv.Gr}{r:List Int}(hg:g.Af=[r])(h:j<r.length):g.root 0 j=r.getD j 0:=by
 have:=Gr.XS hg;unfold Iv.Gr.root;rw[this.1,if_pos ⟨this.2,by omega,by omega⟩,Int.toNat_natCast]
theorem Rq{g:Iv.Gr}{a:Int}:Cv C 77 [.agg #[rv,nv,.int .i64 g.D5],.int .i64 0,.int .i64 a] l (GR rv nv g) (.int .i64 (g.root 0 a)) l (GR rv nv g):=by
 refine Ci 38 Tryz.func77 Z C9 fun w0 D0=>T.ex (fun _=>Ba (Ac Aa _)) ?_
 rintro⟨⟨rb,rm,FU,r0,RB,nb,nm,Ib,vs,NB⟩,r⟩;refine T.and (fun _=>Ac Aa _) ?_;intro ha;refine T.Og Aa ?_;have ha0:=ha;obtain⟨hg,rfl,rfl,hrc,hnc,hr0,hns⟩:=ha;simp only at hg hrc hnc hr0 hns;refine AZ 2 [1] Z<|F7 Z CE fun b0=>AY 4 [] Z ?_
 by_cases hq:a<0
 ·skip;refine AZ 8 [] Z<|Du (c:=false) Z (decide_eq_false (show¬(0:Int)≥((1:Nat):Int) by decide))<|AP 3 [] Z<|Du (c:=true) Z (decide_eq_true hq)<|AY 17 [] Z<|T.BC Z fun W D h=>?_
  rw[Gr.X6 hq];obtain⟨D1,h1,h2⟩:=A8 h;exact⟨D1,⟨rfl,rfl,⟨(⟨_,_,_,_,_,_,_,_,_,_⟩,_),ha0,h1⟩⟩,h2⟩
 obtain⟨j,rfl⟩: ∃j:Nat,a=(j:Int):=⟨a.toNat,by omega⟩;refine AZ 8 [] Z<|Du (c:=false) Z (decide_eq_false (show¬(0:Int)≥((1:Nat):Int) by decide))<|AP 3 [] Z<|Du (c:=false) Z (decide_eq_false hq)<|AP 6 [] Z<|Jm Z WC ⟨Int.le_refl 0,(by decide:(0:Int)<((1:Nat):Int))⟩<|JY (v:=r0) Z XL (.s .z) Z<|PZ hr0 Z Z Z CX<|AY 3 [] Z<|T.cond Z ?_ ?_
 ·intro hb1;refine CW 4 [] Z<|T.BC Z fun W D h=>?_
  rw[Gr.X7 hg (of_decide_eq_true hb1)];obtain⟨D1,h1,h2⟩:=A8 h;exact⟨D1,⟨rfl,rfl,⟨(⟨_,_,_,_,_,_,_,_,_,_⟩,_),ha0,h1⟩⟩,h2⟩
 intro hb1;have hlt:j<r.length:=by have: ¬((j:Nat):Int)≥((r.length:Nat):Int):=of_decide_eq_false hb1;omega
 obtain⟨ib,QI,im,rfl,-,-,-,-,rfl⟩:=hr0.resolve_left (fun h=>by have:=h.2.1;omega);refine AZ 6 [] Z<|Jm Z WC ⟨Int.le_refl 0,(by decide:(0:Int)<((1:Nat):Int))⟩<|JY (v:=Dc ib r.length im) Z XL (.s .z) Z<|NC Z<|Jm Z JV ⟨Int.natCast_nonneg _,Int.ofNat_lt.2 hlt⟩<|JY Z o3 (.s (.s (.s .z))) (EL hlt)<|AY 2 [] Z<|T.BC Z fun W D h=>?_
 rw[Gr.X8 hg hlt];obtain⟨D1,h1,h2⟩:=A8 h;exact⟨D1,⟨rfl,rfl,⟨(⟨_,_,_,_,_,_,_,_,_,_⟩,_),ha0,h1⟩⟩,h2⟩
theorem rH{g:Iv.Gr}{r:List Int}{rm:Nat}{FU Ib:List Value}{TB:List Bk}{R:BB}{a:Int}(hl:CV R)(hg:g.Af=[r])(hr0:Ht 3 1 r0 r.length (Dl r) RB):Cv C 77 [.agg #[Dc rb 1 rm,nv,.int .i64 g.D5],.int .i64 0,.int .i64 a] l (Az (⟨rb,41,[r0]++FU⟩::⟨nb,41,vs++Ib⟩::(RB++TB)) R) (.int .i64 (g.root 0 a)) l (Az (⟨rb,41,[r0]++FU⟩::⟨nb,41,vs++Ib⟩::(RB++TB)) R):=by
 refine Ci 38 Tryz.func77 Z (Ac hl _) fun w0 D0=>T.conv (fun w h=>Sy.opens (H2:=_::_::(RB++TB)) h hl)<|AZ 2 [1] Z<|F7 Z CE fun b0=>AY 4 [] Z ?_
 by_cases hq:a<0
 ·skip;refine AZ 8 [] Z<|Du (c:=false) Z (decide_eq_false (show¬(0:Int)≥((1:Nat):Int) by decide))<|AP 3 [] Z<|Du (c:=true) Z (decide_eq_true hq)<|AY 17 [] Z<|T.BC Z fun W D h=>?_
  rw[Gr.X6 hq];obtain⟨D1,h1,h2⟩:=A8 h;exact⟨D1,⟨rfl,rfl,h1⟩,h2⟩
 obtain⟨j,rfl⟩: ∃j:Nat,a=(j:Int):=⟨a.toNat,by omega⟩;refine AZ 8 [] Z<|Du (c:=false) Z (decide_eq_false (show¬(0:Int)≥((1:Nat):Int) by decide))<|AP 3 [] Z<|Du (c:=false) Z (decide_eq_false hq)<|AP 6 [] Z<|Jm Z WC ⟨Int.le_refl 0,(by decide:(0:Int)<((1:Nat):Int))⟩<|JY (v:=r0) Z XL (.s .z) Z<|PZ hr0 Z Z Z CX<|AY 3 [] Z<|T.cond Z ?_ ?_
 ·intro hb1;refine CW 4 [] Z<|T.BC Z fun W D h=>?_
  rw[Gr.X7 hg (of_decide_eq_true hb1)];obtain⟨D1,h1,h2⟩:=A8 h;exact⟨D1,⟨rfl,rfl,h1⟩,h2⟩
 intro hb1;have hlt:j<r.length:=by have: ¬((j:Nat):Int)≥((r.length:Nat):Int):=of_decide_eq_false hb1;omega
 obtain⟨ib,QI,im,rfl,-,-,-,-,rfl⟩:=hr0.resolve_left (fun h=>by have:=h.2.1;omega);refine AZ 6 [] Z<|Jm Z WC ⟨Int.le_refl 0,(by decide:(0:Int)<((1:Nat):Int))⟩<|JY (v:=Dc ib r.length im) Z XL (.s .z) Z<|NC Z<|Jm Z JV ⟨Int.natCast_nonneg _,Int.ofNat_lt.2 hlt⟩<|JY Z o3 (.s (.s (.s .z))) (EL hlt)<|AY 2 [] Z<|T.BC Z fun W D h=>?_
 rw[Gr.X8 hg hlt];obtain⟨D1,h1,h2⟩:=A8 h;exact⟨D1,⟨rfl,rfl,h1⟩,h2⟩
theorem Gr.oB{g:Iv.Gr}{a i:Int}{k:Nat}(hk:g.root 0 a=(k:Int)+1):g.has 0 a i↔0≤i∧i<((g.nodes.getD k []).length:Int):=by
 unfold Iv.Gr.has Iv.Gr.A7;rw[hk,show((k:Int)+1-1).toNat=k by omega];exact⟨fun h=>h.2,fun h=>⟨by omega,h⟩⟩
theorem Ss{g:Iv.Gr}{a i:Int}(hv:g.root 0 a≤g.nodes.length)(hN:g.nodes.length≤1000000):Cv C 76 [.agg #[rv,nv,.int .i64 g.D5],.int .i64 0,.int .i64 a,.int .i64 i] l (GR rv nv g) (.bool (decide (g.has 0 a i))) l (GR rv nv g):=by
 refine Ci 31 Tryz.func76 Z C9 fun w0 D0=>AZ 2 [1] Z<|F7 Z CE fun b0=>AP 7 [] Z<|CB Z n9 (Rq) C9<|AY 3 [] Z ?_
 rcases(show¬(g.root 0 a>0)∨(g.root 0 a>0∧ ¬(i≥0))∨(g.root 0 a>0∧i≥0) by omega) with hq|⟨hq,hi⟩|⟨hq,hi⟩
 ·skip;refine T.ex (fun _=>Ba (Ac Aa _)) ?_;rintro⟨⟨rb,rm,FU,r0,RB,nb,nm,Ib,vs,NB⟩,r⟩;refine T.and (fun _=>Ac Aa _) ?_;intro ha;refine T.Og Aa ?_;have ha0:=ha;obtain⟨hg,rfl,rfl,hrc,hnc,hr0,hns⟩:=ha;simp only at hg hrc hnc hr0 hns;refine AZ 2 [] Z<|Du (c:=false) Z (decide_eq_false hq)<|AY 17 [] Z<|T.BC Z fun W D h=>?_
  rw[decide_eq_false (fun h=>hq h.1)];obtain⟨D1,h1,h2⟩:=A8 h;exact⟨D1,⟨rfl,rfl,⟨(⟨_,_,_,_,_,_,_,_,_,_⟩,_),ha0,h1⟩⟩,h2⟩
 ·skip;refine T.ex (fun _=>Ba (Ac Aa _)) ?_;rintro⟨⟨rb,rm,FU,r0,RB,nb,nm,Ib,vs,NB⟩,r⟩;refine T.and (fun _=>Ac Aa _) ?_;intro ha;refine T.Og Aa ?_;have ha0:=ha;obtain⟨hg,rfl,rfl,hrc,hnc,hr0,hns⟩:=ha;simp only at hg hrc hnc hr0 hns;refine AZ 2 [] Z<|Du (c:=true) Z (decide_eq_true hq)<|AP 2 [] Z<|Du (c:=false) Z (decide_eq_false hi)<|AY 14 [] Z<|T.BC Z fun W D h=>?_
  rw[decide_eq_false (fun h=>hi h.2.1)];obtain⟨D1,h1,h2⟩:=A8 h;exact⟨D1,⟨rfl,rfl,⟨(⟨_,_,_,_,_,_,_,_,_,_⟩,_),ha0,h1⟩⟩,h2⟩
 obtain⟨k,hk⟩: ∃k:Nat,g.root 0 a=(k:Int)+1:=⟨(g.root 0 a-1).toNat,by omega⟩;have hkn:k<g.nodes.length:=by omega
 refine T.ex (fun _=>Ba (Ac Aa _)) ?_;rintro⟨⟨rb,rm,FU,r0,RB,nb,nm,Ib,vs,NB⟩,r⟩;refine T.and (fun _=>Ac Aa _) ?_;intro ha;refine T.Og Aa ?_;have ha0:=ha;obtain⟨hg,rfl,rfl,hrc,hnc,hr0,hns⟩:=ha;simp only at hg hrc hnc hr0 hns;refine AZ 2 [] Z<|Du (c:=true) Z (decide_eq_true hq)<|AP 2 [] Z<|Du (c:=true) Z (decide_eq_true hi)<|AP 6 [] Z<|BU (c:=((k:Nat):Int)) Z (by simp only[FC];rw[IntWalk.i64_in _ (by omega)];omega)<|Jm Z WC ⟨Int.natCast_nonneg _,Int.ofNat_lt.2 hkn⟩<|JY (v:=vs.getD k (.int .i64 0)) Z XL (.s (.s .z)) (WB (by rw[(Ul.len hns).1];exact hkn))<|PZ (Ul.at_ hns hkn) Z Z Z CX<|AY 4 [] Z<|T.BC Z fun W D h=>?_
 rw[show decide (g.has 0 a i)=decide (i<((g.nodes.getD k []).length:Int)) from decide_eq_decide.2 ((Gr.oB hk).trans ⟨fun h=>h.2,fun h=>⟨hi,h⟩⟩)];obtain⟨D1,h1,h2⟩:=A8 h;exact⟨D1,⟨rfl,rfl,⟨(⟨_,_,_,_,_,_,_,_,_,_⟩,_),ha0,h1⟩⟩,h2⟩
theorem Sx{k c:Nat}{p:Option Addr}{cs:List Value}(hv:Ht et n v k cs B)(ht:Ip t et n=true):(Builtin.append_ #[t,t] ty #[v,.slice p 0 c]).run Tryz.prog w= .ok v w:=by
 obtain⟨inf,z,hu,hin,hz,hs,hb,hzs⟩:=IG ht;have src:Src Tryz.prog inf.size t (.slice p 0 c) 0 [] w:=⟨.inl ⟨_,hu⟩,fun w'=>by simp[Builtin.lenOf],by cases p<;>simp[Builtin.firstCells,loadCells,loadCellsFrom],by cases p<;>simp[Builtin.firstCells,loadCells,loadCellsFrom],by simp,by simp⟩;rcases hv with⟨rfl,-,-,-⟩|⟨b,rest,m,rfl,h1,-⟩
 ·exact run_append_nothing w t t ty et inf hu hin none 0 0 (Nat.le_refl _) _ src
 exact run_append_nothing w t t ty et inf hu hin (some ⟨b,0,none⟩) k m h1 _ src
section
variable{R:BB}
variable{lo:Nat→Bool}{d:Option Nat}
theorem AaX{k c:Nat}{p:Option Addr}{cs:List Value}(hv:Ht et n v k cs B)(ho:Aq[i]?=some ⟨d,.call ⟨.builtin .append,a, #[t,t]⟩,ty,ps,af,none⟩)(hef:ef i=true)(ha:GV e a.toList=some [v,.slice p 0 c])(ht:Ip t et n=true)
  (hp:Eh Aq i U (Sy C w0 D0 l H R) e) (h:X Tryz.prog Aq lo ef K rr (Sy C w0 D0 l H R) U (Dz d v e)):X Tryz.prog Aq lo ef K (i::rr) (Sy C w0 D0 l H R) U e:=
 FH (K':=fun v' w'=>v'=v∧Sy C w0 D0 l H R w') ho hef rfl (fun w hS=>by
  have h1:=Sx (ty:=ty) (c:=c) (p:=p) (w:=w) hv ht;have hr:=Hl (d:=d) (ps:=ps) (af:=af) (gd:=none) (b:= .append) (ty:=ty) (LX:= #[t,t]) ha (v:=v) (w:=w) (w':=w) (by
   simp only[builtin,Sem.run_bind];rw[h1];rfl)
  exact N9 hr ⟨rfl,hS⟩) (fun v' w' ⟨e1,h3⟩=>by
   subst e1;exact⟨_,h3,hp,h⟩)
end
end Mp
theorem mh:Cm 78=true:=by kernel_rfl
theorem ep:Jv 56 [(0,1),(1,1),(2,1)]=true:=by kernel_rfl
theorem z41:LU 41=some [.slice none 0 0]:=by kernel_rfl
theorem uH:LU 56=some [.slice none 0 0,.slice none 0 0,.int .i64 0]:=by kernel_rfl
namespace Mp
theorem OH{l:List Int}: ∀v∈Dl l,BL v=true:=fun v h=>by
 obtain⟨x,-,rfl⟩:=List.mem_map.1 h;rfl
theorem Gr.Z0{g:Iv.Gr}{r:List Int}{v:Int}(h:g.Af=[r]):(g.push 0 v).Af=[r++[v]]:=by
 unfold Iv.Gr.push;rw[(Gr.XS h).1,h];rfl
theorem θ{g:Iv.Gr}{v:Int}{r1:List Int}(hg1:g.Af=[r1])(hr1:r1≠[])(hr2:r1.length≤100):Ce (α:=Nat×Nat) C 75 [.agg #[rv,nv,.int .i64 g.D5],.int .i64 0,.int .i64 v] l (GR rv nv g) (fun u=> .agg #[Dc u.1 1 u.2,nv,.int .i64 g.D5]) l (fun _=>True) (fun u=>GR (Dc u.1 1 u.2) nv (g.push 0 v)):=by
 refine Ci 29 Tryz.func75 Z C9 fun w0 D0=>T.ex (fun _=>Ba (Ac Aa _)) ?_
 rintro⟨⟨rb,rm,FU,r0,RB,nb,nm,Ib,vs,NB⟩,r⟩;refine T.and (fun _=>Ac Aa _) ?_;intro ha;refine T.Og Aa ?_;have ha0:=ha;obtain⟨hg,rfl,rfl,hrc,hnc,hr0,hns⟩:=ha;simp only at hg hrc hnc hr0 hns;obtain rfl:r1=r:=by rw[hg1] at hg;exact(List.cons.inj hg).1
 have hrl:=List.length_pos_iff.2 hr1;obtain⟨ib,QI,im,rfl,-,-,-,-,rfl⟩:=hr0.resolve_left (fun h=>by have:=h.2.1;omega);refine T.Jc (H':=[_,_,_]) (R':=Az NB.flatten Cj) (Ac Aa _) (Wk.refl _)<|AZ 2 [3] Z<|F7 Z CE fun b0=>Hg Z uH CE fun b1=>AP 11 [0,64,1] Z<|Jm Z WC ⟨Int.le_refl 0,(by decide:(0:Int)<((1:Nat):Int))⟩<|JY (v:=Dc ib r1.length im) Z XL (.s (.s .z)) Z<|MG (n:=1) (news:=Dl r1) (Ff:=QI) (Hr:=[_,_,_,_,_]) (cn:=Dl r1) (kn:=r1.length) (Ht.nil:Ht 3 1 (.slice none 0 0) 0 [] []) Z Z Z JV Z (.s (.s (.s (.s .z)))) (by simp[Dl]) OH ⟨by omega,by omega,by omega,by omega⟩ Z (by omega) CE fun v1 B1 hR1=>?_
 have hR2:=hR1;obtain⟨lb,Vg,lm,rfl,-,-,-,-,rfl⟩:=hR1.resolve_left (fun h=>by have:=h.2.1;omega);refine AP 6 [12] Z<|Qc Z JV z3 (by decide) Z Z Z CE fun b2=>MG (n:=1) (news:=Dl [v]) (Ff:=[]) (Hr:=[_,_,_,_,_,_]) (cn:=Dl (r1++[v])) (kn:=r1.length+1) hR2 Z Z Z JV Z .z Z OH ⟨by omega,by omega,by omega,by omega⟩ (by simp[Dl]) Z CE fun v2 B2 hS=>?_
 have hS2:=hS;obtain⟨mb,Vj,mm,rfl,-,-,-,-,rfl⟩:=hS.resolve_left (fun h=>by have:=h.2.1;omega);refine AY 3 [] Z<|T.Jc (H':=[_,_,_,_,_]) (R':=Az NB.flatten Cj) (Ac Aa _) (Wk.pick [1,2,4,6,3] (by decide))<|Br [0,1,2,3,5,6,7,8,4,9,10] 480 1040 (by kernel_rfl)<|AP 8 [1,1,1] Z<|NW (H1:=[_,_,_,_]) (H2:=[_]) (B:=fun(q:Nat×List Value×Nat)=>[⟨q.1,41,([Dc ib r1.length im]:List Value).set 0 (Dc mb (r1.length+1) mm)++q.2.1⟩,⟨rb,41,[Dc ib r1.length im]++FU⟩]) Z mh Z (Ce.Xz (SL (b:=rb) (c:=rm) (a:=0) (vs:=[Dc ib r1.length im]) (rest:=FU) (x:=Dc mb (r1.length+1) mm) (Nat.zero_lt_one) (show 1≤1000000 by decide) (fun v h=>by rw[List.mem_singleton.1 h];rfl) Z) (Ac Aa NB.flatten)) (fun _=>(Ac Aa NB.flatten)) (fun a3 JK=>(BP Z o3 (.s .z) Z (Ed Z jd (BP Z oA (.s .z) Z (Ed Z gB Aw))))) fun a3 JK=>Fp Z ep uH Z<|H9 Z gG Z Z .z (Nat.le_of_ble_eq_true Z) .z (Aj (by kernel_rfl) (Aj (by kernel_rfl) (Aj (by kernel_rfl) (Aj (by kernel_rfl) Aw))))<|X.nil<|T.Io Z Z gG .z Z fun W D h=>?_
 obtain⟨D1,h1,h2⟩:=(Wk.pick [4,2,3] (by decide)) D W h;exact⟨D1,⟨(a3.1,a3.2.2),rfl,trivial,rfl,⟨(⟨a3.1,a3.2.2,a3.2.1,Dc mb (r1.length+1) mm,[_],nb,nm,Ib,vs,NB⟩,r1++[v]),⟨Gr.Z0 hg,rfl,rfl,⟨JK.1,JK.2.1,JK.2.2⟩,hnc,by rw[List.length_append];exact hS2,hns⟩,h1⟩⟩,h2⟩
theorem rJ{F:List Bk}{R:BB}: ∀(A:List Bk),Wk (Az (A++F) R) (Az F R)
 |[]=>Wk.refl _
 |_::A=>Wk.tail.trans (rJ A)
theorem ι{g:Iv.Gr}{v:Int}(hg1:g.Af=[[]]):Ce (α:=Nat×Nat) C 75 [.agg #[rv,nv,.int .i64 g.D5],.int .i64 0,.int .i64 v] l (GR rv nv g) (fun u=> .agg #[Dc u.1 1 u.2,nv,.int .i64 g.D5]) l (fun _=>True) (fun u=>GR (Dc u.1 1 u.2) nv (g.push 0 v)):=by
 refine Ci 29 Tryz.func75 Z C9 fun w0 D0=>T.ex (fun _=>Ba (Ac Aa _)) ?_
 rintro⟨⟨rb,rm,FU,r0,RB,nb,nm,Ib,vs,NB⟩,r⟩;refine T.and (fun _=>Ac Aa _) ?_;intro ha;refine T.Og Aa ?_;have ha0:=ha;obtain⟨hg,rfl,rfl,hrc,hnc,hr0,hns⟩:=ha;simp only at hg hrc hnc hr0 hns;obtain rfl:r=[]:=by rw[hg1] at hg;exact(List.cons.inj hg).1.symm
 obtain⟨p0,c0,rfl⟩:=hr0.len;refine T.Jc (H':=[_,_]) (R':=Az NB.flatten Cj) (Ac Aa _) (Wk.Az (rJ RB) [_,_])<|AZ 2 [3] Z<|F7 Z CE fun b0=>Hg Z uH CE fun b1=>AP 11 [0,64,1] Z<|Jm Z WC ⟨Int.le_refl 0,(by decide:(0:Int)<((1:Nat):Int))⟩<|JY (v:= .slice p0 0 c0) Z XL (.s (.s .z)) Z<|AaX (n:=1) (Ht.nil:Ht 3 1 (.slice none 0 0) 0 [] []) Z Z Z JV Aw<|AP 6 [12] Z<|Qc Z JV z3 (by decide) Z Z Z CE fun b2=>MG (n:=1) (news:=Dl [v]) (Ff:=[]) (Hr:=[_,_,_,_,_]) (cn:=Dl [v]) (kn:=1) (Ht.nil:Ht 3 1 (.slice none 0 0) 0 [] []) Z Z Z JV Z .z Z OH ⟨by omega,by omega,by omega,by omega⟩ Z Z CE fun v2 B2 hS=>?_
 have hS2:=hS;obtain⟨mb,Vj,mm,rfl,-,-,-,-,rfl⟩:=hS.resolve_left (fun h=>by have:=h.2.1;omega);refine AY 3 [] Z<|T.Jc (H':=[_,_,_,_,_]) (R':=Az NB.flatten Cj) (Ac Aa _) (Wk.pick [1,2,4,5,3] (by decide))<|Br [0,1,2,3,5,6,7,8,4,9,10] 480 1040 (by kernel_rfl)<|AP 8 [1,1,1] Z<|NW (H1:=[_,_,_,_]) (H2:=[_]) (B:=fun(q:Nat×List Value×Nat)=>[⟨q.1,41,([.slice p0 0 c0]:List Value).set 0 (Dc mb 1 mm)++q.2.1⟩,⟨rb,41,[.slice p0 0 c0]++FU⟩]) Z mh Z (Ce.Xz (SL (b:=rb) (c:=rm) (a:=0) (vs:=[.slice p0 0 c0]) (rest:=FU) (x:=Dc mb 1 mm) (Nat.zero_lt_one) (show 1≤1000000 by decide) (fun v h=>by rw[List.mem_singleton.1 h];rfl) Z) (Ac Aa NB.flatten)) (fun _=>(Ac Aa NB.flatten)) (fun a3 JK=>(BP Z o3 (.s .z) Z (Ed Z jd (BP Z oA (.s .z) Z (Ed Z gB Aw))))) fun a3 JK=>Fp Z ep uH Z<|H9 Z gG Z Z .z (Nat.le_of_ble_eq_true Z) .z (Aj (by kernel_rfl) (Aj (by kernel_rfl) (Aj (by kernel_rfl) (Aj (by kernel_rfl) Aw))))<|X.nil<|T.Io Z Z gG .z Z fun W D h=>?_
 obtain⟨D1,h1,h2⟩:=(Wk.pick [4,2,3] (by decide)) D W h;exact⟨D1,⟨(a3.1,a3.2.2),rfl,trivial,rfl,⟨(⟨a3.1,a3.2.2,a3.2.1,Dc mb 1 mm,[_],nb,nm,Ib,vs,NB⟩,[v]),⟨Gr.Z0 hg,rfl,rfl,⟨JK.1,JK.2.1,JK.2.2⟩,hnc,hS2,hns⟩,h1⟩⟩,h2⟩
theorem ZG{g:Iv.Gr}{v:Int}{r:List Int}(hg:g.Af=[r])(hr:r.length≤100):Ce (α:=Nat×Nat) C 75 [.agg #[rv,nv,.int .i64 g.D5],.int .i64 0,.int .i64 v] l (GR rv nv g) (fun u=> .agg #[Dc u.1 1 u.2,nv,.int .i64 g.D5]) l (fun _=>True) (fun u=>GR (Dc u.1 1 u.2) nv (g.push 0 v)):=by
 by_cases h:r=[]
 ·subst h;exact ι hg
 exact θ hg h hr
end Mp
theorem g74:Cm 74=true:=by kernel_rfl
theorem g75:Cm 75=true:=by kernel_rfl
namespace Mp
theorem WE{g:Iv.Gr}(h:g.BM 0):Cv C 74 [.agg #[rv,nv,.int .i64 g.D5],.int .i64 0] l (GR rv nv g) (.bool true) l (GR rv nv g):=by
 have:=It (C:=C) (l:=l) (rv:=rv) (nv:=nv) (g:=g);rw[decide_eq_true h] at this;exact this
theorem SD{g:Iv.Gr}{a:Int}{r:List Int}(hg:g.Af=[r])(hr:r.length≤100)(hroom:g.BM 0)(h0:0≤g.root 0 a)(VK:BL nv=true):Ce (α:=Nat×Nat) C 47 [.agg #[rv,nv,.int .i64 g.D5],.int .i64 0,.int .i64 a] l (GR rv nv g) (fun u=> .tuple #[.agg #[Dc u.1 1 u.2,nv,.int .i64 g.D5],.bool true]) l (fun _=>True) (fun u=>GR (Dc u.1 1 u.2) nv (g.push 0 (g.root 0 a))):=by
 refine Ci 29 Tryz.func47 Z C9 fun w0 D0=>AZ 2 [3] Z<|F7 Z CE fun b0=>Hg Z uH CE fun b1=>AP 6 [0,1] Z<|CB Z g74 (WE hroom) C9<|AP 11 [0,1] Z<|CB Z n9 (Rq) C9<|Du (c:=false) Z (decide_eq_false (show¬g.root 0 a<0 by omega))<|AY 5 [] Z<|Ey 9 0 192 (by kernel_rfl)<|AP 5 [1,1] Z<|CB Z n9 (Rq) C9<|NW (H1:=[_,_]) (H2:=[]) (B:=fun(_:Nat×Nat)=>[]) Z g75 Z (ZG hg hr) (fun _=>C9) JH fun a2 ha2=>H9 Z gG Z (by simp[List.all,VK];exact⟨rfl,rfl⟩) .z (Nat.le_of_ble_eq_true Z) .z Aw<|AY 2 [] Z<|T.oH Z Z gG .z Z fun W D h=>?_
 obtain⟨D1,h1,h2⟩:=(Wk.tail.trans Wk.tail) D W h;exact⟨D1,⟨a2,rfl,trivial,rfl,h1⟩,h2⟩
theorem oE{ib im:Nat}{rs:List Int}{x:Int}(h1:(rs++[x]).length≤im)(h2:im≤maxLen)(h3:(Dl (rs++[x])).length+QI.length=im*1):Ht 3 1 (Dc ib rs.length im) rs.length (Dl rs) [⟨ib,3,Dl (rs++[x])++QI⟩]:=by
 simp only[List.length_append,List.length_cons,List.length_nil,Jo] at h1 h3;refine .inr ⟨ib,.int .i64 x::QI,im,rfl,by omega,h2,by simp only[Jo,List.length_cons];omega,by rw[Jo];omega,?_⟩;rw[fC]
theorem SF{g:Iv.Gr}{rs:List Int}{x:Int}(hg1:g.Af=[rs++[x]])(hr2:rs.length≤100):Ce (α:=Nat×Nat) C 46 [.agg #[rv,nv,.int .i64 g.D5],.int .i64 0] l (GR rv nv g) (fun u=> .tuple #[.agg #[Dc u.1 1 u.2,nv,.int .i64 g.D5],.bool true]) l (fun _=>True) (fun u=>GR (Dc u.1 1 u.2) nv {g with Af:=[rs]}):=by
 refine Ci 47 Tryz.func46 Z C9 fun w0 D0=>T.ex (fun _=>Ba (Ac Aa _)) ?_
 rintro⟨⟨rb,rm,FU,r0,RB,nb,nm,Ib,vs,NB⟩,r⟩;refine T.and (fun _=>Ac Aa _) ?_;intro ha;refine T.Og Aa ?_;have ha0:=ha;obtain⟨hg,rfl,rfl,hrc,hnc,hr0,hns⟩:=ha;simp only at hg hrc hnc hr0 hns;obtain rfl:r=rs++[x]:=by rw[hg1] at hg;exact(List.cons.inj hg).1.symm
 obtain⟨ib,QI,im,rfl,q1,q2,q3,-,rfl⟩:=hr0.resolve_left (fun h=>by have:=h.2.1;simp at this);have q1':rs.length+1≤im:=by simpa using q1
 have e1:(rs++[x]).length=rs.length+1:=by simp
 rw[e1] at ha0;refine T.Jc (H':=[⟨rb,41,[Dc ib (rs.length+1) im]++FU⟩,_,_]) (R':=Az NB.flatten Cj) (Ac Aa _) (Wk.of fun D w h=>by rw[e1] at h;exact h)<|AZ 2 [3] Z<|F7 Z CE fun b0=>Hg Z uH CE fun b1=>AP 12 [0,1] Z<|Du (c:=false) Z (decide_eq_false (show¬(0:Int)≥((1:Nat):Int) by decide))<|AP 5 [1] Z<|Jm Z WC ⟨Int.le_refl 0,(by decide:(0:Int)<((1:Nat):Int))⟩<|JY (v:=Dc ib (rs.length+1) im) Z XL (.s (.s .z)) Z<|aV Z CX<|Du (c:=false) Z (beq_eq_false_iff_ne.2 (show¬((rs.length+1:Nat):Int)=0 by omega))<|AY 5 [] Z<|T.Jc (H':=[_,_,_,_,_]) (R':=Az NB.flatten Cj) (Ac Aa _) (Wk.pick [0,1,3,4,2] (by decide))<|Br [0,1,2,3,4,5,6,7,8,9,10,11,12,13,14,15,17,18,19,20,16,21,22,23] 1966080 4259840 (by kernel_rfl)<|AP 6 [1,1] Z<|Jm Z WC ⟨Int.le_refl 0,(by decide:(0:Int)<((1:Nat):Int))⟩<|JY (v:=Dc ib (rs.length+1) im) Z XL (.s (.s (.s (.s .z)))) Z<|AP 3 [1] Z<|Jm Z WC ⟨Int.le_refl 0,(by decide:(0:Int)<((1:Nat):Int))⟩<|JY (v:=Dc ib (rs.length+1) im) Z XL (.s (.s (.s (.s .z)))) Z<|aV Z CX<|BU (c:=((rs.length:Nat):Int)) Z (by simp only[FC];rw[IntWalk.i64_in _ (by omega)];omega)<|kq (k:=rs.length) Z Z Z Z JV ⟨Int.natCast_nonneg _,by omega,rfl⟩<|AP 4 [1,1] Z ?_
 refine NW (H1:=[_,_,_,_]) (H2:=[_]) (B:=fun(q:Nat×List Value×Nat)=>[⟨q.1,41,([Dc ib (rs.length+1) im]:List Value).set 0 (Dc ib rs.length im)++q.2.1⟩,⟨rb,41,[Dc ib (rs.length+1) im]++FU⟩]) Z mh Z (Ce.Xz (SL (b:=rb) (c:=rm) (a:=0) (vs:=[Dc ib (rs.length+1) im]) (rest:=FU) (x:=Dc ib rs.length im) (Nat.zero_lt_one) (show 1≤1000000 by decide) (fun v h=>by rw[List.mem_singleton.1 h];rfl) Z) (Ac Aa NB.flatten)) (fun _=>(Ac Aa NB.flatten)) (fun a2 ha2=>(BP Z o3 (.s .z) Z (Ed Z jd (BP Z oA (.s .z) Z (Ed Z gB Aw))))) fun a2 ha2=>Fp Z ep uH Z<|H9 Z gG Z Z .z (Nat.le_of_ble_eq_true Z) .z (Aj (by kernel_rfl) (Aj (by kernel_rfl) (Aj (by kernel_rfl) (Aj (by kernel_rfl) Aw))))<|AY 2 [] Z<|T.oH Z Z gG .z Z fun W D h=>?_
 obtain⟨D1,h1,h2⟩:=(Wk.pick [4,2,3] (by decide)) D W h;exact⟨D1,⟨(a2.1,a2.2.2),rfl,trivial,rfl,⟨(⟨a2.1,a2.2.2,a2.2.1,Dc ib rs.length im,[_],nb,nm,Ib,vs,NB⟩,rs),⟨rfl,rfl,rfl,⟨ha2.1,ha2.2.1,ha2.2.2⟩,hnc,oE q1 q2 q3,hns⟩,h1⟩⟩,h2⟩
end Mp
theorem g76:Cm 76=true:=by kernel_rfl
namespace Mp
theorem rM{g:Iv.Gr}{a i:Int}(hv:g.root 0 a≤g.nodes.length)(hN:g.nodes.length≤1000000)(h:g.has 0 a i):Cv C 76 [.agg #[rv,nv,.int .i64 g.D5],.int .i64 0,.int .i64 a,.int .i64 i] l (GR rv nv g) (.bool true) l (GR rv nv g):=by
 have:=Ss (C:=C) (l:=l) (rv:=rv) (nv:=nv) (g:=g) (a:=a) (i:=i) hv hN;rw[decide_eq_true h] at this;exact this
theorem kR{b t:Nat}{cs:List Value}: ∀{NB:List (List Bk)} {k:Nat},k<NB.length→NB.getD k []=[⟨b,t,cs⟩]→In b cs NB.flatten
 |[],_,h,_=>by simp at h
 |x::xs,0,_,h=>by
  obtain rfl:x=[⟨b,t,cs⟩]:=h;exact .z
 |x::xs,k+1,h,g=>by
  show In b cs (x++xs.flatten);exact zh (kR (k:=k) (by simpa using h) (by simpa using g))
theorem Ix{g:Iv.Gr}{a i:Int}{r1:List Int}{k:Nat}(hg1:g.Af=[r1])(hr:r1.length≤100)(hroom:g.BM 0)(hk:g.root 0 a=(k:Int)+1)(hkn:k<g.nodes.length)(hN:g.nodes.length≤1000000)(hhas:g.has 0 a i):Ce (α:=Nat×Nat) C 44 [.agg #[rv,nv,.int .i64 g.D5],.int .i64 0,.int .i64 a,.int .i64 i] l (GR rv nv g) (fun u=> .tuple #[.agg #[Dc u.1 1 u.2,nv,.int .i64 g.D5],.int .i64 ((g.nodes.getD k []).getD i.toNat 0),.bool true]) l (fun _=>True) (fun u=>GR (Dc u.1 1 u.2) nv (g.push 0 ((g.nodes.getD k []).getD i.toNat 0))):=by
 refine Ci 43 Tryz.func44 Z C9 fun w0 D0=>AZ 2 [3] Z<|F7 Z CE fun b0=>Hg Z uH CE fun b1=>AP 7 [0,1] Z<|CB Z g74 (WE hroom) C9<|AP 5 [1] Z<|CB Z g76 (rM (by omega) hN hhas) C9<|AY 12 [] Z<|T.ex (fun _=>Ba (Ac Aa _)) ?_
 rintro⟨⟨rb,rm,FU,r0,RB,nb,nm,Ib,vs,NB⟩,r⟩;refine T.and (fun _=>Ac Aa _) ?_;intro ha;refine T.Og Aa ?_;have ha0:=ha;obtain⟨hg,rfl,rfl,hrc,hnc,hr0,hns⟩:=ha;simp only at hg hrc hnc hr0 hns;have hkl:k<g.nodes.length:=by omega
 have hln:=Ul.len hns;have hnk:=Ul.at_ hns hkl;have hik:=(Gr.oB hk).1 hhas;obtain⟨jb,Z1,jm,hjv,-,-,-,-,hjB⟩:=hnk.resolve_left (fun h=>by have:=h.2.1;omega);obtain⟨j,rfl⟩: ∃j:Nat,i=(j:Int):=⟨i.toNat,by omega⟩;have hlt:j<(g.nodes.getD k []).length:=by omega
 refine Ey 13 0 0 (by kernel_rfl)<|AP 5 [1,1] Z<|OT (H1:=[_,_]) (H2:=_::_) Z n9 Z (rH Aa hg hr0) Aa<|BU (c:=((k:Nat):Int)) Z (by simp only[FC];rw[IntWalk.i64_in _ (by omega)];omega)<|Jm Z WC ⟨Int.natCast_nonneg _,Int.ofNat_lt.2 hkl⟩<|JY (v:=Dc jb (g.nodes.getD k []).length jm) Z XL (.s (.s (.s .z))) ((WB (by rw[hln.1];exact hkl)).trans (by rw[hjv]))<|NC Z<|Jm Z JV ⟨Int.natCast_nonneg _,Int.ofNat_lt.2 hlt⟩<|JY Z o3 (.s (.s (.s (.s (zh (kR (by rw[hln.2];exact hkl) hjB)))))) (EL hlt)<|AY 3 [] Z<|T.Jc (H':=[_,_]) (R':=GR (Dc rb 1 rm) (Dc nb g.nodes.length nm) g) C9 (Wk.Az (Wk.of fun D w h=>⟨(⟨_,_,_,_,_,_,_,_,_,_⟩,_),ha0,h⟩) [_,_])<|AZ 4 [40,1] Z<|NW (H1:=[_,_]) (H2:=[]) (B:=fun(_:Nat×Nat)=>[]) Z g75 Z (ZG hg1 hr) (fun _=>C9) JH fun a2 ha2=>AY 5 [] Z<|T.Vh Z Z gG .z Z fun W D h=>?_
 obtain⟨D1,h1,h2⟩:=(Wk.tail.trans Wk.tail) D W h;exact⟨D1,⟨a2,rfl,trivial,rfl,h1⟩,h2⟩
theorem Jy{R:BB}{A:List Bk}(h: ∃L,B.Perm L∧L.Sublist A):Wk (Az A R) (Az B R):=fun D w hA=>by
 obtain⟨L,hp,hs⟩:=h;obtain⟨h1,h2,DR,h3,h4,h5⟩:=QY hA;have hpL:L.Pairwise (fun x y=>x.b≠y.b):=h1.sublist hs;have hpB:B.Pairwise (fun x y=>x.b≠y.b):=(hp.symm.pairwise_iff (fun h=>fun e=>h e.symm)).1 hpL;have hm: ∀x∈B,x∈A:=fun x hx=>hs.subset (hp.mem_iff.1 hx)
 obtain⟨D',g1,g2⟩:=Uz h3 hpB (fun x hx=>⟨(h2 x (hm x hx)).1,h4 x (hm x hx)⟩);refine⟨D',g1,fun k hk=>?_⟩;rcases g2 k hk with hk|⟨x,hx,rfl⟩
 ·exact h5 k hk
 exact(h2 x (hm x hx)).2
theorem rO{x:Bk}: ∀{NB:List (List Bk)} {k:Nat},k<NB.length→ ∃L,(NB.set k [x]).flatten.Perm (x::L)∧L.Sublist NB.flatten
 |[],_,h=>by simp at h
 |y::NB,0,_=>⟨NB.flatten,List.Perm.refl _,List.sublist_append_right _ _⟩
 |y::NB,k+1,h=>by
  obtain⟨L,h1,h2⟩:=rO (x:=x) (NB:=NB) (k:=k) (by simpa using h);refine⟨y++L,?_,(List.Sublist.refl y).append h2⟩;show(y++(NB.set k [x]).flatten).Perm _;exact(h1.append_left y).trans List.perm_middle
theorem ZH{l:List Int}{a:Nat}{x:Int}:(Dl l).set a (.int .i64 x)=Dl (l.set a x):=by
 unfold Dl;rw[List.map_set]
theorem ZI{l:List Int}{rs:List Value}{a:Nat}{x:Int}(h:a<l.length):NL (Dl l++rs) (0+((a:Nat):Int).toNat*1) (.int .i64 x)=Dl (l.set a x)++rs:=by
 rw[kQ (by rw[Jo];exact h),ZH]
theorem ν{g:Iv.Gr}{a i:Int}{k:Nat}(hk:g.root 0 a=(k:Int)+1)(hkn:k<g.nodes.length)(hN:g.nodes.length≤1000000)(h:g.has 0 a i):Cv C 76 [.agg #[rv,nv,.int .i64 g.D5],.int .i64 0,.int .i64 a,.int .i64 i] l (GR rv nv g) (.bool true) l (GR rv nv g):=rM (by omega) hN h
theorem xC{c a:Nat}{rest:List Value}{x:Value}(hl:vs.length=n)(ha:a<n)(hn:n≤1000000)(hcell: ∀v∈vs,BL v=true)(hx:BL x=true):
  Ce (α:=Nat×List Value×Nat) C 78 [Dc b n c,.int .i64 ((a:Nat):Int),x] l (Az [⟨b,41,vs++rest⟩] Cj) (fun q=>Dc q.1 n q.2.2) l (fun q=>n≤q.2.2∧q.2.2≤maxLen∧n+q.2.1.length=q.2.2) (fun q=>Az [⟨q.1,41,vs.set a x++q.2.1⟩,⟨b,41,vs++rest⟩] Cj):=by
 subst hl;exact SL ha hn hcell hx
theorem ID{t1 t2 q nb mb rb:Bk}{NB:List (List Bk)}{k:Nat}{R:BB}(h:k<NB.length):Wk (Az (t1::t2::q::nb::mb::rb::(RB++NB.flatten)) R) (Az (rb::q::(RB++(NB.set k [mb]).flatten)) R):=by
 obtain⟨L,h1,h2⟩:=rO (x:=mb) h;refine Jy ⟨q::mb::rb::(RB++L),?_,.cons _ (.cons _ (.cons_cons _ (.cons _ (.cons_cons _ (.cons_cons _ ((List.Sublist.refl RB).append h2))))))⟩;have h3:(RB++(NB.set k [mb]).flatten).Perm (mb::(RB++L)):=(h1.append_left RB).trans List.perm_middle;exact(List.Perm.swap q rb _).trans (.cons q ((h3.cons rb).trans (List.Perm.swap mb rb _)))
theorem Gr.Va{g:Iv.Gr}{a i b:Int}{k:Nat}(hk:g.root 0 a=(k:Int)+1)(hi:i=(j:Int))(hhas:g.has 0 a i)(hb:0≤g.root 0 b):g.Es 0 a i b=({g with nodes:=g.nodes.set k ((g.nodes.getD k []).set j (g.root 0 b))},true):=by
 unfold Iv.Gr.Es Iv.Gr.A7;rw[if_neg (fun h=>h.elim (fun h=>h hhas) (fun h=>by omega)),hk,show((k:Int)+1-1).toNat=k by omega,hi,Int.toNat_natCast]
end Mp
namespace Mp
theorem ξ{g:Iv.Gr}{a i b:Int}{k:Nat}(hk:g.root 0 a=(k:Int)+1)(hkn:k<g.nodes.length)(hN:g.nodes.length≤1000000)(hnl:(g.nodes.getD k []).length≤1000000)(hhas:g.has 0 a i)(hb:0≤g.root 0 b):Ce (α:=Nat×Nat) C 45 [.agg #[rv,nv,.int .i64 g.D5],.int .i64 0,.int .i64 a,.int .i64 i,.int .i64 b] l (GR rv nv g) (fun u=> .tuple #[.agg #[rv,Dc u.1 g.nodes.length u.2,.int .i64 g.D5],.bool true]) l (fun _=>True) (fun u=>GR rv (Dc u.1 g.nodes.length u.2) (g.Es 0 a i b).1):=by
 refine Ci 60 Tryz.func45 Z C9 fun w0 D0=>AZ 2 [3] Z<|F7 Z CE fun b0=>Hg Z uH CE fun b1=>AP 8 [0,1] Z<|CB Z g76 (ν hk hkn hN hhas) C9<|AP 11 [0,1] Z<|CB Z n9 (Rq) C9<|Du (c:=false) Z (decide_eq_false (show¬g.root 0 b<0 by omega))<|AP 9 [0,1] Z<|CB Z n9 (Rq) C9<|AY 7 [] Z<|T.ex (fun _=>Ba (Ac Aa _)) ?_
 rintro⟨⟨rb,rm,FU,r0,RB,nb,nm,Ib,vs,NB⟩,r⟩;refine T.and (fun _=>Ac Aa _) ?_;intro ha;refine T.Og Aa ?_;have ha0:=ha;obtain⟨hg,rfl,rfl,hrc,hnc,hr0,hns⟩:=ha;simp only at hg hrc hnc hr0 hns;have hkl:k<g.nodes.length:=by omega
 have hln:=Ul.len hns;have hnk:=Ul.at_ hns hkl;have hik:=(Gr.oB hk).1 hhas;obtain⟨jb,Z1,jm,hjv,-,-,-,-,hjB⟩:=hnk.resolve_left (fun h=>by have:=h.2.1;omega);obtain⟨j,rfl⟩: ∃j:Nat,i=(j:Int):=⟨i.toNat,by omega⟩;have hlt:j<(g.nodes.getD k []).length:=by omega
 refine AZ 5 [128,1] Z<|BU (c:=((k:Nat):Int)) Z (by simp only[FC];rw[IntWalk.i64_in _ (by omega)];omega)<|Jm Z WC ⟨Int.natCast_nonneg _,Int.ofNat_lt.2 hkl⟩<|JY (v:=Dc jb (g.nodes.getD k []).length jm) Z XL (.s (.s (.s .z))) ((WB (by rw[hln.1];exact hkl)).trans (by rw[hjv]))<|MG (n:=1) (news:=Dl (g.nodes.getD k [])) (Ff:=Z1) (cn:=Dl (g.nodes.getD k [])) (kn:=(g.nodes.getD k []).length) (Ht.nil:Ht 3 1 (.slice none 0 0) 0 [] []) Z Z Z JV (List.append_nil _) (.s (.s (.s (.s (zh (kR (by rw[hln.2];exact hkl) hjB)))))) (by simp[Dl]) OH ⟨by omega,by omega,by omega,by omega⟩ Z (by omega) CE fun v1 B1 hR1=>?_
 obtain⟨mb,Vj,mm,rfl,m1,m2,m3,m4,rfl⟩:=hR1.resolve_left (fun h=>by have:=h.2.1;omega);refine AY 3 [] Z<|T.conv (fun w h=>h.kr)<|AZ 6 [128,2] Z<|OT (H1:=[_,_,_]) (H2:=_::_) Z n9 Z (rH Aa hg hr0) Aa<|Jm Z JV ⟨Int.natCast_nonneg _,Int.ofNat_lt.2 hlt⟩<|KQ Z o3 Z .z (WB (by rw[Jo];exact hlt)) .z Aw ?_;rw[ZI hlt];refine AY 2 [] Z<|T.Jc (H':=[_,_,_]) (R':=Az (⟨mb,3,_⟩::⟨rb,41,_⟩::(RB++NB.flatten)) Cj) (Ac Aa _) (Wk.pick (H:=[_,_,_,_,_]) (R:=Az (RB++NB.flatten) Cj) [1,2,4,0,3] (by decide))<|Br [0,1,2,3,4,5,6,8,9,7,10,11,12] 771 2176 (by kernel_rfl)<|AP 5 [1,1] Z<|BU (c:=((k:Nat):Int)) Z (by simp only[FC];rw[IntWalk.i64_in _ (by omega)];omega)<|AP 3 [1] Z<|NW (H1:=[_,_]) (H2:=[_]) (B:=fun(q:Nat×List Value×Nat)=>[⟨q.1,41,vs.set k (Dc mb (g.nodes.getD k []).length mm)++q.2.1⟩,⟨nb,41,vs++Ib⟩]) Z mh Z (Ce.Xz (xC (b:=nb) (c:=nm) (a:=k) (vs:=vs) (rest:=Ib) (x:=Dc mb (g.nodes.getD k []).length mm) hln.1 hkl hN (Ul.cell hns) Z) (Ac Aa _)) (fun _=>(Ac Aa _)) (fun a2 ha2=>(BP Z o3 (.s .z) Z (Ed Z jd (BP Z oA (.s .z) Z (Ed Z dz Aw))))) fun a2 ha2=>Fp Z ep uH Z<|H9 Z gG Z Z .z (Nat.le_of_ble_eq_true Z) .z (Aj (by kernel_rfl) (Aj (by kernel_rfl) (Aj (by kernel_rfl) (Aj (by kernel_rfl) Aw))))<|AY 2 [] Z<|T.oH Z Z gG .z Z fun W D h=>?_
 obtain⟨D1,h1,h2⟩:=ID (k:=k) (by rw[hln.2];exact hkl) D W h;rw[Gr.Va hk rfl hhas hb];have e1:((g.nodes.getD k []).set j (g.root 0 b)).length=(g.nodes.getD k []).length:=List.length_set ..
 exact⟨D1,⟨(a2.1,a2.2.2),rfl,trivial,rfl,⟨(⟨rb,rm,FU,r0,RB,a2.1,a2.2.2,a2.2.1,vs.set k (Dc mb (g.nodes.getD k []).length mm),NB.set k [_]⟩,r),⟨hg,rfl,by show Dc a2.1 g.nodes.length _=Dc _ (List.length (List.set _ _ _)) _;rw[List.length_set],hrc,by show List.length (List.set _ _ _)≤_∧_∧List.length (List.set _ _ _)+_=_;rw[List.length_set];exact ha2,hr0,Ul.set_ hns (by rw[e1];exact .inr ⟨mb,Vj,mm,rfl,m1,m2,by rw[Jo,e1,←Jo];exact m3,by rw[Jo,e1];omega,rfl⟩)⟩,h1⟩⟩,h2⟩
theorem ZJ{x:Int}:Dl (List.replicate n x)=List.replicate n (.int .i64 x):=by
 unfold Dl;rw[List.map_replicate]
theorem Gr.IF{g:Iv.Gr}(hroom:g.BM 0)(hn:n≤64):g.alloc 0 n=(Iv.Gr.push {g with nodes:=g.nodes++[List.replicate n 0]} 0 ((g.nodes.length+1:Nat):Int),((g.nodes.length+1:Nat):Int),true):=by
 unfold Iv.Gr.alloc;rw[if_neg (fun h=>h.elim (fun h=>h hroom) (fun h=>by omega)),Int.toNat_natCast];rfl
theorem IH{bs zb t1 t2 rb nb xb:Bk}{NB:List (List Bk)}{R:BB}:Wk (Az (bs::zb::((t1::t2::rb::nb::(RB++NB.flatten))++[xb])) R) (Az (t1::t2::rb::xb::(RB++(NB++[[zb]]).flatten)) R):=by
 refine Jy ⟨zb::t1::t2::rb::((RB++NB.flatten)++[xb]),?_,.cons _ (.cons_cons _ (.cons_cons _ (.cons_cons _ (.cons_cons _ (.cons _ (List.Sublist.refl _))))))⟩;have e:RB++(NB++[[zb]]).flatten=(RB++NB.flatten)++[zb]:=by simp
 rw[e];have h1:(t1::t2::rb::xb::((RB++NB.flatten)++[zb])).Perm ([t1,t2,rb,xb]++zb::(RB++NB.flatten)):=List.Perm.append_left [t1,t2,rb,xb] (List.perm_append_singleton zb _);have h2:(zb::t1::t2::rb::((RB++NB.flatten)++[xb])).Perm (zb::([t1,t2,rb,xb]++(RB++NB.flatten))):=List.Perm.append_left [zb,t1,t2,rb] (List.perm_append_singleton xb _);exact(h1.trans List.perm_middle).trans h2.symm
end Mp
namespace Mp
theorem ο{g:Iv.Gr}{r1:List Int}(hg1:g.Af=[r1])(hr1:r1.length≤100)(hroom:g.BM 0)(mj:n≤64)(hN:g.nodes.length≤100000)(hN0:0<g.nodes.length):Ce (α:=Nat×Nat×Nat×Nat) C 43 [.agg #[rv,nv,.int .i64 g.D5],.int .i64 0,.int .i64 ((n:Nat):Int)] l (GR rv nv g) (fun u=> .tuple #[.agg #[Dc u.1 1 u.2.1,Dc u.2.2.1 (g.nodes.length+1) u.2.2.2,.int .i64 g.D5],.int .i64 (g.alloc 0 n).2.1,.bool true]) l (fun _=>True) (fun u=>GR (Dc u.1 1 u.2.1) (Dc u.2.2.1 (g.nodes.length+1) u.2.2.2) (g.alloc 0 n).1):=by
 refine Ci 43 Tryz.func43 Z C9 fun w0 D0=>AZ 2 [3] Z<|F7 Z CE fun b0=>Hg Z uH CE fun b1=>AP 7 [0,1] Z<|CB Z g74 (WE hroom) C9<|AP 9 [] Z<|Du (c:=false) Z (decide_eq_false (show¬((n:Nat):Int)<0 by omega))<|AP 3 [] Z<|Du (c:=false) Z (decide_eq_false (show¬((n:Nat):Int)>64 by omega))<|AY 9 [] Z<|T.ex (fun _=>Ba (Ac Aa _)) ?_
 rintro⟨⟨rb,rm,FU,r0,RB,nb,nm,Ib,vs,NB⟩,r⟩;refine T.and (fun _=>Ac Aa _) ?_;intro ha;refine T.Og Aa ?_;have hr:r.length≤100:=by have h1:=ha.Af;rw[hg1] at h1;have h2:r1=r:=(List.cons.inj h1).1;rw[←h2];exact hr1
 have ha0:=ha;obtain⟨hg,rfl,rfl,hrc,hnc,hr0,hns⟩:=ha;simp only at hg hrc hnc hr0 hns;have hln:=Ul.len hns;refine AZ 4 [8,1] Z<|MG (n:=1) (news:=vs) (Ff:=Ib) (cn:=vs) (kn:=g.nodes.length) (Ht.nil:Ht 41 1 (.slice none 0 0) 0 [] []) Z Z Z WC (List.append_nil _) (.s (.s (.s .z))) (by rw[hln.1];omega) (Ul.cell hns) ⟨by omega,by omega,by omega,by omega⟩ Z (by omega) CE fun v1 B1 hR1=>AP 6 [28] Z<|Zs (Nat.le_trans mj (by decide)) Z Z Z Z Z JV z3 CE fun zb=>Qc Z WC z41 (by decide) Z Z Z CE fun b2=>MG (n:=1) (news:=[Dc zb n n]) (Ff:=[]) (Hr:=_::_::(_::_::_::_::(RB++NB.flatten))) (cn:=vs++[Dc zb n n]) (kn:=g.nodes.length+1) hR1 Z Z Z WC Z .z Z (fun v h=>by rw[List.mem_singleton.1 h];rfl) ⟨by omega,by omega,by omega,by omega⟩ Z Z CE fun v2 B2 hR2=>?_
 obtain⟨xb,Vl,xm,rfl,m1,m2,m3,m4,rfl⟩:=hR2.resolve_left (fun h=>by have:=h.2.1;omega);refine AY 9 [4,3] Z<|T.Jc (H':=[_,_]) (R':=GR (Dc rb 1 rm) (Dc xb (g.nodes.length+1) xm) ({g with nodes:=g.nodes++[List.replicate n 0]}:Iv.Gr)) C9 (IH.trans (Wk.Az (Wk.of fun D w h=>⟨(⟨rb,rm,FU,r0,RB,xb,xm,Vl,vs++[Dc zb n n],NB++[[_]]⟩,r),⟨hg,Z,by show _=Dc xb (List.length (_++[_])) xm;rw[List.length_append];rfl,hrc,by show List.length (_++[_])≤_∧_∧List.length (_++[_])+_=_;rw[List.length_append];refine⟨m1,m2,?_⟩;have:=hln.1;simp only[List.length_append,List.length_cons,List.length_nil] at m3⊢;omega,hr0,Ul.snoc hns (by rw[List.length_replicate,ZJ];exact .inr ⟨zb,[],n,rfl,Nat.le_refl n,by rw[show maxLen=9223372036854775807 from rfl];omega,by rw[List.length_replicate,List.length_nil];omega,by rw[List.length_replicate];omega,by rw[List.append_nil]⟩)⟩,h⟩) [_,_])) ?_;refine AZ 5 [144,1] Z<|NW (H1:=[_,_]) (H2:=[]) (B:=fun(_:Nat×Nat)=>[]) Z g75 Z (ZG (g:=({g with nodes:=g.nodes++[List.replicate n 0]}:Iv.Gr)) hg hr) (fun _=>C9) JH fun a3 JK=>AY 6 [] Z<|T.Vh Z Z gG .z Z fun W D h=>?_
 obtain⟨D1,h1,h2⟩:=(Wk.tail.trans Wk.tail) D W h;rw[Gr.IF hroom mj];exact⟨D1,⟨(a3.1,a3.2,xb,xm),rfl,trivial,rfl,h1⟩,h2⟩
end Mp
namespace Mp
theorem SJ{D5:Int}(hm:1≤D5)(hn:n≤64):Ce (α:=Nat×Nat×Nat×Nat) C 41 [.int .i64 1,.int .i64 D5,.int .i64 ((n:Nat):Int)] l Cj (fun u=> .agg #[Dc u.1 1 u.2.1,Dc u.2.2.1 1 u.2.2.2,.int .i64 D5]) l (fun _=>True) (fun u=>GR (Dc u.1 1 u.2.1) (Dc u.2.2.1 1 u.2.2.2) ⟨[[1]],[List.replicate n 0],D5⟩):=by
 have mj:n≤1000000:=by omega
 refine Ci 44 Tryz.func41 Z Aa fun w0 D0=>AZ 2 [1] Z<|Hg Z uH CE fun b0=>AP 4 [12] Z<|Fp Z ep uH Z<|Hg Z uH CE fun b1=>AP 10 [] Z<|Du (c:=true) Z (decide_eq_true (show((n:Nat):Int)≥0 by omega))<|AP 11 [] Z<|Du (c:=false) Z (decide_eq_false (show¬((n:Nat):Int)>64 by omega))<|AY 4 [] Z<|Ey 8 3 184 (by kernel_rfl)<|AP 3 [] Z<|Zs mj Z Z Z Z Z JV z3 (fun _=>(BP Z oA (.s .z) Z (Ed Z gB Aw))) fun zb=>Qc Z WC z41 (by decide) Z Z Z (fun _=>(BP Z oA (.s (.s .z)) Z (Ed Z gB Aw))) fun b2=>MG (n:=1) (news:=[Dc zb n n]) (Ff:=[]) (Hr:=[_,_,_,_]) (cn:=[Dc zb n n]) (kn:=1) (Ht.nil:Ht 41 1 (.slice none 0 0) 0 [] []) Z Z Z WC Z .z Z (fun v h=>by rw[List.mem_singleton.1 h];rfl) ⟨by decide,by decide,by decide,by decide⟩ Z Z (fun _=>(Aj (by kernel_rfl) (Aj (by kernel_rfl) Aw))) fun v1 B1 hR1=>?_
 obtain⟨nb,Ib,nm,rfl,m1,m2,m3,-,rfl⟩:=hR1.resolve_left (fun h=>by have:=h.2.1;omega);refine uG Z gB<|KQ Z oA Z (.s (.s .z)) Z (.s (.s .z)) (Aj (by kernel_rfl) (Aj (by kernel_rfl) Aw))<|AP 4 [] Z<|Du (c:=true) Z (decide_eq_true (show D5>0 by omega))<|AP 3 [1] Z<|Qc Z JV z3 (by decide) Z Z Z CE fun b3=>AY 7 [] Z<|T.block<|T.Q9 20<|CW 14 [] Z<|T.block<|AZ 4 [88,3] Z<|Qc Z WC z41 (by decide) Z Z Z CE fun b4=>MG (n:=1) (news:=[Dc b3 1 1]) (Ff:=[]) (Hr:=[_,_,_,_,_,_,_]) (cn:=[Dc b3 1 1]) (kn:=1) (Ht.nil:Ht 41 1 (.slice none 0 0) 0 [] []) Z Z Z WC Z .z Z (fun v h=>by rw[List.mem_singleton.1 h];rfl) ⟨by decide,by decide,by decide,by decide⟩ Z Z CE fun v2 B2 hR2=>?_
 obtain⟨rb,FU,rm,rfl,k1,k2,k3,-,rfl⟩:=hR2.resolve_left (fun h=>by have:=h.2.1;omega);refine AY 3 [4] Z<|T.Bj<|AZ 2 [] Z<|BU (c:=1) Z (by decide)<|AY 2 [] Z<|T.EO<|CW 12 [] Z<|T.exit<|TE.O3<|TE.DC<|CW 5 [2,4,5] Z<|T.Io Z Z gG (.s (.s (.s (.s (.s .z))))) Z fun W D h=>?_
 obtain⟨D1,h1,h2⟩:=(Wk.pick [7,6,1,3] (by decide)) D W h;exact⟨D1,⟨(rb,rm,nb,nm),rfl,trivial,rfl,⟨(⟨rb,rm,FU,Dc b3 1 1,[_],nb,nm,Ib,[Dc zb n n],[[_]]⟩,[1]),⟨rfl,rfl,rfl,⟨k1,k2,by show 1+FU.length=rm;have h:1+FU.length=rm*1:=k3;omega⟩,⟨m1,m2,by show 1+Ib.length=nm;have h:1+Ib.length=nm*1:=m3;omega⟩,.inr ⟨b3,[],1,rfl,Nat.le_refl 1,by decide,rfl,rfl,rfl⟩,⟨by rw[List.length_replicate,ZJ];exact .inr ⟨zb,[],n,rfl,Nat.le_refl n,by rw[show maxLen=9223372036854775807 from rfl];omega,by rw[List.length_replicate,List.length_nil];omega,by rw[List.length_replicate];omega,by rw[List.append_nil]⟩,trivial⟩⟩,h1⟩⟩,h2⟩
end Mp
namespace Iv
variable{a v j b n w:Int}{e:Ev}{f:Nat→Nat}{k:Nat}{t:yV}{H H':List Int}{y:Mk}{F:Nat→List Int}{D:De}
open Go.Proofs.YtmpcfamcbaineaaGreat.Mo
structure WG (g:Gr) (n:Nat):Prop where
 rt: ∃r,g.Af=[r]∧(r.length:Int)≤g.D5∧ ∀v∈r,0≤v∧v≤g.nodes.length
 D5:g.D5≤64
 nd: ∀l∈g.nodes,l.length≤64∧ ∀v∈l,0≤v∧v≤g.nodes.length
 len:1≤g.nodes.length∧g.nodes.length≤n
section
variable{g:Gr}{n:Nat}{r:List Int}
theorem SM(hr:g.Af=[r])(h:0≤g.root 0 a):g.root 0 a∈r:=by
 unfold Gr.root at h⊢
 split
 ·rename_i hc;have e:g.rs 0=r:=by unfold Gr.rs;rw[hr];rfl
  rw[e] at hc⊢
  rw[List.getD_eq_getElem?_getD,List.getElem?_eq_getElem (by omega)];exact List.getElem_mem _
 rename_i hc;rw[if_neg hc] at h;omega
theorem WG.Vm(h:WG g n):g.root 0 a≤g.nodes.length:=by
 obtain⟨r,hr,-,hv⟩:=h.rt;by_cases h0:0≤g.root 0 a
 ·exact(hv _ (SM hr h0)).2
 omega
theorem WG.En(h:WG g n){i:Int}(h1:1≤v)(h2:v≤g.nodes.length):(g.A7 v).length≤64∧ ∀x∈g.A7 v,0≤x∧x≤g.nodes.length:=by
 unfold Gr.A7;rw[List.getD_eq_getElem?_getD,List.getElem?_eq_getElem (by omega)];exact h.nd _ (List.getElem_mem _)
theorem WG.push(h:WG g n)(hv:0≤v∧v≤g.nodes.length)(hr:g.BM 0):WG (g.push 0 v) n:=by
 obtain⟨r,h1,h2,h3⟩:=h.rt;have e:g.rs 0=r:=by unfold Gr.rs;rw[h1];rfl
 have hr:=hr.2;rw[e] at hr;refine⟨⟨r++[v],?_,?_,fun x hx=>?_⟩,h.D5,h.nd,h.len⟩
 ·unfold Gr.push;rw[e,h1];rfl
 ·rw[List.length_append];show((r.length+1:Nat):Int)≤g.D5;omega
 rcases List.mem_append.1 hx with hx|hx
 ·exact h3 x hx
 rw[List.mem_singleton.1 hx];exact hv
theorem WG.alloc(h:WG g n){m:Int}(hk:(g.alloc 0 m).2.2=true):g.BM 0∧0≤m∧m≤64∧WG (g.alloc 0 m).1 (n+1)∧(g.alloc 0 m).2.1=(g.nodes.length:Int)+1:=by
 unfold Gr.alloc at hk⊢
 by_cases hc: ¬g.BM 0∨m<0∨m>64
 ·rw[if_pos hc] at hk;cases hk
 rw[if_neg hc];have hr:g.BM 0:=by by_cases a:g.BM 0;exact a;exact absurd (.inl a) hc
 refine⟨hr,by omega,by omega,?_,rfl⟩;obtain⟨r,h1,h2,h3⟩:=h.rt;have hl:=h.len;have hl':(g.nodes++[List.replicate m.toNat (0:Int)]).length=g.nodes.length+1:=by simp
 refine WG.push (g:={g with nodes:=g.nodes++[List.replicate m.toNat 0]}) (n:=n+1) ⟨⟨r,h1,h2,fun v hv=>?_⟩,h.D5,fun l hm=>?_,?_⟩ ?_ hr
 ·have:=h3 v hv;show _∧v≤((g.nodes++[List.replicate m.toNat (0:Int)]).length:Int);rw[hl'];omega
 ·show _∧ ∀v∈l,0≤v∧v≤((g.nodes++[List.replicate m.toNat (0:Int)]).length:Int);rw[hl'];rcases List.mem_append.1 hm with hm|hm
  ·have:=h.nd l hm;exact⟨this.1,fun v hv=>by have:=this.2 v hv;omega⟩
  rw[List.mem_singleton.1 hm];refine⟨by rw[List.length_replicate];omega,fun v hv=>?_⟩;have:=(List.mem_replicate.1 hv).2;omega
 ·show 1≤(g.nodes++[List.replicate m.toNat (0:Int)]).length∧_;rw[hl'];omega
 show _∧_≤((g.nodes++[List.replicate m.toNat (0:Int)]).length:Int);rw[hl'];omega
theorem WG.has(h:WG g n){i:Int}(hh:g.has 0 a i): ∃k:Nat,g.root 0 a=(k:Int)+1∧k<g.nodes.length∧g.A7 (g.root 0 a)=g.nodes.getD k []:=by
 have h1:=hh.1;have h2:=h.Vm (a:=a);refine⟨(g.root 0 a-1).toNat,by omega,by omega,rfl⟩
theorem Nh{l:List Int}{j:Nat}(h:j<l.length):l.getD j 0∈l:=by
 rw[List.getD_eq_getElem?_getD,List.getElem?_eq_getElem h];exact List.getElem_mem _
theorem WG.G5(h:WG g n){i:Int}(hk:(g.G5 0 a i).2.2=true):g.BM 0∧g.has 0 a i∧WG (g.G5 0 a i).1 n∧g.G5 0 a i=(g.push 0 ((g.A7 (g.root 0 a)).getD i.toNat 0),(g.A7 (g.root 0 a)).getD i.toNat 0,true):=by
 unfold Gr.G5 at hk⊢
 by_cases hc:g.BM 0∧g.has 0 a i
 ·rw[if_neg (fun h=>h hc)];have hh:=hc.2;have h1:=hh.1;have h2:=h.Vm (a:=a);have hs:=h.En (v:=g.root 0 a) (i:=i) (by omega) h2;have h3:=hh.2;exact⟨hc.1,hc.2,h.push (hs.2 _ (Nh (by omega))) hc.1,rfl⟩
 rw[if_pos hc] at hk;cases hk
theorem WG.Es(h:WG g n){i:Int}(hk:(g.Es 0 a i b).2=true):g.has 0 a i∧0≤g.root 0 b∧WG (g.Es 0 a i b).1 n:=by
 unfold Gr.Es at hk⊢
 by_cases hc: ¬g.has 0 a i∨g.root 0 b<0
 ·rw[if_pos hc] at hk;cases hk
 rw[if_neg hc];have hh:g.has 0 a i:=by by_cases a:g.has 0 a i;exact a;exact absurd (.inl a) hc
 have hb:0≤g.root 0 b:=by omega
 refine⟨hh,hb,?_⟩;have h1:=hh.1;have h2:=h.Vm (a:=a);have h3:=h.Vm (a:=b);have hs:=h.En (v:=g.root 0 a) (i:=i) (by omega) h2;refine⟨?_,h.D5,fun l hm=>?_,?_⟩
 ·obtain⟨r,g1,g2,g3⟩:=h.rt;exact⟨r,g1,g2,fun v hv=>by rw[List.length_set];exact g3 v hv⟩
 ·rw[List.length_set];rcases List.mem_or_eq_of_mem_set hm with hm|rfl
  ·exact h.nd l hm
  rw[List.length_set];refine⟨hs.1,fun v hv=>?_⟩;rcases List.mem_or_eq_of_mem_set hv with hv|rfl
  ·exact hs.2 v hv
  exact⟨hb,h3⟩
 rw[List.length_set];exact h.len
theorem WG.Kq(h:WG g n)(hk:(g.Kq 0).2=true):(∃rs x,g.Af=[rs++[x]]∧(g.Kq 0).1={g with Af:=[rs]}∧rs.length≤64)∧WG (g.Kq 0).1 n:=by
 unfold Gr.Kq at hk⊢
 by_cases hc: ¬g.is 0∨(g.rs 0).length=0
 ·rw[if_pos hc] at hk;cases hk
 rw[if_neg hc];obtain⟨r,h1,h2,h3⟩:=h.rt;have e:g.rs 0=r:=by unfold Gr.rs;rw[h1];rfl
 rw[e] at hc⊢
 have hne:r≠[]:=fun h=>hc (.inr (by rw[h];rfl))
 have hm:=h.D5;have er:({g with Af:=g.Af.set (0:Int).toNat r.dropLast}:Gr)={g with Af:=[r.dropLast]}:=by rw[h1];rfl
 have hd:r.dropLast.length=r.length-1:=List.length_dropLast;refine⟨⟨r.dropLast,r.getLast hne,by rw[List.dropLast_concat_getLast hne];exact h1,er,by rw[hd];omega⟩,?_⟩;rw[er];refine⟨⟨r.dropLast,rfl,?_,fun v hv=>h3 v ((List.dropLast_sublist r).subset hv)⟩,h.D5,h.nd,h.len⟩;show(r.dropLast.length:Int)≤g.D5;rw[hd];omega
theorem WG.NU(h:WG g n)(hk:(g.NU 0 a).2=true):g.BM 0∧0≤g.root 0 a∧(g.NU 0 a).1=g.push 0 (g.root 0 a)∧WG (g.NU 0 a).1 n:=by
 unfold Gr.NU at hk⊢
 by_cases hc: ¬g.BM 0∨g.root 0 a<0
 ·rw[if_pos hc] at hk;cases hk
 rw[if_neg hc];have hr:g.BM 0:=by by_cases a:g.BM 0;exact a;exact absurd (.inl a) hc
 exact⟨hr,by omega,rfl,h.push ⟨by omega,h.Vm⟩ hr⟩
theorem WG.mono(h:WG g n)(hm:n≤m):WG g m:=⟨h.rt,h.D5,h.nd,h.len.1,Nat.le_trans h.len.2 hm⟩
end
section
variable{p:Pr}{me c:Int}
theorem IN(h0:p.ok=true)(h:(p.take me ⟨8,me,a,b,c⟩).ok=true):(p.g.alloc 0 b).2.2=true∧1≤a∧a<p.at_.length∧p.at_.getD a.toNat 0=0∧p.take me ⟨8,me,a,b,c⟩=⟨(p.g.alloc 0 b).1,p.at_.set a.toNat (p.g.alloc 0 b).2.1,true⟩:=by
 unfold Pr.take at h⊢
 rw[if_neg (show¬(8:Int)=5 by decide),if_pos rfl] at h⊢
 simp only[Int.sub_self] at h⊢
 by_cases hc:p.ok=true∧(p.g.alloc 0 b).2.2=true∧a≥1∧a<p.at_.length∧p.at_.getD (p.P6 a) 0=0
 ·rw[if_pos hc];obtain⟨-,h1,h2,h3,h4⟩:=hc;have e:p.P6 a=a.toNat:=by unfold Pr.P6;congr 1;omega
  rw[e] at h4;exact⟨h1,h2,h3,h4,rfl⟩
 rw[if_neg hc] at h;cases h
theorem IR(h0:p.ok=true)(h:(p.take me ⟨9,me,a,b,c⟩).ok=true):(p.g.G5 0 a b).2.2=true∧0≤c∧c<p.at_.length∧p.at_.getD c.toNat 0=(p.g.G5 0 a b).2.1∧p.take me ⟨9,me,a,b,c⟩=⟨(p.g.G5 0 a b).1,p.at_,true⟩:=by
 have e0:p.take me ⟨9,me,a,b,c⟩=⟨(p.g.G5 0 a b).1,p.at_,p.ok&&(p.g.G5 0 a b).2.2&&decide (c≥0∧c<p.at_.length∧p.at_.getD (p.P6 c) 0=(p.g.G5 0 a b).2.1)⟩:=by
  unfold Pr.take;rw[if_neg (show¬(9:Int)=5 by decide),if_neg (show¬(9:Int)=8 by decide),if_pos rfl];simp only[Int.sub_self]
 rw[e0] at h⊢
 have h':(p.ok&&(p.g.G5 0 a b).2.2&&decide (c≥0∧c<p.at_.length∧p.at_.getD (p.P6 c) 0=(p.g.G5 0 a b).2.1))=true:=h;rw[h'];simp only[Bool.and_eq_true,decide_eq_true_eq] at h';obtain⟨⟨-,h1⟩,h2,h3,h4⟩:=h';have e:p.P6 c=c.toNat:=by unfold Pr.P6;congr 1;omega
 rw[e] at h4;exact⟨h1,h2,h3,h4,rfl⟩
theorem IS(h0:p.ok=true)(h:(p.take me ⟨10,me,a,b,c⟩).ok=true):(p.g.Es 0 a b c).2=true∧p.take me ⟨10,me,a,b,c⟩=⟨(p.g.Es 0 a b c).1,p.at_,true⟩:=by
 have e0:p.take me ⟨10,me,a,b,c⟩=⟨(p.g.Es 0 a b c).1,p.at_,p.ok&&(p.g.Es 0 a b c).2⟩:=by
  unfold Pr.take;rw[if_neg (show¬(10:Int)=5 by decide),if_neg (show¬(10:Int)=8 by decide),if_neg (show¬(10:Int)=9 by decide),if_pos rfl];simp only[Int.sub_self]
 rw[e0] at h⊢
 have h':(p.ok&&(p.g.Es 0 a b c).2)=true:=h;rw[h'];exact⟨by simpa[h0] using h',rfl⟩
theorem IT(h0:p.ok=true)(h:(p.take me ⟨11,me,a,b,c⟩).ok=true):(p.g.Kq 0).2=true∧p.take me ⟨11,me,a,b,c⟩=⟨(p.g.Kq 0).1,p.at_,true⟩:=by
 have e0:p.take me ⟨11,me,a,b,c⟩=⟨(p.g.Kq 0).1,p.at_,p.ok&&(p.g.Kq 0).2⟩:=by
  unfold Pr.take;rw[if_neg (show¬(11:Int)=5 by decide),if_neg (show¬(11:Int)=8 by decide),if_neg (show¬(11:Int)=9 by decide),if_neg (show¬(11:Int)=10 by decide),if_pos rfl];simp only[Int.sub_self]
 rw[e0] at h⊢
 have h':(p.ok&&(p.g.Kq 0).2)=true:=h;rw[h'];exact⟨by simpa[h0] using h',rfl⟩
theorem I0(h0:p.ok=true)(h:(p.take me ⟨12,me,a,b,c⟩).ok=true):(p.g.NU 0 a).2=true∧p.take me ⟨12,me,a,b,c⟩=⟨(p.g.NU 0 a).1,p.at_,true⟩:=by
 have e0:p.take me ⟨12,me,a,b,c⟩=⟨(p.g.NU 0 a).1,p.at_,p.ok&&(p.g.NU 0 a).2⟩:=by
  unfold Pr.take;rw[if_neg (show¬(12:Int)=5 by decide),if_neg (show¬(12:Int)=8 by decide),if_neg (show¬(12:Int)=9 by decide),if_neg (show¬(12:Int)=10 by decide),if_neg (show¬(12:Int)=11 by decide),if_pos rfl];simp only[Int.sub_self]
 rw[e0] at h⊢
 have h':(p.ok&&(p.g.NU 0 a).2)=true:=h;rw[h'];exact⟨by simpa[h0] using h',rfl⟩
theorem I1:p.take me ⟨13,me,a,b,c⟩=p:=by
 unfold Pr.take;rw[if_neg (show¬(13:Int)=5 by decide),if_neg (show¬(13:Int)=8 by decide),if_neg (show¬(13:Int)=9 by decide),if_neg (show¬(13:Int)=10 by decide),if_neg (show¬(13:Int)=11 by decide),if_neg (show¬(13:Int)=12 by decide)]
theorem WG.take{n:Nat}(h:WG p.g n)(h0:p.ok=true)(hk:8≤e.kind∧e.kind≤13)(hw:e.Di=me)(ht:(p.take me e).ok=true):WG (p.take me e).g (n+1)∧(p.take me e).at_.length=p.at_.length∧(p.take me e).g.D5=p.g.D5:=by
 obtain⟨kd,Di,a,b,c⟩:=e;obtain rfl:Di=me:=hw;rcases(show kd=8∨kd=9∨kd=10∨kd=11∨kd=12∨kd=13 from by have:8≤kd∧kd≤13:=hk;omega) with rfl|rfl|rfl|rfl|rfl|rfl
 ·obtain⟨g1,-,-,-,g2⟩:=IN h0 ht;rw[g2];refine⟨(h.alloc g1).2.2.2.1,List.length_set ..,?_⟩;show(p.g.alloc 0 b).1.D5=_;unfold Gr.alloc;split<;>rfl
 ·obtain⟨g1,-,-,-,g2⟩:=IR h0 ht;rw[g2];have:=h.G5 g1;exact⟨this.2.2.1.mono (by omega),rfl,by show(p.g.G5 0 a b).1.D5=_;rw[this.2.2.2];rfl⟩
 ·obtain⟨g1,g2⟩:=IS h0 ht;rw[g2];exact⟨(h.Es g1).2.2.mono (by omega),rfl,by show(p.g.Es 0 a b c).1.D5=_;unfold Gr.Es;split<;>rfl⟩
 ·obtain⟨g1,g2⟩:=IT h0 ht;rw[g2];exact⟨(h.Kq g1).2.mono (by omega),rfl,by show(p.g.Kq 0).1.D5=_;unfold Gr.Kq;split<;>rfl⟩
 ·obtain⟨g1,g2⟩:=I0 h0 ht;rw[g2];exact⟨(h.NU g1).2.2.2.mono (by omega),rfl,by show(p.g.NU 0 a).1.D5=_;rw[(h.NU g1).2.2.1];rfl⟩
 rw[I1];exact⟨h.mono (by omega),rfl,rfl⟩
end
end Iv
namespace Mp
open Iv
theorem Ce.re{fn:Nat}{R:BB}{v:α→Value}{P:α→Prop}{R':α→BB}{v2:β→Value}{P2:β→Prop}{R2:β→BB}(f:α→β)(h:Ce C fn args l R v l' P R')(hv: ∀a,v a=v2 (f a))(hP: ∀a,P a→P2 (f a))(hR: ∀a D w,R' a D w→R2 (f a) D w):Ce C fn args l R v2 l' P2 R2:=
 Ct.mono h fun u m D w ⟨a,h1,h2,h3,h4⟩=>⟨D,⟨f a,by rw[h1,hv],hP a h2,h3,hR a D w h4⟩,fun _ hk=>hk⟩
abbrev ZK(u:Value×Value):Prop:=BL u.1=true∧BL u.2=true
section
variable{g:Gr}
theorem π(h:WG g n)(hn:n≤100000){m:Int}(hk:(g.alloc 0 m).2.2=true):Ce (α:=Value×Value) C 43 [.agg #[rv,nv,.int .i64 g.D5],.int .i64 0,.int .i64 m] l (GR rv nv g) (fun u=> .tuple #[.agg #[u.1,u.2,.int .i64 g.D5],.int .i64 (g.alloc 0 m).2.1,.bool true]) l ZK (fun u=>GR u.1 u.2 (g.alloc 0 m).1):=by
 obtain⟨h1,h2,h3,-,-⟩:=h.alloc hk;obtain⟨r,hr,hr2,-⟩:=h.rt;have hm:=h.D5;have hl:=h.len;obtain⟨j,rfl⟩: ∃j:Nat,m=(j:Int):=⟨m.toNat,by omega⟩;exact Ce.re (fun u=>(Dc u.1 1 u.2.1,Dc u.2.2.1 (g.nodes.length+1) u.2.2.2)) (ο hr (by omega) h1 (by omega) (by omega) (by omega)) (fun _=>rfl) (fun _ _=>⟨rfl,rfl⟩) (fun _ _ _ h=>h)
theorem I2(VK:BL nv=true)(h:WG g n)(hn:n≤100000){a i:Int}(hk:(g.G5 0 a i).2.2=true):Ce (α:=Value×Value) C 44 [.agg #[rv,nv,.int .i64 g.D5],.int .i64 0,.int .i64 a,.int .i64 i] l (GR rv nv g) (fun u=> .tuple #[.agg #[u.1,u.2,.int .i64 g.D5],.int .i64 (g.G5 0 a i).2.1,.bool true]) l ZK (fun u=>GR u.1 u.2 (g.G5 0 a i).1):=by
 obtain⟨h1,h2,-,h4⟩:=h.G5 hk;obtain⟨r,hr,hr2,-⟩:=h.rt;have hm:=h.D5;have hl:=h.len;obtain⟨k,k1,k2,k3⟩:=h.has h2;rw[h4,k3];exact Ce.re (fun u=>(Dc u.1 1 u.2,nv)) (Ix hr (by omega) h1 k1 k2 (by omega) h2) (fun _=>rfl) (fun _ _=>⟨rfl,VK⟩) (fun _ _ _ h=>h)
theorem ς(kS:BL rv=true)(h:WG g n)(hn:n≤100000){a i b:Int}(hk:(g.Es 0 a i b).2=true):Ce (α:=Value×Value) C 45 [.agg #[rv,nv,.int .i64 g.D5],.int .i64 0,.int .i64 a,.int .i64 i,.int .i64 b] l (GR rv nv g) (fun u=> .tuple #[.agg #[u.1,u.2,.int .i64 g.D5],.bool true]) l ZK (fun u=>GR u.1 u.2 (g.Es 0 a i b).1):=by
 obtain⟨h1,h2,-⟩:=h.Es hk;have hl:=h.len;obtain⟨k,k1,k2,k3⟩:=h.has h1;have hs:=(h.En (v:=g.root 0 a) (i:=i) (by omega) (by omega)).1;rw[k3] at hs;exact Ce.re (fun u=>(rv,Dc u.1 g.nodes.length u.2)) (ξ k1 k2 (by omega) (by omega) h1 h2) (fun _=>rfl) (fun _ _=>⟨kS,rfl⟩) (fun _ _ _ h=>h)
theorem SO(VK:BL nv=true)(h:WG g n)(hk:(g.Kq 0).2=true):Ce (α:=Value×Value) C 46 [.agg #[rv,nv,.int .i64 g.D5],.int .i64 0] l (GR rv nv g) (fun u=> .tuple #[.agg #[u.1,u.2,.int .i64 g.D5],.bool true]) l ZK (fun u=>GR u.1 u.2 (g.Kq 0).1):=by
 obtain⟨⟨rs,x,h1,h2,h3⟩,-⟩:=h.Kq hk;rw[h2];exact Ce.re (fun u=>(Dc u.1 1 u.2,nv)) (SF h1 (by omega)) (fun _=>rfl) (fun _ _=>⟨rfl,VK⟩) (fun _ _ _ h=>h)
theorem SP(VK:BL nv=true)(h:WG g n){a:Int}(hk:(g.NU 0 a).2=true):Ce (α:=Value×Value) C 47 [.agg #[rv,nv,.int .i64 g.D5],.int .i64 0,.int .i64 a] l (GR rv nv g) (fun u=> .tuple #[.agg #[u.1,u.2,.int .i64 g.D5],.bool true]) l ZK (fun u=>GR u.1 u.2 (g.NU 0 a).1):=by
 obtain⟨h1,h2,h3,-⟩:=h.NU hk;obtain⟨r,hr,hr2,-⟩:=h.rt;have hm:=h.D5;rw[h3];exact Ce.re (fun u=>(Dc u.1 1 u.2,nv)) (SD hr (by omega) h1 h2 VK) (fun _=>rfl) (fun _ _=>⟨rfl,VK⟩) (fun _ _ _ h=>h)
theorem xE{c a:Nat}{vs:List Int}{rest:List Value}{x:Int}(hl:vs.length=n)(ha:a<n)(hn:n≤1000000):
  Ce (α:=Nat×List Value×Nat) C 42 [Dc b n c,.int .i64 ((a:Nat):Int),.int .i64 x] l (Az [⟨b,3,Dl vs++rest⟩] Cj) (fun q=>Dc q.1 n q.2.2) l (fun q=>n≤q.2.2∧q.2.2≤maxLen∧n+q.2.1.length=q.2.2) (fun q=>Az [⟨q.1,3,Dl (vs.set a x)++q.2.1⟩,⟨b,3,Dl vs++rest⟩] Cj):=by
 have hl2:(Dl vs).length=n:=by rw[Jo];exact hl
 subst hl2;rw[←ZH];exact η (by omega) (by omega) OH rfl
end
def PR(rv nv av:Value)(p:Pr):BB:=fun D w=> ∃a:Nat×Nat×List Value,(av=Dc a.1 p.at_.length a.2.1∧p.at_.length≤a.2.1∧a.2.1≤maxLen∧p.at_.length+a.2.2.length=a.2.1)∧Az [⟨a.1,3,Dl p.at_++a.2.2⟩] (GR rv nv p.g) D w
theorem DT{p:Pr}:CV (PR rv nv av p):=AQ fun _=>Ba (Ac C9 _)
abbrev MH(u:Value×Value×Value):Prop:=BL u.1=true∧BL u.2.1=true∧BL u.2.2=true
theorem je{l:List Int}{rs:List Value}{x v:Int}(h:j<l.length)(hx:x=((j:Nat):Int))(hv:l.getD j 0=v):Qb (Dl l++rs) (0+x.toNat*1)=some (.int .i64 v):=by
 subst hx hv;exact EL h
theorem xG{a b:Value}{m:Int}(h1:BL a=true)(h2:BL b=true):[a,b,.int k m].all BL=true:=by
 show(BL a&&(BL b&&(true&&true)))=true;rw[h1,h2];rfl
theorem bZ{a b c:Value}{m:Int}{t:Bool}(h1:BL a=true)(h2:BL b=true)(h3:BL c=true):[a,b,.int k m,c,.bool t].all BL=true:=by
 show(BL a&&(BL b&&(true&&(BL c&&(true&&true)))))=true;rw[h1,h2,h3];rfl
end Mp
theorem g42:Cm 42=true:=by kernel_rfl
theorem g43:Cm 43=true:=by kernel_rfl
theorem g44:Cm 44=true:=by kernel_rfl
theorem g45:Cm 45=true:=by kernel_rfl
theorem g46:Cm 46=true:=by kernel_rfl
theorem g47:Cm 47=true:=by kernel_rfl
theorem Um:Bq 58 5=true:=by kernel_rfl
theorem aT:LU 58=some [.slice none 0 0,.slice none 0 0,.int .i64 0,.slice none 0 0,.bool false]:=by kernel_rfl
namespace Mp
open Iv
theorem I3{p:Pr}{me a b c:Int}(kS:BL rv=true)(VK:BL nv=true)(hg:WG p.g n)(hn:n≤100000)(hat:p.at_.length≤1000000)(hok:p.ok=true)(hto:(p.take me ⟨8,me,((j:Nat):Int),b,c⟩).ok=true):Ce (α:=Value×Value×Value) C 18 [.agg #[rv,nv,.int .i64 p.g.D5,av,.bool true],.int .i64 me,.agg (Ev.cells ⟨8,me,((j:Nat):Int),b,c⟩).toArray] l (PR rv nv av p) (fun u=> .agg #[u.1,u.2.1,.int .i64 p.g.D5,u.2.2,.bool true]) l MH (fun u=>PR u.1 u.2.1 u.2.2 (p.take me ⟨8,me,((j:Nat):Int),b,c⟩)):=by
 have hk:=IN hok hto;refine Ci 202 Tryz.func18 Z DT fun w0 D0=>T.ex (fun _=>Ba (Ac C9 _)) ?_
 rintro⟨ab,am,GI⟩;refine T.and (fun _=>Ac C9 _) ?_;rintro⟨rfl,ham⟩;simp only at ham;refine T.Og C9<|AZ 2 [7] Z<|F7 Z CE fun b0=>F7 Z CE fun b1=>Hg Z aT CE fun b2=>AP 6 [0,1] Z<|BU (c:=0) Z (by simp only[FC];rw[Int.sub_self];exact IntWalk.i64_in _ (by decide))<|AP 26 [0,1,0,1,3104,2,1] Z<|NW (H1:=[_,_,_,_]) (H2:=[]) (B:=fun(_:Value×Value)=>[]) Z g43 Z (π hg hn hk.1) (fun _=>C9) JH fun a3 JK=>AP 4 [] Z<|Hg Z uH CE fun b4=>H9 Z gG Z (xG JK.1 JK.2) .z (Nat.le_of_ble_eq_true Z) .z Aw<|AP 13 [17179869184,3,2] Z<|Du (c:=true) Z (decide_eq_true (show((j:Nat):Int)≥1 by omega))<|AP 7 [2,3] Z<|Du (c:=true) Z (decide_eq_true (show((j:Nat):Int)<((p.at_.length:Nat):Int) by omega))<|AP 9 [3,2,3] Z<|BU (c:=((p.at_.length:Nat):Int)-1) Z (by simp only[FC];exact IntWalk.i64_in _ (by omega))<|UG Z Z Z<|aW Z Z Z<|Jm Z JV (by omega)<|JY (v:= .int .i64 0) Z o3 (.s (.s (.s (.s .z)))) (je (j:=j) (by omega) (by show max (min ((j:Nat):Int) (((p.at_.length:Nat):Int)-1)) 0=((j:Nat):Int);omega) hk.2.2.2.1)<|AP 16 [3,0,3,4] Z<|H9 Z gG Z (xG JK.1 JK.2) (.s (.s (.s .z))) (Nat.le_of_ble_eq_true Z) (.s (.s (.s .z))) Aw<|AP 7 [160,3,2] Z ?_
 refine NW (H1:=[_,_,_,_]) (H2:=[_]) (B:=fun(q:Nat×List Value×Nat)=>[⟨q.1,3,Dl (p.at_.set j (p.g.alloc 0 b).2.1)++q.2.1⟩,⟨ab,3,Dl p.at_++GI⟩]) Z g42 Z (Ce.Xz (xE (c:=am) (rest:=GI) (x:=(p.g.alloc 0 b).2.1) Z (show j<p.at_.length by omega) hat) C9) (fun _=>C9) JH fun a5 Z2=>AP 6 [3,2,3] Z<|H9 Z Um Z (bZ JK.1 JK.2 Z) (.s .z) (Nat.le_of_ble_eq_true Z) (.s .z) Aw<|X.nil<|T.Io Z Z Um (.s .z) Z fun W D h=>?_
 obtain⟨D1,h1,h2⟩:=(Wk.pick [4] (by decide)) D W h;rw[hk.2.2.2.2];exact⟨D1,⟨(a3.1,a3.2,Dc a5.1 p.at_.length a5.2.2),rfl,⟨JK.1,JK.2,rfl⟩,rfl,⟨(a5.1,a5.2.2,a5.2.1),⟨by show _=Dc _ (List.length (List.set _ _ _)) _;rw[List.length_set],by show List.length (List.set _ _ _)≤_;rw[List.length_set];exact Z2.1,Z2.2.1,by show List.length (List.set _ _ _)+_=_;rw[List.length_set];exact Z2.2.2⟩,h1⟩⟩,h2⟩
theorem I6{p:Pr}{me a b c:Int}(kS:BL rv=true)(VK:BL nv=true)(hg:WG p.g n)(hn:n≤100000)(hat:p.at_.length≤1000000)(hok:p.ok=true)(hto:(p.take me ⟨9,me,a,b,((j:Nat):Int)⟩).ok=true):Ce (α:=Value×Value×Value) C 18 [.agg #[rv,nv,.int .i64 p.g.D5,av,.bool true],.int .i64 me,.agg (Ev.cells ⟨9,me,a,b,((j:Nat):Int)⟩).toArray] l (PR rv nv av p) (fun u=> .agg #[u.1,u.2.1,.int .i64 p.g.D5,u.2.2,.bool true]) l MH (fun u=>PR u.1 u.2.1 u.2.2 (p.take me ⟨9,me,a,b,((j:Nat):Int)⟩)):=by
 have hk:=IR hok hto;refine Ci 202 Tryz.func18 Z DT fun w0 D0=>T.ex (fun _=>Ba (Ac C9 _)) ?_
 rintro⟨ab,am,GI⟩;refine T.and (fun _=>Ac C9 _) ?_;rintro⟨rfl,ham⟩;simp only at ham;refine T.Og C9<|AZ 2 [7] Z<|F7 Z CE fun b0=>F7 Z CE fun b1=>Hg Z aT CE fun b2=>AP 6 [0,1] Z<|BU (c:=0) Z (by simp only[FC];rw[Int.sub_self];exact IntWalk.i64_in _ (by decide))<|AP 37 [0,1,0,1,0,1,12416,2,1,1] Z<|NW (H1:=[_,_,_,_]) (H2:=[]) (B:=fun(_:Value×Value)=>[]) Z g44 Z (I2 VK hg hn hk.1) (fun _=>C9) JH fun a3 JK=>AP 4 [] Z<|Hg Z uH CE fun b4=>H9 Z gG Z (xG JK.1 JK.2) .z (Nat.le_of_ble_eq_true Z) .z Aw<|AP 13 [34359738368,3,2] Z<|Du (c:=true) Z (decide_eq_true (show((j:Nat):Int)≥0 by omega))<|AP 7 [2,3] Z<|Du (c:=true) Z (decide_eq_true (show((j:Nat):Int)<((p.at_.length:Nat):Int) by omega))<|AP 9 [3,2,3] Z<|BU (c:=((p.at_.length:Nat):Int)-1) Z (by simp only[FC];exact IntWalk.i64_in _ (by omega))<|UG Z Z Z<|aW Z Z Z<|Jm Z JV (by omega)<|JY (v:= .int .i64 (p.g.G5 0 a b).2.1) Z o3 (.s (.s (.s (.s .z)))) (je (j:=j) (by omega) (by show max (min ((j:Nat):Int) (((p.at_.length:Nat):Int)-1)) 0=((j:Nat):Int);omega) hk.2.2.2.1)<|NC Z<|Du (c:=true) Z (beq_self_eq_true _)<|AP 8 [3,4] Z<|H9 Z gG Z (xG JK.1 JK.2) (.s (.s (.s .z))) (Nat.le_of_ble_eq_true Z) (.s (.s (.s .z))) Aw<|AP 4 [2,3] Z ?_
 refine H9 Z Um Z (bZ JK.1 JK.2 Z) (.s .z) (Nat.le_of_ble_eq_true Z) (.s .z) Aw<|X.nil<|T.Io Z Z Um (.s .z) Z fun W D h=>?_
 obtain⟨D1,h1,h2⟩:=(Wk.pick [4] (by decide)) D W h;rw[hk.2.2.2.2];exact⟨D1,⟨(a3.1,a3.2,Dc ab p.at_.length am),rfl,⟨JK.1,JK.2,rfl⟩,rfl,⟨(ab,am,GI),⟨rfl,ham.1,ham.2.1,ham.2.2⟩,h1⟩⟩,h2⟩
theorem τ{p:Pr}{me a b c:Int}(kS:BL rv=true)(VK:BL nv=true)(hg:WG p.g n)(hn:n≤100000)(hat:p.at_.length≤1000000)(hok:p.ok=true)(hto:(p.take me ⟨10,me,a,b,c⟩).ok=true):Ce (α:=Value×Value×Value) C 18 [.agg #[rv,nv,.int .i64 p.g.D5,av,.bool true],.int .i64 me,.agg (Ev.cells ⟨10,me,a,b,c⟩).toArray] l (PR rv nv av p) (fun u=> .agg #[u.1,u.2.1,.int .i64 p.g.D5,u.2.2,.bool true]) l MH (fun u=>PR u.1 u.2.1 u.2.2 (p.take me ⟨10,me,a,b,c⟩)):=by
 have hk:=IS hok hto;refine Ci 202 Tryz.func18 Z DT fun w0 D0=>T.ex (fun _=>Ba (Ac C9 _)) ?_
 rintro⟨ab,am,GI⟩;refine T.and (fun _=>Ac C9 _) ?_;rintro⟨rfl,ham⟩;simp only at ham;refine T.Og C9<|AZ 2 [7] Z<|F7 Z CE fun b0=>F7 Z CE fun b1=>Hg Z aT CE fun b2=>AP 6 [0,1] Z<|BU (c:=0) Z (by simp only[FC];rw[Int.sub_self];exact IntWalk.i64_in _ (by decide))<|AY 40 [0,1,0,1,0,1,0,0,1] Z<|AZ 11 [16896,2,1,1,1] Z<|NW (H1:=[_,_,_,_]) (H2:=[]) (B:=fun(_:Value×Value)=>[]) Z g45 Z (ς kS hg hn hk.1) (fun _=>C9) JH fun a3 JK=>AP 4 [] Z<|H9 Z gG Z (xG JK.1 JK.2) (.s (.s .z)) (Nat.le_of_ble_eq_true Z) (.s (.s .z)) Aw<|AP 33 [0,1,0,1,64,2,2,2,2] Z<|H9 Z Um Z (bZ JK.1 JK.2 Z) .z (Nat.le_of_ble_eq_true Z) .z Aw<|X.nil<|T.Io Z Z Um .z Z fun W D h=>?_
 obtain⟨D1,h1,h2⟩:=(Wk.pick [3] (by decide)) D W h;rw[hk.2];exact⟨D1,⟨(a3.1,a3.2,Dc ab p.at_.length am),rfl,⟨JK.1,JK.2,rfl⟩,rfl,⟨(ab,am,GI),⟨rfl,ham.1,ham.2.1,ham.2.2⟩,h1⟩⟩,h2⟩
theorem υ{p:Pr}{me a b c:Int}(kS:BL rv=true)(VK:BL nv=true)(hg:WG p.g n)(hn:n≤100000)(hat:p.at_.length≤1000000)(hok:p.ok=true)(hto:(p.take me ⟨11,me,a,b,c⟩).ok=true):Ce (α:=Value×Value×Value) C 18 [.agg #[rv,nv,.int .i64 p.g.D5,av,.bool true],.int .i64 me,.agg (Ev.cells ⟨11,me,a,b,c⟩).toArray] l (PR rv nv av p) (fun u=> .agg #[u.1,u.2.1,.int .i64 p.g.D5,u.2.2,.bool true]) l MH (fun u=>PR u.1 u.2.1 u.2.2 (p.take me ⟨11,me,a,b,c⟩)):=by
 have hk:=IT hok hto;refine Ci 202 Tryz.func18 Z DT fun w0 D0=>T.ex (fun _=>Ba (Ac C9 _)) ?_
 rintro⟨ab,am,GI⟩;refine T.and (fun _=>Ac C9 _) ?_;rintro⟨rfl,ham⟩;simp only at ham;refine T.Og C9<|AZ 2 [7] Z<|F7 Z CE fun b0=>F7 Z CE fun b1=>Hg Z aT CE fun b2=>AP 6 [0,1] Z<|BU (c:=0) Z (by simp only[FC];rw[Int.sub_self];exact IntWalk.i64_in _ (by decide))<|AY 40 [0,1,0,1,0,1,0,0,1] Z<|AZ 14 [0,1,264,2] Z<|NW (H1:=[_,_,_,_]) (H2:=[]) (B:=fun(_:Value×Value)=>[]) Z g46 Z (SO VK hg hk.1) (fun _=>C9) JH fun a3 JK=>AP 4 [] Z<|H9 Z gG Z (xG JK.1 JK.2) (.s (.s .z)) (Nat.le_of_ble_eq_true Z) (.s (.s .z)) Aw<|AP 24 [0,1,64,2,2,2,2] Z<|H9 Z Um Z (bZ JK.1 JK.2 Z) .z (Nat.le_of_ble_eq_true Z) .z Aw<|X.nil<|T.Io Z Z Um .z Z fun W D h=>?_
 obtain⟨D1,h1,h2⟩:=(Wk.pick [3] (by decide)) D W h;rw[hk.2];exact⟨D1,⟨(a3.1,a3.2,Dc ab p.at_.length am),rfl,⟨JK.1,JK.2,rfl⟩,rfl,⟨(ab,am,GI),⟨rfl,ham.1,ham.2.1,ham.2.2⟩,h1⟩⟩,h2⟩
theorem χ{p:Pr}{me a b c:Int}(kS:BL rv=true)(VK:BL nv=true)(hg:WG p.g n)(hn:n≤100000)(hat:p.at_.length≤1000000)(hok:p.ok=true)(hto:(p.take me ⟨12,me,a,b,c⟩).ok=true):Ce (α:=Value×Value×Value) C 18 [.agg #[rv,nv,.int .i64 p.g.D5,av,.bool true],.int .i64 me,.agg (Ev.cells ⟨12,me,a,b,c⟩).toArray] l (PR rv nv av p) (fun u=> .agg #[u.1,u.2.1,.int .i64 p.g.D5,u.2.2,.bool true]) l MH (fun u=>PR u.1 u.2.1 u.2.2 (p.take me ⟨12,me,a,b,c⟩)):=by
 have hk:=I0 hok hto;refine Ci 202 Tryz.func18 Z DT fun w0 D0=>T.ex (fun _=>Ba (Ac C9 _)) ?_
 rintro⟨ab,am,GI⟩;refine T.and (fun _=>Ac C9 _) ?_;rintro⟨rfl,ham⟩;simp only at ham;refine T.Og C9<|AZ 2 [7] Z<|F7 Z CE fun b0=>F7 Z CE fun b1=>Hg Z aT CE fun b2=>AP 6 [0,1] Z<|BU (c:=0) Z (by simp only[FC];rw[Int.sub_self];exact IntWalk.i64_in _ (by decide))<|AY 40 [0,1,0,1,0,1,0,0,1] Z<|AZ 25 [0,1,0,1,1056,2,1] Z<|NW (H1:=[_,_,_,_]) (H2:=[]) (B:=fun(_:Value×Value)=>[]) Z g47 Z (SP VK hg hk.1) (fun _=>C9) JH fun a3 JK=>AP 4 [] Z<|H9 Z gG Z (xG JK.1 JK.2) (.s (.s .z)) (Nat.le_of_ble_eq_true Z) (.s (.s .z)) Aw<|AP 15 [64,2,2,2,2] Z<|H9 Z Um Z (bZ JK.1 JK.2 Z) .z (Nat.le_of_ble_eq_true Z) .z Aw<|X.nil<|T.Io Z Z Um .z Z fun W D h=>?_
 obtain⟨D1,h1,h2⟩:=(Wk.pick [3] (by decide)) D W h;rw[hk.2];exact⟨D1,⟨(a3.1,a3.2,Dc ab p.at_.length am),rfl,⟨JK.1,JK.2,rfl⟩,rfl,⟨(ab,am,GI),⟨rfl,ham.1,ham.2.1,ham.2.2⟩,h1⟩⟩,h2⟩
theorem ψ{p:Pr}{me a b c:Int}(kS:BL rv=true)(VK:BL nv=true)(hg:WG p.g n)(hn:n≤100000)(hat:p.at_.length≤1000000)(hok:p.ok=true)(hto:(p.take me ⟨13,me,a,b,c⟩).ok=true):Ce (α:=Value×Value×Value) C 18 [.agg #[rv,nv,.int .i64 p.g.D5,av,.bool true],.int .i64 me,.agg (Ev.cells ⟨13,me,a,b,c⟩).toArray] l (PR rv nv av p) (fun u=> .agg #[u.1,u.2.1,.int .i64 p.g.D5,u.2.2,.bool true]) l MH (fun u=>PR u.1 u.2.1 u.2.2 (p.take me ⟨13,me,a,b,c⟩)):=by
 have hk:=True.intro;refine Ci 202 Tryz.func18 Z DT fun w0 D0=>T.ex (fun _=>Ba (Ac C9 _)) ?_
 rintro⟨ab,am,GI⟩;refine T.and (fun _=>Ac C9 _) ?_;rintro⟨rfl,ham⟩;simp only at ham;refine T.Og C9<|AZ 2 [7] Z<|F7 Z CE fun b0=>F7 Z CE fun b1=>Hg Z aT CE fun b2=>AP 6 [0,1] Z<|BU (c:=0) Z (by simp only[FC];rw[Int.sub_self];exact IntWalk.i64_in _ (by decide))<|AY 40 [0,1,0,1,0,1,0,0,1] Z<|AZ 33 [0,1,0,1,64,2,2,2,2] Z<|H9 Z Um Z (bZ kS VK Z) .z (Nat.le_of_ble_eq_true Z) .z Aw<|X.nil<|T.Io Z Z Um .z Z fun W D h=>?_
 obtain⟨D1,h1,h2⟩:=(Wk.pick [3] (by decide)) D W h;rw[I1];exact⟨D1,⟨(rv,nv,Dc ab p.at_.length am),rfl,⟨kS,VK,rfl⟩,rfl,⟨(ab,am,GI),⟨rfl,ham.1,ham.2.1,ham.2.2⟩,h1⟩⟩,h2⟩
theorem SR{p:Pr}{me:Int}{e:Ev}(kS:BL rv=true)(VK:BL nv=true)(hg:WG p.g n)(hn:n≤100000)(hat:p.at_.length≤1000000)(hok:p.ok=true)(he:8≤e.kind∧e.kind≤13)(hw:e.Di=me)(hto:(p.take me e).ok=true):Ce (α:=Value×Value×Value) C 18 [.agg #[rv,nv,.int .i64 p.g.D5,av,.bool true],.int .i64 me,.agg e.cells.toArray] l (PR rv nv av p) (fun u=> .agg #[u.1,u.2.1,.int .i64 p.g.D5,u.2.2,.bool true]) l MH (fun u=>PR u.1 u.2.1 u.2.2 (p.take me e)):=by
 obtain⟨kd,Di,a,b,c⟩:=e;obtain rfl:Di=me:=hw;rcases(show kd=8∨kd=9∨kd=10∨kd=11∨kd=12∨kd=13 from by have:8≤kd∧kd≤13:=he;omega) with rfl|rfl|rfl|rfl|rfl|rfl
 ·have h:=IN hok hto;obtain⟨j,rfl⟩: ∃j:Nat,a=(j:Int):=⟨a.toNat,by omega⟩;exact I3 (a:=0) kS VK hg hn hat hok hto
 ·have h:=IR hok hto;obtain⟨j,rfl⟩: ∃j:Nat,c=(j:Int):=⟨c.toNat,by omega⟩;exact I6 (c:=0) kS VK hg hn hat hok hto
 ·exact τ kS VK hg hn hat hok hto
 ·exact υ kS VK hg hn hat hok hto
 ·exact χ kS VK hg hn hat hok hto
 exact ψ kS VK hg hn hat hok hto
end Mp
end Go.Proofs.YtmpcfamcbaineaaGreat.Mo
