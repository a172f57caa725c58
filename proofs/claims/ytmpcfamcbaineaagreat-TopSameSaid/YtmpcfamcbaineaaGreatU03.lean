/- Part 3 of the proof of the row of the law TopSame: contracts of what it reaches, and the plain law. No condition. -/
import Derived.Test.YtmpcfamcbaineaaGreatU02
set_option linter.all false
set_option maxHeartbeats 8000000
set_option maxRecDepth 100000
open Go.RowKit
namespace Go.Proofs.YtmpcfamcbaineaaGreat.Mo
variable{a:Array Operand}{b d n i j t id f ty t':Nat}{w w' w0:World}{e:GZ}{v u nv:Value}{y z:Operand}{k k':IntKind}{o:Oper}{C:Cx}{l l':Dk}{P:Program}{ρ:Operand→Value}{K:(World→Prop)→GZ→Prop}{Q:Exit→Act→World→Prop}{Aq:Array Oper}{ef:Nat→Bool}{ord r rr:List Nat}{S:World→Prop}{R':BB}{D0:LV}{H H' H2 H1 Ju:List Bk}{args vs captured zs:List Value}{Nx:Value→BB→Prop}{fn:Func}{U pv:List (Nat×Value)}{ps:String}{af:Array Edge}{op:BinOp}{LX:Array Nat}{parts:Array (Nat×Operand)}
def uR(Q:Exit→Act→World→Prop):List Code→Act→World→Prop
 |[],a,w=>Q .normal a w
 |c::r,a,w=>c.wp Tryz.prog (Exit.then (uR Q r) Q) a w
def T[Inhabited (List Deferred)](Q:Exit→Act→World→Prop)(n:Nat)(r:List Code)(S:World→Prop)(e:GZ):Prop:= ∀w a,S w→IC a n e→uR Q r a w
section
variable{r:List Code}
theorem T.seq[Inhabited (List Deferred)]{x y:Code}(h:T Q n (x::y::r) S e):T Q n (.seq x y::r) S e:=fun w a hS hF=>by
 refine wp_seq (wp_mono (h w a hS hF) ?_);intro ex a' w' hq;cases ex<;>exact hq
theorem T.skip[Inhabited (List Deferred)](h:T Q n r S e):T Q n (.skip::r) S e:=fun w a hS hF=>wp_skip (h w a hS hF)
theorem T.cond[Inhabited (List Deferred)]{c:Operand}{x y:Code}{b:Bool}(hc:ev e c= .bool b)(ht:b=true→T Q n (x::r) S e)(hf:b=false→T Q n (y::r) S e):T Q n (.cond c x y::r) S e:=fun w a hS hF=>by
 cases b with
 |true=>exact wp_cond_true (by rw[hF.eval];exact hc) (ht rfl w a hS hF)
 |false=>exact wp_cond_false (by rw[hF.eval];exact hc) (hf rfl w a hS hF)
theorem T.sY[Inhabited (List Deferred)]{c:Operand}{x y:Code}(hc:ev e c= .bool true)(ht:T Q n (x::r) S e):T Q n (.cond c x y::r) S e:=T.cond hc (fun _=>ht) (fun h=>nomatch h)
theorem T.no[Inhabited (List Deferred)]{c:Operand}{x y:Code}(hc:ev e c= .bool false)(hf:T Q n (y::r) S e):T Q n (.cond c x y::r) S e:=T.cond hc (fun h=>nomatch h) (fun _=>hf)
theorem T.ret[Inhabited (List Deferred)](h: ∀w a,S w→IC a n e→Q .ret a w):T Q n (.ret::r) S e:=fun w a hS hF=>wp_ret (h w a hS hF)
theorem T.done[Inhabited (List Deferred)](h: ∀w a,S w→IC a n e→Q .normal a w):T Q n [] S e:=fun w a hS hF=>h w a hS hF
theorem T.conv[Inhabited (List Deferred)]{S':World→Prop}(h: ∀w,S w→S' w)(h':T Q n r S' e):T Q n r S e:=fun w a hS hF=>h' w a (h w hS) hF
def nZ(Aq:Array Oper)(n:Nat):Bool:=Aq.toList.all fun o=>match o.dst with|some t=>decide (t<n)|none=>true
theorem VU(h:nZ Aq n=true)(i:Nat)(o:Oper)(ho:Aq[i]?=some o)(t:Nat)(ht:o.dst=some t):t<n:=by
 have:=List.all_eq_true.1 h o (by simpa using Array.mem_of_getElem? ho);simpa[ht] using this
theorem T.eB[Inhabited (List Deferred)](hd:nZ Aq n=true)(hord:List.range Aq.size=ord)(h:X Tryz.prog Aq (fun _=>false) ef (fun S e=>T Q n r S e) ord S [] e):T Q n (.region id Aq false::r) S e:=fun w a hS hF=>by
 subst hord;exact eA (VU hd) (fun S' e' (hk:T Q n r S' e') w' a' hS' hF'=>hk w' a' hS' hF') h hS hF
theorem tx[Inhabited (List Deferred)](k:Nat)(ef:Nat→Bool)(hz:(nZ Aq n,Aq.size)=(true,k))(h:X Tryz.prog Aq (fun _=>false) ef (fun S e=>T Q n r S e) (List.range k) S [] e):T Q n (.region id Aq false::r) S e:=have⟨hd,hk⟩:=nH hz;T.eB hd (congrArg List.range hk) h
theorem Wm:Tryz.prog.follows .mixedOrders=true:=by kernel_rfl
theorem T.any[Inhabited (List Deferred)]{lo:Nat→Bool}(hck:Bm Aq n ord lo ef=true)(hS: ∀w,S w→S w.drew)(h:X Tryz.prog Aq lo ef (fun S e=>T Q n r S e) ord S [] e):T Q n (.region id Aq true::r) S e:=fun w a hw hF=>
 uE Wm hck (fun S' e' (hk:T Q n r S' e') w' a' hS' hF'=>hk w' a' hS' hF') h hS hw hF
end
def Bn:Nat→List Value→GZ
 |_,[]=>[]
 |k,v::l=>(k,v)::Bn (k+1) l
theorem Cd: ∀(l:List Value) (k t:Nat),lk (Bn k l) t=if k≤t then l.getD (t-k) undef else undef
 |[],k,t=>by simp[Bn,lk]
 |v::l,k,t=>by
  show lk ((k,v)::Bn (k+1) l) t=_;rw[RQ,Cd l (k+1) t];by_cases h:k=t
  ·subst h;simp
  rw[if_neg h];by_cases h1:k≤t
  ·rw[if_pos h1,if_pos (by omega),show t-k=(t-(k+1))+1 by omega];rfl
  rw[if_neg h1,if_neg (by omega)]
theorem Pz(l:List Value)(n:Nat)(h:l.length≤n):IC {tmps:=l.toArray++Array.replicate (n-l.toArray.size) undef,defers:=[]} n (Bn 0 l):=by
 refine⟨rfl,by simp;omega,fun t=>?_⟩;rw[Cd,if_pos (Nat.zero_le _),Nat.sub_zero];simp only[Array.getD_eq_getD_getElem?,List.getD_eq_getElem?_getD,Array.getElem?_append,List.size_toArray];by_cases h1:t<l.length
 ·rw[if_pos h1];simp
 rw[if_neg h1,List.getElem?_eq_none (by omega),Array.getElem?_replicate];split<;>rfl
def Tj(C:Cx)(w0:World)(D0:LV)(Q:Value→Dk→BB):Ending→World→Prop:=fun e w'=> ∃v l' D',e= .returned v∧Mem w' C l'∧Q v l' D' w'∧KE (C.with D0) w0 w'∧ ∀k,D' k→k<w'.heap.size∧(D0 k∨w0.heap.size≤k)
theorem Ct.of{c:Code}{R:BB}{Q:Value→Dk→BB}(hf:Tryz.prog.funcs[f]?=some fn)(hb:fn.body=some c)(hnt:fn.ntmps=n)(hn:vs.length≤n)(hl:CV R)
  (h: ∀w0 D0,T (bodyPost Tryz.prog fn (Tj C w0 D0 Q)) n [c] (Sy C w0 D0 l [] R) (Bn 0 vs)):
  Ct C f vs.toArray l R Q:=fun w D ha hm hR=>by
 subst hnt;refine calls_of_wp hf hb ?_;have:=h w D w _ ⟨ha,KE.refl _ _,hm,hl,D,hR,fun k hk=>⟨ha.lt k hk,.inl hk⟩⟩ (Pz vs fn.ntmps hn);refine wp_mono this ?_;intro ex a' w' hq;cases ex<;>exact hq
section
variable{R:BB}{r:List Code}{Q:Value→Dk→BB}
theorem Sy.QQ(h:Sy C w0 D0 l H R w)(hq: ∀D,Az H R D w→ ∃D',Q v l D' w∧ ∀k,D' k→D k):Tj C w0 D0 Q (.returned v) w:=by
 obtain⟨D,h1,h2⟩:=h.NK;obtain⟨D',h3,h4⟩:=hq D h1;exact⟨v,l,D',rfl,h.mem,h3,h.Kr,fun k hk=>h2 k (h4 k hk)⟩
theorem T.J6(hr:fn.results= #[])(hq: ∀w D,Az H R D w→ ∃D',Q (.tuple #[]) l D' w∧ ∀k,D' k→D k):T (bodyPost Tryz.prog fn (Tj C w0 D0 Q)) n (.ret::r) (Sy C w0 D0 l H R) e:=
 T.ret fun w a hS hF=>⟨hF.defers,_,results_none hr _ _ _,hS.QQ (hq w)⟩
theorem T.BJ(hr:fn.results= #[])(hq: ∀w D,Az H R D w→ ∃D',Q (.tuple #[]) l D' w∧ ∀k,D' k→D k):T (bodyPost Tryz.prog fn (Tj C w0 D0 Q)) n [] (Sy C w0 D0 l H R) e:=
 T.done fun w a hS hF=>⟨hF.defers,_,results_none hr _ _ _,hS.QQ (hq w)⟩
theorem T.BC(hr:fn.results= #[.tmp t])(hq: ∀w D,Az H R D w→ ∃D',Q (lk e t) l D' w∧ ∀k,D' k→D k):T (bodyPost Tryz.prog fn (Tj C w0 D0 Q)) n (.ret::r) (Sy C w0 D0 l H R) e:=
 T.ret fun w a hS hF=>⟨hF.defers,_,results_tmp hr _ _ _,by rw[hF.at_ t];exact hS.QQ (hq w)⟩
theorem T.YJ{u:Nat}(hr:fn.results= #[.tmp t,.tmp u])(hq: ∀w D,Az H R D w→ ∃D',Q (.tuple #[lk e t,lk e u]) l D' w∧ ∀k,D' k→D k):T (bodyPost Tryz.prog fn (Tj C w0 D0 Q)) n (.ret::r) (Sy C w0 D0 l H R) e:=
 T.ret fun w a hS hF=>⟨hF.defers,_,results_tmp2 hr _ _ _,by rw[hF.at_ t,hF.at_ u];exact hS.QQ (hq w)⟩
end
def oC:GZ→Nat→Option Value
 |[],_=>none
 |(d,v)::e,t=>bif Nat.beq d t then some v else oC e t
def EF(e:GZ):Operand→Option Value
 | .tmp t=>oC e t
 | .const v=>some v
 | .global g=>some (.pointer (some ⟨g,0,none⟩))
 | .func f=>some (.func (.func f) #[] #[])
theorem Tv: ∀{e:GZ} {t:Nat} {v:Value},oC e t=some v→lk e t=v
 |[],_,_,h=>nomatch h
 |(d,u)::e,t,v,h=>by
  show(bif Nat.beq d t then u else lk e t)=v;have h':(bif Nat.beq d t then some u else oC e t)=some v:=h;cases hb:Nat.beq d t with
  |true=>rw[hb] at h';exact Option.some.inj h'
  |false=>rw[hb] at h';exact Tv h'
theorem CY{x:Operand}(h:EF e x=some v):ev e x=v:=by
 cases x with
 |tmp t=>exact Tv h
 |const u=>exact Option.some.inj h
 |global g=>exact Option.some.inj h
 |func f=>exact Option.some.inj h
section
variable{lo:Nat→Bool}
theorem FB(ho:Aq[i]?=some o)(hef:ef i=false)(hw:BA Aq o e=true)(hq: ∀w,S w→(execOp (ev e) o).run Tryz.prog w= .ok (.value v) w)(h:X Tryz.prog Aq lo ef K r S (bif lo i then(i,v)::U else U) (Dz o.dst v e)):X Tryz.prog Aq lo ef K (i::r) S U e:=by
 refine⟨o,ho,?_⟩;rw[hef];refine⟨v,.inl ⟨hw,fun w hS=>?_⟩,h⟩;unfold Pj;rw[hq w hS];exact⟨rfl,hS⟩
theorem Cg(G7:(Aq[i]?,ef i,BA Aq o e)=(some o,false,false))(h:X Tryz.prog Aq lo ef K r S (bif lo i then(i,undef)::U else U) (Dz o.dst undef e)):X Tryz.prog Aq lo ef K (i::r) S U e:=by
 obtain⟨ho,hef,hw⟩:=TL G7;refine⟨o,ho,?_⟩;rw[hef];exact⟨undef,.inr ⟨hw,rfl⟩,h⟩
variable{d:Option Nat}{gd:Option (Nat×Bool)}{x:Operand}
theorem NC(G7:(Aq[i]?,(ef i,BA Aq ⟨d,.move x,ty,ps,af,gd⟩ e),EF e x)=(some ⟨d,.move x,ty,ps,af,gd⟩,(false,true),some v))(h:X Tryz.prog Aq lo ef K r S (bif lo i then(i,v)::U else U) (Dz d v e)):X Tryz.prog Aq lo ef K (i::r) S U e:=have⟨ho,Dy,hx⟩:=TL G7;have⟨hef,hw⟩:=Fb Dy;
 FB ho hef hw (fun w _=>by rw[←CY hx];rfl) h
theorem xas(G7:(Aq[i]?,(ef i,BA Aq ⟨d,.assign x,ty,ps,af,gd⟩ e),EF e x)=(some ⟨d,.assign x,ty,ps,af,gd⟩,(false,true),some v))(h:X Tryz.prog Aq lo ef K r S (bif lo i then(i,v)::U else U) (Dz d v e)):X Tryz.prog Aq lo ef K (i::r) S U e:=have⟨ho,Dy,hx⟩:=TL G7;have⟨hef,hw⟩:=Fb Dy;
 FB ho hef hw (fun w _=>by rw[←CY hx];rfl) h
theorem xnc{a:Addr}(G7:(Aq[i]?,(ef i,BA Aq ⟨d,.nilCheck x,ty,ps,af,gd⟩ e),EF e x)=(some ⟨d,.nilCheck x,ty,ps,af,gd⟩,(false,true),some (.pointer (some a))))(h:X Tryz.prog Aq lo ef K r S (bif lo i then(i,.pointer (some a))::U else U) (Dz d (.pointer (some a)) e)):X Tryz.prog Aq lo ef K (i::r) S U e:=have⟨ho,Dy,hx⟩:=TL G7;have⟨hef,hw⟩:=Fb Dy;
 FB ho hef hw (fun w _=>by simp only[execOp,CY hx];rfl) h
end
noncomputable def one (t:Nat):Bool:=
 match Tryz.prog.underlying t,Tryz.prog.info? t with
 |some (.struct _),_=>false
 |some (.array _ _),_=>false
 |some _,some i=>i.size==1
 |_,_=>false
noncomputable def Bq (t n:Nat):Bool:=
 match Tryz.prog.underlying t,Tryz.prog.info? t with
 |some (.struct _),some i=>i.size==n
 |some (.array _ _),some i=>i.size==n
 |_,_=>false
noncomputable def Pm (s f off:Nat):Bool:=
 match Tryz.prog.underlying s with
 |some (.struct fs)=>match fs[f]? with
  |some x=>x.offset==off&&(match Tryz.prog.info? x.type with|some i=>i.size !=0|none=>false)
  |none=>false
 |_=>false
theorem Jg(h:one t=true)(w:World):(isAgg t).run Tryz.prog w= .ok false w∧(sizeOf t).run Tryz.prog w= .ok 1 w:=by
 unfold one at h;unfold isAgg sizeOf typeInfo underlying;split at h<;>first
  |cases h
  |(rename_i d i _ _ hu hi
    have hs:i.size=1:=by simpa using h
    cases d<;>simp_all [go_sem])
theorem Lr(h:Bq t n=true)(w:World):(isAgg t).run Tryz.prog w= .ok true w∧(sizeOf t).run Tryz.prog w= .ok n w:=by
 unfold Bq at h;unfold isAgg sizeOf typeInfo underlying;split at h<;>first
  |cases h
  |(rename_i hu hi
    have hs:=eq_of_beq h
    simp_all [go_sem])
theorem GM(h:one t=true){a:Addr}(hc:w.cell? a=some v):(loadVar t a).run Tryz.prog w= .ok v w:=by
 unfold loadVar;rw[Sem.run_bind,(Jg h w).1];simp[go_sem,hc]
theorem IK(h:Bq t n=true){off:Nat}(cs:List Value)(hn:cs.length=n)(hc: ∀j v,cs[j]?=some v→w.cell? ⟨b,off+j,none⟩=some v):(loadVar t ⟨b,off,none⟩).run Tryz.prog w= .ok (.agg cs.toArray) w:=by
 unfold loadVar;have hl:=run_loadCells_list (P:=Tryz.prog) (w:=w) ⟨b,off,none⟩ cs (fun j v hv=>by
  have:=hc j v hv;unfold Addr.add;split
  ·rename_i h0;subst h0;exact this
  exact this)
 rw[Sem.run_bind,(Lr h w).1];subst hn;unfold loadCells at hl;simp[go_sem,(Lr h w).2,hl]
def BL:Value→Bool
 | .agg _=>false
 | .tuple _=>false
 |_=>true
theorem vC(h:BL v=true):v.cells= #[v]:=by cases v<;>first|rfl|cases h
theorem VV{a:Addr}(hv:BL v=true)(hc:w.cell? a=some u)(hf:w.frozen? a=false):(store a v).run Tryz.prog w= .ok () (w.setCell a v):=by
 cases v<;>first|(simp[store,Sem.run,hc,hf];done)|exact nomatch hv
theorem PD(h:one t=true){a:Addr}(hv:BL v=true)(hc:w.cell? a=some u)(hf:w.frozen? a=false):(storeVar t a v).run Tryz.prog w= .ok () (w.setCell a v):=by
 unfold storeVar;rw[Sem.run_bind,(Jg h w).2];have ha:a.add 0=a:=rfl;have hs:=VV hv hc hf;have e1: ¬((#[v]:Array Value).size≠1):=by simp
 simp only[Result.andThen_ok,vC hv,e1,if_false];show(storeCells a [v]).run Tryz.prog w=_;unfold storeCells;rw[Sem.run_bind,ha,hs];rfl
def Jb:List Value→Nat→List Value→List Value
 |cs,_,[]=>cs
 |cs,o,v::vs=>Jb (NL cs o v) (o+1) vs
theorem YG.comp{f g:List Value→List Value}: ∀{H pp:List Bk},YG H b (fun cs=>g (f cs)) pp→ ∃H',YG H b f H'∧YG H' b g pp:=by
 intro H pp h;generalize hk:(fun cs=>g (f cs))=k at h;induction h with
 |z=>subst hk;exact⟨_,.z,.z⟩
 |s _ ih=>obtain⟨H',h1,h2⟩:=ih hk;exact⟨_,.s h1,.s h2⟩
theorem OY: ∀(cs:List Value) (o:Nat) (v:Value),(NL cs o v).length=cs.length
 |[],_,_=>rfl
 |_::_,0,_=>rfl
 |_::cs,o+1,v=>by simp[NL,OY cs o v]
theorem vF: ∀(cs:List Value) (o:Nat),o<cs.length→ ∃v,Qb cs o=some v
 |[],_,h=>by simp at h
 |c::_,0,_=>⟨c,rfl⟩
 |_::cs,o+1,h=>vF cs o (by simpa using h)
section
variable{R:BB}
theorem zA{f:List Value→List Value}(h:YG H b f H'): ∃cs,In b cs H∧In b (f cs) H':=by
 induction h with
 |z=>exact⟨_,.z,.z⟩
 |s _ ih=>obtain⟨cs,h1,h2⟩:=ih;exact⟨cs,.s h1,.s h2⟩
theorem Sy.eC(h:Sy C w0 D0 l H R w){cs cs':List Value}(h1:In b cs H)(h2:In b cs' H):cs=cs':=by
 obtain⟨D,g1,-⟩:=h.NK;obtain⟨t,m1⟩:=h1.mem;obtain⟨t',m2⟩:=h2.mem;have e1:=(F6 g1 m1).1;have e2:=(F6 g1 m2).1;unfold Bk.is at e1 e2;rw[e1] at e2;have:=Option.some.inj e2;simp only[Obj.cells.injEq] at this;simpa using this.1
theorem Sy.vG: ∀(vs:List Value) (o:Nat) {w:World} {H H':List Bk} {b:Nat} {cs:List Value},Sy C w0 D0 l H R w→YG H b (fun cs=>Jb cs o vs) H'→In b cs H→o+vs.length≤cs.length→(∀v∈vs,BL v=true)→
  ∃w',(storeCells ⟨b,0,none⟩ vs o).run Tryz.prog w= .ok () w'∧Sy C w0 D0 l H' R w'
 |[],o,w,H,H',b,cs,h,hu,hi,hlen,hv=>by
  refine⟨w,rfl,?_⟩;have:H'=H:=by
   clear h hi hlen hv;generalize hk:(fun cs=>Jb cs o [])=k at hu;induction hu with
   |z=>subst hk;rfl
   |s _ ih=>rw[ih hk]
  rw[this];exact h
 |v::vs,o,w,H,H',b,cs,h,hu,hi,hlen,hv=>by
  obtain⟨H1,hu1,hu2⟩:=YG.comp (f:=fun cs=>NL cs o v) (g:=fun cs=>Jb cs (o+1) vs) hu;obtain⟨cs1,h1,h2⟩:=zA hu1;have:=h.eC hi h1;subst this;simp only[List.length_cons] at hlen;obtain⟨u,hu'⟩:=vF cs o (by omega);obtain⟨c1,c2⟩:=h.cell hi hu';have hs:=VV (hv v (by simp)) c1 c2;obtain⟨w',g1,g2⟩:=Sy.vG vs (o+1) (h.set hu1) hu2 h2 (by rw[OY];omega) (fun x hx=>hv x (by simp[hx]));refine⟨w',?_,g2⟩;have ha:(⟨b,0,none⟩:Addr).add o=⟨b,o,none⟩:=by
   unfold Addr.add;split
   ·rename_i h0;rw[h0]
   simp
  unfold storeCells;rw[Sem.run_bind,ha,hs];exact g1
theorem J7(b o:Nat): ∀(vs:List Value) (k:Nat),storeCells ⟨b,o,none⟩ vs k=storeCells ⟨b,0,none⟩ vs (o+k)
 |[],_=>rfl
 |v::vs,k=>by
  unfold storeCells;have:(⟨b,o,none⟩:Addr).add k=(⟨b,0,none⟩:Addr).add (o+k):=by
   unfold Addr.add;by_cases h:k=0
   ·subst h;by_cases h':o=0
    ·subst h';rfl
    rw[if_pos rfl,if_neg (by omega)];simp
   rw[if_neg h,if_neg (by omega)];simp
  rw[this,J7 b o vs (k+1)];rfl
end
theorem N8{m:Sem Value}(h:execOp ρ o=m>>=fun v=>pure (.value v))(hm:m.run Tryz.prog w= .ok v w'):(execOp ρ o).run Tryz.prog w= .ok (.value v) w':=by
 rw[h,Sem.run_bind,hm];rfl
theorem uW{m:Sem Unit}(h:execOp ρ o=m>>=fun _=>pure .skip)(hm:m.run Tryz.prog w= .ok () w'):(execOp ρ o).run Tryz.prog w= .ok .skip w':=by
 rw[h,Sem.run_bind,hm];rfl
theorem N9{K:Value→World→Prop}(h:(execOp ρ o).run Tryz.prog w= .ok (.value v) w')(hk:K v w'):Pj Tryz.prog o ρ w K:=by
 unfold Pj;rw[h];exact hk
theorem UD{K:Value→World→Prop}(h:(execOp ρ o).run Tryz.prog w= .ok .skip w')(hk:K undef w'):Pj Tryz.prog o ρ w K:=by
 unfold Pj;rw[h];exact hk
def Eh(Aq:Array Oper)(j:Nat)(U:List (Nat×Value))(S:World→Prop)(e:GZ):Prop:= ∀x∈U,desc Aq Aq.size x.1 j=false→ ∃ox,Aq[x.1]?=some ox∧YE Tryz.prog Aq S ox x.2 e
theorem Aw:Eh Aq j [] S e:=fun _ h _=>nomatch h
theorem Aj(hd:desc Aq Aq.size i j=true)(h:Eh Aq j U S e):Eh Aq j ((i,v)::U) S e:=fun y hy hn=>by
 rcases List.mem_cons.1 hy with rfl|hy
 ·rw[hd] at hn;cases hn
 exact h y hy hn
theorem Bv{d:Option Nat}{x:Operand}(G7:(Aq[i]?,EF e x)=(some ⟨d,.move x,ty,ps,af,none⟩,some v))(h:Eh Aq j U S e):Eh Aq j ((i,v)::U) S e:=have⟨ho,hx⟩:=nH G7;fun y hy hd=>by
 rcases List.mem_cons.1 hy with rfl|hy
 ·refine⟨_,ho,.inl ⟨rfl,fun w hw=>?_⟩⟩;show Pj Tryz.prog _ (ev e) w _;unfold Pj;simp only[execOp,pure,Sem.run];exact⟨CY hx,hw⟩
 exact h y hy hd
section
variable{R:BB}
variable{lo:Nat→Bool}{d:Option Nat}{gd:Option (Nat×Bool)}{x:Operand}
theorem FH{K':Value→World→Prop}(ho:Aq[i]?=some o)(hef:ef i=true)(hw:BA Aq o e=true)(h: ∀w,S w→Pj Tryz.prog o (ev e) w K')
  (hk: ∀v w',K' v w'→ ∃S':World→Prop,S' w'∧Eh Aq i U S' e∧X Tryz.prog Aq lo ef K r S' U (Dz o.dst v e)):X Tryz.prog Aq lo ef K (i::r) S U e:=by
 refine⟨o,ho,?_⟩;rw[hef];exact⟨hw,fun w hS=>nU (h w hS) hk⟩
theorem JY{off:Nat}{cs:List Value}(G7:(Aq[i]?,(ef i,BA Aq ⟨d,.load t x,ty,ps,af,gd⟩ e),EF e x)=(some ⟨d,.load t x,ty,ps,af,gd⟩,(false,true),some (.pointer (some ⟨b,off,none⟩))))(h1:one t=true)(hi:In b cs H)(hv:Qb cs off=some v)
  (h:X Tryz.prog Aq lo ef K r (Sy C w0 D0 l H R) (bif lo i then(i,v)::U else U) (Dz d v e)):X Tryz.prog Aq lo ef K (i::r) (Sy C w0 D0 l H R) U e:=have⟨ho,Dy,hx⟩:=TL G7;have⟨hef,hw⟩:=Fb Dy;
 FB ho hef hw (fun w hS=>by
  exact N8 (m:=Instr.loadAt t (ev e x)) rfl (by rw[CY hx];exact GM h1 (hS.cell hi hv).1)) h
def OQ(cs:List Value)(off n:Nat):List Value:=(cs.drop off).take n
theorem qx{off:Nat}{cs:List Value}(G7:(Aq[i]?,(ef i,BA Aq ⟨d,.load t x,ty,ps,af,gd⟩ e),EF e x)=(some ⟨d,.load t x,ty,ps,af,gd⟩,(false,true),some (.pointer (some ⟨b,off,none⟩))))(h1:Bq t n=true)(hi:In b cs H)(hn:(OQ cs off n).length=n)
  (h:X Tryz.prog Aq lo ef K r (Sy C w0 D0 l H R) (bif lo i then(i,.agg (OQ cs off n).toArray)::U else U) (Dz d (.agg (OQ cs off n).toArray) e)):X Tryz.prog Aq lo ef K (i::r) (Sy C w0 D0 l H R) U e:=have⟨ho,Dy,hx⟩:=TL G7;have⟨hef,hw⟩:=Fb Dy;
 FB ho hef hw (fun w hS=>by
  have:=IK h1 (w:=w) (b:=b) (off:=off) (OQ cs off n) hn (fun j v hj=>by
   refine(hS.cell hi ?_).1;unfold OQ at hj;rw[List.getElem?_take] at hj;split at hj
   ·rw[FO,←hj,List.getElem?_drop]
   cases hj)
  exact N8 (m:=Instr.loadAt t (ev e x)) rfl (by rw[CY hx];exact this)) h
theorem dH{s off k:Nat}(hf:Pm s f k=true)(w:World):(Instr.fieldAt s (.pointer (some ⟨b,off,none⟩)) f).run Tryz.prog w= .ok (.pointer (some ⟨b,off+k,none⟩)) w:=by
 unfold Pm at hf;split at hf
 ·rename_i fs hu;split at hf
  ·rename_i g hg;simp only[Bool.and_eq_true,beq_iff_eq] at hf;obtain⟨h1,h2⟩:=hf;split at h2
   ·rename_i inf hin;have h3:inf.size≠0:=by simpa using h2
    have ha:(⟨b,off,none⟩:Addr).add g.offset=⟨b,off+k,none⟩:=by
     subst h1;unfold Addr.add;split
     ·rename_i h0;simp[h0]
     rfl
    unfold Instr.fieldAt fieldPlace sizeOf typeInfo underlying;simp[go_sem,hu,hg,hin,h3,ha,Instr.sureAddr]
   cases h2
  cases hf
 cases hf
theorem uG{s k off:Nat}(G7:(Aq[i]?,(ef i,BA Aq ⟨d,.fieldAddr s x f,ty,ps,af,gd⟩ e),EF e x)=(some ⟨d,.fieldAddr s x f,ty,ps,af,gd⟩,(false,true),some (.pointer (some ⟨b,off,none⟩))))(hf:Pm s f k=true)
  (h:X Tryz.prog Aq lo ef K r S (bif lo i then(i,.pointer (some ⟨b,off+k,none⟩))::U else U) (Dz d (.pointer (some ⟨b,off+k,none⟩)) e)):X Tryz.prog Aq lo ef K (i::r) S U e:=have⟨ho,Dy,hx⟩:=TL G7;have⟨hef,hw⟩:=Fb Dy;
 FB ho hef hw (fun w hS=>by
  exact N8 (m:=Instr.fieldAt s (ev e x) f) rfl (by rw[CY hx];exact dH hf w)) h
theorem KQ{off:Nat}{cs:List Value}(G7:(Aq[i]?,ef i,EF e x,EF e y)=(some ⟨none,.store t x y,ty,ps,af,none⟩,true,some (.pointer (some ⟨b,off,none⟩)),some v))(h1:one t=true)(hv:BL v=true)(hi:In b cs H)(hv0:Qb cs off=some u)
  (hu:YG H b (fun cs=>NL cs off v) H') (hp:Eh Aq i U (Sy C w0 D0 l H' R) e) (h:X Tryz.prog Aq lo ef K r (Sy C w0 D0 l H' R) U e):X Tryz.prog Aq lo ef K (i::r) (Sy C w0 D0 l H R) U e:=have⟨ho,hef,hx,hy⟩:=MR G7;
 FH (K':=fun _ w'=>Sy C w0 D0 l H' R w') ho hef rfl (fun w hS=>by
  obtain⟨c1,c2⟩:=hS.cell hi hv0;exact UD (uW (m:=Instr.storeAt t (ev e x) (ev e y)) rfl (by rw[CY hx,CY hy];exact PD h1 hv c1 c2)) (hS.set hu)) (fun _ w' hk=>⟨_,hk,hp,h⟩)
theorem H9{off:Nat}{cs:List Value}(G7:(Aq[i]?,ef i,EF e x,EF e y)=(some ⟨none,.store t x y,ty,ps,af,none⟩,true,some (.pointer (some ⟨b,off,none⟩)),some (.agg vs.toArray)))(h1:Bq t n=true)(hn:vs.length=n)(hv:vs.all BL=true)(hi:In b cs H)(hlen:off+n≤cs.length)
  (hu:YG H b (fun cs=>Jb cs off vs) H') (hp:Eh Aq i U (Sy C w0 D0 l H' R) e) (h:X Tryz.prog Aq lo ef K r (Sy C w0 D0 l H' R) U e):X Tryz.prog Aq lo ef K (i::r) (Sy C w0 D0 l H R) U e:=have⟨ho,hef,hx,hy⟩:=MR G7;
 FH (K':=fun _ w'=>Sy C w0 D0 l H' R w') ho hef rfl (fun w hS=>by
  obtain⟨w',g1,g2⟩:=hS.vG vs off hu hi (by omega) (fun v hm=>List.all_eq_true.1 hv v hm);have g3:(storeVar t ⟨b,off,none⟩ (.agg vs.toArray)).run Tryz.prog w= .ok () w':=by
   unfold storeVar;rw[Sem.run_bind,(Lr h1 w).2];have:(Value.agg vs.toArray).cells=vs.toArray:=rfl;subst hn;simp only[Result.andThen_ok,this,List.size_toArray,ne_eq,not_true_eq_false,if_false];show(storeCells ⟨b,off,none⟩ vs 0).run Tryz.prog w=_;rw[J7];exact g1
  exact UD (uW (m:=Instr.storeAt t (ev e x) (ev e y)) rfl (by rw[CY hx,CY hy];exact g3)) g2) (fun _ w' hk=>⟨_,hk,hp,h⟩)
theorem F7{cs:List Value}(G7:(Aq[i]?,ef i,EF e x,v.cells)=(some ⟨d,.box t x,ty,ps,af,none⟩,true,some v,cs.toArray))
  (hp: ∀b,Eh Aq i U (Sy C w0 D0 l (⟨b,t,cs⟩::H) R) e) (h: ∀b,X Tryz.prog Aq lo ef K r (Sy C w0 D0 l (⟨b,t,cs⟩::H) R) U (Dz d (.pointer (some ⟨b,0,none⟩)) e)):X Tryz.prog Aq lo ef K (i::r) (Sy C w0 D0 l H R) U e:=have⟨ho,hef,hx,hcs⟩:=MR G7;
 FH (K':=fun v w'=> ∃b,v= .pointer (some ⟨b,0,none⟩)∧Sy C w0 D0 l (⟨b,t,cs⟩::H) R w') ho hef rfl (fun w hS=>by
  refine N9 (N8 (m:=Instr.box t (ev e x)) rfl (w':=w.alloc (.cells cs.toArray t)) (v:= .pointer (some ⟨w.heap.size,0,none⟩)) ?_) ⟨_,rfl,hS.alloc t cs⟩;rw[CY hx];show Sem.run Tryz.prog (newVar t v>>=_) w=_;unfold newVar newRow;rw[hcs];rfl) (fun v w' ⟨b,hb,hk⟩=>⟨_,hk,hp b,by rw[hb];exact h b⟩)
theorem YK{d:Option Nat}{g:Option (Nat×Bool)}:execOp ρ ⟨d,.alloc t,ty,ps,af,g⟩=(Instr.alloc t true (.tuple #[])>>=fun v=>pure (.value v)):=rfl
noncomputable def LU (t:Nat):Option (List Value):=((Tryz.prog.info? t).bind (·.zero)).map (·.cells.toList)
theorem dI{cs:List Value}(hz:LU t=some cs)(w:World):(Instr.alloc t true (.tuple #[])).run Tryz.prog w= .ok (.pointer (some ⟨w.heap.size,0,none⟩)) (w.alloc (.cells cs.toArray t)):=by
 unfold LU at hz;cases hi:Tryz.prog.info? t with
 |none=>rw[hi] at hz;cases hz
 |some inf=>
  rw[hi] at hz;cases hz0:inf.zero with
  |none=>simp[hz0] at hz
  |some zv=>
   have hcs:zv.cells=cs.toArray:=by
    simp[hz0] at hz;rw[←hz]
   have h1:(zeroValue t).run Tryz.prog w= .ok zv w:=by
    unfold zeroValue typeInfo;simp[go_sem,hi,hz0]
   unfold Instr.alloc;rw[Sem.run_bind,h1];show Sem.run Tryz.prog (newVar t zv>>=_) w=_;unfold newVar newRow;rw[hcs];rfl
theorem Hg{cs:List Value}(G7:(Aq[i]?,ef i)=(some ⟨d,.alloc t,ty,ps,af,none⟩,true))(hz:LU t=some cs)
  (hp: ∀b,Eh Aq i U (Sy C w0 D0 l (⟨b,t,cs⟩::H) R) e) (h: ∀b,X Tryz.prog Aq lo ef K r (Sy C w0 D0 l (⟨b,t,cs⟩::H) R) U (Dz d (.pointer (some ⟨b,0,none⟩)) e)):X Tryz.prog Aq lo ef K (i::r) (Sy C w0 D0 l H R) U e:=have⟨ho,hef⟩:=nH G7;
 FH (K':=fun v w'=> ∃b,v= .pointer (some ⟨b,0,none⟩)∧Sy C w0 D0 l (⟨b,t,cs⟩::H) R w') ho hef rfl (fun w hS=>by
  have h1:=dI hz w;have h2:(execOp (ev e) ⟨d,.alloc t,ty,ps,af,none⟩).run Tryz.prog w= .ok (.value (.pointer (some ⟨w.heap.size,0,none⟩))) (w.alloc (.cells cs.toArray t)):=N8 YK h1;have h3: ∃b:Nat,(Value.pointer (some ⟨w.heap.size,0,none⟩)=Value.pointer (some ⟨b,0,none⟩))∧Sy C w0 D0 l (⟨b,t,cs⟩::H) R (w.alloc (.cells cs.toArray t)):=⟨w.heap.size,rfl,hS.alloc t cs⟩;unfold Pj;rw[h2];exact h3) (fun v w' ⟨b,hb,hk⟩=>⟨_,hk,hp b,by rw[hb];exact h b⟩)
end
def GV(e:GZ):List Operand→Option (List Value)
 |[]=>some []
 |x::l=>match EF e x,GV e l with
  |some v,some vs=>some (v::vs)
  |_,_=>none
theorem Ck{e:GZ}: ∀{l:List Operand} {vs:List Value},GV e l=some vs→l.map (ev e)=vs
 |[],vs,h=>by cases h;rfl
 |x::l,vs,h=>by
  unfold GV at h;split at h
  ·rename_i v us h1 h2;cases h;simp[CY h1,Ck h2]
  cases h
theorem OZ(h:GV e a.toList=some vs):a.map (ev e)=vs.toArray:=by
 cases a with
 |mk l=>
  rw[←Ck h];simp
def FC:BinOp→Int→Int→Int
 | .add,a,b=>a+b
 | .sub,a,b=>a-b
 |_,a,b=>a*b
def dJ:BinOp→Bool
 | .add=>true
 | .sub=>true
 | .mul=>true
 |_=>false
def TR:BinOp→Int→Int→Bool
 | .eql,a,b=>a==b
 | .neq,a,b=>a !=b
 | .lss,a,b=>decide (a<b)
 | .leq,a,b=>decide (a≤b)
 | .gtr,a,b=>decide (a>b)
 |_,a,b=>decide (a≥b)
def zB:BinOp→Bool
 | .eql=>true
 | .neq=>true
 | .lss=>true
 | .leq=>true
 | .gtr=>true
 | .geq=>true
 |_=>false
noncomputable def Ec (t:Nat) (p:TypeDesc→Bool):Bool:=match Tryz.prog.underlying t with
 |some d=>p d
 |none=>false
def YL:TypeDesc→Bool
 | .pointer _=>true
 |_=>false
def aU:TypeDesc→Bool
 | .func _ _ _=>true
 |_=>false
def Qp(k:IntKind):TypeDesc→Bool
 | .int k'=>k==k'
 |_=>false
def JU:TypeDesc→Bool
 | .slice _=>true
 |_=>false
def MZ:TypeDesc→Bool
 | .interface _=>false
 |_=>true
noncomputable def Cm (g:Nat):Bool:=match Tryz.prog.funcs[g]? with
 | some fn => fn.name != "runtime.NumGoroutine" && fn.body.isSome
 |none=>false
theorem MP{p:TypeDesc→Bool}(h:Ec t p=true)(w:World): ∃d,p d=true∧(underlying t).run Tryz.prog w= .ok d w∧Tryz.prog.underlying t=some d:=by
 unfold Ec at h;split at h
 ·rename_i d hd;exact⟨d,h,by unfold underlying;simp[go_sem,hd],hd⟩
 cases h
theorem Qq{g:Nat}(h:Cm g=true)(args:Array Value)(w:World):(callFunc g args).run Tryz.prog w= .ok (.enter g args) w:=by
 unfold Cm at h;split at h
 ·rename_i fn hf;simp only[Bool.and_eq_true,bne_iff_ne] at h;obtain⟨h1,h2⟩:=h;obtain⟨c,hc⟩:=Option.isSome_iff_exists.1 h2;unfold callFunc;simp[go_sem,hf,h1,hc]
 cases h
section
variable{R:BB}
variable{lo:Nat→Bool}{d:Option Nat}{gd:Option (Nat×Bool)}{x:Operand}
theorem xmf{fn:Fn}{b:Array Operand}{us:List Value}(G7:(Aq[i]?,(ef i,BA Aq ⟨d,.makeFunc fn a b,ty,ps,af,gd⟩ e),GV e a.toList,GV e b.toList)=(some ⟨d,.makeFunc fn a b,ty,ps,af,gd⟩,(false,true),some vs,some us))
  (h:X Tryz.prog Aq lo ef K r S (bif lo i then(i,.func fn vs.toArray us.toArray)::U else U) (Dz d (.func fn vs.toArray us.toArray) e)):X Tryz.prog Aq lo ef K (i::r) S U e:=have⟨ho,Dy,ha,hb⟩:=MR G7;have⟨hef,hw⟩:=Fb Dy;
 FB ho hef hw (fun w _=>by
  refine N8 (m:=Instr.makeFunc fn (a.map (ev e)) (b.map (ev e))) rfl ?_;rw[OZ ha,OZ hb];rfl) h
theorem zC{a b:Int}(hop:dJ op=true)(w:World):(binOp op t (.int k a) (.int k b)).run Tryz.prog w= .ok (.int k (k.wrap (FC op a b))) w:=by
 cases op<;>first|(simp[binOp,Op.intArith,FC,go_sem];done)|(simp[dJ] at hop;done)
theorem MY{a b:Int}(hop:zB op=true)(w:World):(binOp op t (.int k a) (.int k b)).run Tryz.prog w= .ok (.bool (TR op a b)) w:=by
 cases op<;>first|(simp[binOp,Op.intCmp,TR,go_sem];done)|(simp[zB] at hop;done)
theorem Iy{a b:Int}(w:World):(eqGuard op t x y (.int k a) (.int k b)).run Tryz.prog w= .ok () w:=by
 unfold eqGuard;cases op<;>simp[go_sem]
theorem pr{a b:Int}(ho:Aq[i]?=some ⟨d,.binOp op t x y t',ty,ps,af,gd⟩)(Dy:(ef i,BA Aq ⟨d,.binOp op t x y t',ty,ps,af,gd⟩ e)=(false,true))(hx:EF e x=some (.int k a))(hy:EF e y=some (.int k b))(hop:dJ op=true)
  (h:X Tryz.prog Aq lo ef K r S (bif lo i then(i,.int k (k.wrap (FC op a b)))::U else U) (Dz d (.int k (k.wrap (FC op a b))) e)):X Tryz.prog Aq lo ef K (i::r) S U e:=have⟨hef,hw⟩:=Fb Dy;
 FB ho hef hw (fun w _=>by
  refine N8 (m:=do eqGuard op t x y (ev e x) (ev e y);binOp op t (ev e x) (ev e y)) rfl ?_;rw[CY hx,CY hy,Sem.run_bind,Iy];exact zC hop w) h
theorem BU{a b c:Int}(G7:(Aq[i]?,(ef i,BA Aq ⟨d,.binOp op t x y t',ty,ps,af,gd⟩ e),EF e x,EF e y,dJ op)=(some ⟨d,.binOp op t x y t',ty,ps,af,gd⟩,(false,true),some (.int k a),some (.int k b),true))(hc:k.wrap (FC op a b)=c)
  (h:X Tryz.prog Aq lo ef K r S (bif lo i then(i,.int k c)::U else U) (Dz d (.int k c) e)):X Tryz.prog Aq lo ef K (i::r) S U e:=by
 obtain⟨ho,Dy,hx,hy,hop⟩:=tW G7;have⟨hef,hw⟩:=Fb Dy;subst hc;exact pr ho Dy hx hy hop h
theorem Du{a b:Int}{c:Bool}(G7:(Aq[i]?,(ef i,BA Aq ⟨d,.binOp op t x y t',ty,ps,af,gd⟩ e),EF e x,EF e y,zB op)=(some ⟨d,.binOp op t x y t',ty,ps,af,gd⟩,(false,true),some (.int k a),some (.int k b),true))(hc:TR op a b=c)
  (h:X Tryz.prog Aq lo ef K r S (bif lo i then(i,.bool c)::U else U) (Dz d (.bool c) e)):X Tryz.prog Aq lo ef K (i::r) S U e:=have⟨ho,Dy,hx,hy,hop⟩:=tW G7;have⟨hef,hw⟩:=Fb Dy;
 FB ho hef hw (fun w _=>by
  refine N8 (m:=do eqGuard op t x y (ev e x) (ev e y);binOp op t (ev e x) (ev e y)) rfl ?_;rw[CY hx,CY hy,Sem.run_bind,Iy,←hc];exact MY hop w) h
theorem RS{a b:Value}{c:Bool}(ht:(Ec t YL=true∧b= .pointer none∧((∃p,a= .pointer (some p)∧c=false)∨(a= .pointer none∧c=true)))∨(Ec t aU=true∧b= .nilFunc∧((∃f p q,a= .func f p q∧c=false)∨(a= .nilFunc∧c=true))))(w:World):
  (Op.equal t a b).run Tryz.prog w= .ok c w:=by
 rcases ht with⟨h,rfl,ht⟩|⟨h,rfl,ht⟩
 ·obtain⟨d,hd,hu,-⟩:=MP h w;cases d<;>first|(simp[YL] at hd;done)|skip
  unfold Op.equal Op.maxDepth Op.equalIn;rw[Sem.run_bind,hu];rcases ht with⟨p,rfl,rfl⟩|⟨rfl,rfl⟩<;>rfl
 obtain⟨d,hd,hu,-⟩:=MP h w;cases d<;>first|(simp[aU] at hd;done)|skip
 unfold Op.equal Op.maxDepth Op.equalIn;rw[Sem.run_bind,hu];rcases ht with⟨f,p,q,rfl,rfl⟩|⟨rfl,rfl⟩<;>rfl
theorem YM:execOp ρ ⟨d,.binOp op t x y t',ty,ps,af,gd⟩=((do eqGuard op t x y (ρ x) (ρ y);binOp op t (ρ x) (ρ y))>>=fun v=>pure (.value v)):=rfl
theorem M0{p:Addr}(ht:Ec t YL=true)(w:World):(binOp .eql t (.pointer (some p)) (.pointer none)).run Tryz.prog w= .ok (.bool false) w:=by
 have:=RS (.inl ⟨ht,rfl,.inl ⟨p,rfl,rfl⟩⟩) w;simp only[binOp,Sem.run_bind,this,Result.andThen_ok,Sem.run_pure]
theorem zD{f:Fn}{p q:Array Value}(ht:Ec t aU=true)(w:World):(binOp .eql t (.func f p q) .nilFunc).run Tryz.prog w= .ok (.bool false) w:=by
 have:=RS (.inr ⟨ht,rfl,.inl ⟨f,p,q,rfl,rfl⟩⟩) w;simp only[binOp,Sem.run_bind,this,Result.andThen_ok,Sem.run_pure]
theorem M1(ht:Ec t aU=true)(w:World):(binOp .eql t .nilFunc .nilFunc).run Tryz.prog w= .ok (.bool true) w:=by
 have:=RS (.inr ⟨ht,rfl,.inr ⟨rfl,rfl⟩⟩) w;simp only[binOp,Sem.run_bind,this,Result.andThen_ok,Sem.run_pure]
theorem vH{a b:Value}(h:match a,b with| .nilIface,.nilIface=>False| .agg _,.agg _=>False|_,_=>True)(w:World):(eqGuard .eql t x y a b).run Tryz.prog w= .ok () w:=by
 unfold eqGuard;cases a<;>first|(simp[go_sem];done)|(cases b<;>first|(simp[go_sem];done)|exact h.elim)
theorem eD{a b:Value}{c:Bool}(ho:Aq[i]?=some ⟨d,.binOp .eql t x y t',ty,ps,af,gd⟩)(Dy:(ef i,BA Aq ⟨d,.binOp .eql t x y t',ty,ps,af,gd⟩ e)=(false,true))(hx:EF e x=some a)(hy:EF e y=some b)
  (hg: ∀w,(eqGuard .eql t x y a b).run Tryz.prog w= .ok () w) (hr: ∀w,(binOp .eql t a b).run Tryz.prog w= .ok (.bool c) w)
  (h:X Tryz.prog Aq lo ef K r S (bif lo i then(i,.bool c)::U else U) (Dz d (.bool c) e)):X Tryz.prog Aq lo ef K (i::r) S U e:=have⟨hef,hw⟩:=Fb Dy;
 FB ho hef hw (fun w _=>by
  rw[YM,Sem.run_bind,CY hx,CY hy,Sem.run_bind,hg w,Result.andThen_ok,hr w];rfl) h
theorem xnp{p:Addr}(G7:(Aq[i]?,(ef i,BA Aq ⟨d,.binOp .eql t x y t',ty,ps,af,gd⟩ e),EF e x,EF e y)=(some ⟨d,.binOp .eql t x y t',ty,ps,af,gd⟩,(false,true),some (.pointer (some p)),some (.pointer none)))(ht:Ec t YL=true)
  (h:X Tryz.prog Aq lo ef K r S (bif lo i then(i,.bool false)::U else U) (Dz d (.bool false) e)):X Tryz.prog Aq lo ef K (i::r) S U e:=have⟨ho,Dy,hx,hy⟩:=MR G7;have⟨hef,hw⟩:=Fb Dy;
 eD ho Dy hx hy (vH trivial) (M0 ht) h
theorem zF{f:Fn}{p q:Array Value}(ho:Aq[i]?=some ⟨d,.binOp .eql t x y t',ty,ps,af,gd⟩)(Dy:(ef i,BA Aq ⟨d,.binOp .eql t x y t',ty,ps,af,gd⟩ e)=(false,true))(hx:EF e x=some (.func f p q))(hy:EF e y=some .nilFunc)(ht:Ec t aU=true)
  (h:X Tryz.prog Aq lo ef K r S (bif lo i then(i,.bool false)::U else U) (Dz d (.bool false) e)):X Tryz.prog Aq lo ef K (i::r) S U e:=have⟨hef,hw⟩:=Fb Dy;
 eD ho Dy hx hy (vH trivial) (zD ht) h
theorem QO{b:Bool}(ho:Aq[i]?=some ⟨d,.unOp .not t x,ty,ps,af,gd⟩)(Dy:(ef i,BA Aq ⟨d,.unOp .not t x,ty,ps,af,gd⟩ e)=(false,true))(hx:EF e x=some (.bool b))
  (h:X Tryz.prog Aq lo ef K r S (bif lo i then(i,.bool (!b))::U else U) (Dz d (.bool (!b)) e)):X Tryz.prog Aq lo ef K (i::r) S U e:=have⟨hef,hw⟩:=Fb Dy;
 FB ho hef hw (fun w _=>N8 (m:=Op.unary .not (ev e x)) rfl (by rw[CY hx];rfl)) h
theorem Hz{b:Bool}(G7:(Aq[i]?,(ef i,BA Aq ⟨d,.pick z x y,ty,ps,af,gd⟩ e),EF e z,(if b then ev e x else ev e y))=(some ⟨d,.pick z x y,ty,ps,af,gd⟩,(false,true),some (.bool b),v))
  (h:X Tryz.prog Aq lo ef K r S (bif lo i then(i,v)::U else U) (Dz d v e)):X Tryz.prog Aq lo ef K (i::r) S U e:=have⟨ho,Dy,hz,hv⟩:=MR G7;have⟨hef,hw⟩:=Fb Dy;
 FB ho hef hw (fun w _=>by
  show Sem.run Tryz.prog (asBool (ev e z)>>=_) w=_;rw[CY hz,←hv];cases b<;>rfl) h
theorem kl{a:Int}(ho:Aq[i]?=some ⟨d,.convert t t' x,ty,ps,af,gd⟩)(Dy:(ef i,BA Aq ⟨d,.convert t t' x,ty,ps,af,gd⟩ e)=(false,true))(hx:EF e x=some (.int k a))(ht:Ec t' (Qp k')=true)(ht0:Ec t (fun _=>true)=true)
  (h:X Tryz.prog Aq lo ef K r S (bif lo i then(i,.int k' (k'.wrap a))::U else U) (Dz d (.int k' (k'.wrap a)) e)):X Tryz.prog Aq lo ef K (i::r) S U e:=have⟨hef,hw⟩:=Fb Dy;
 FB ho hef hw (fun w _=>by
  refine N8 (m:=convert t t' (ev e x)) rfl ?_;obtain⟨d,hd,hu,-⟩:=MP ht w;obtain⟨d0,-,hu0,-⟩:=MP ht0 w;rw[CY hx];unfold convert;rw[Sem.run_bind,hu0,Result.andThen_ok,Sem.run_bind,hu,Result.andThen_ok];cases d<;>first|(simp[Qp] at hd;done)|skip
  rename_i k2;have:k'=k2:=eq_of_beq hd;subst this;cases d0<;>rfl) h
theorem xex(G7:(Aq[i]?,(ef i,BA Aq ⟨d,.extract x j,ty,ps,af,gd⟩ e),EF e x,Qb vs j)=(some ⟨d,.extract x j,ty,ps,af,gd⟩,(false,true),some (.tuple vs.toArray),some v))
  (h:X Tryz.prog Aq lo ef K r S (bif lo i then(i,v)::U else U) (Dz d v e)):X Tryz.prog Aq lo ef K (i::r) S U e:=have⟨ho,Dy,hx,hv⟩:=MR G7;have⟨hef,hw⟩:=Fb Dy;
 FB ho hef hw (fun w _=>by
  refine N8 (m:=Instr.extract (ev e x) j) rfl ?_;rw[CY hx];rw[FO] at hv;unfold Instr.extract;simp[hv,go_sem]) h
theorem eE(ho:Aq[i]?=some ⟨d,.makeInterface t x,ty,ps,af,gd⟩)(Dy:(ef i,BA Aq ⟨d,.makeInterface t x,ty,ps,af,gd⟩ e)=(false,true))(hx:EF e x=some v)(ht:Ec t MZ=true)
  (h:X Tryz.prog Aq lo ef K r S (bif lo i then(i,.iface t v)::U else U) (Dz d (.iface t v) e)):X Tryz.prog Aq lo ef K (i::r) S U e:=have⟨hef,hw⟩:=Fb Dy;
 FB ho hef hw (fun w _=>by
  refine N8 (m:=Instr.makeInterface t (ev e x)) rfl ?_;obtain⟨d,hd,hu,-⟩:=MP ht w;rw[CY hx];unfold Instr.makeInterface;rw[Sem.run_bind,hu];cases d<;>first|rfl|(simp[MZ] at hd;done)) h
end
def Cv(C:Cx)(f:Nat)(args:List Value)(l:Dk)(R:BB)(v:Value)(l':Dk)(R':BB):Prop:=Ct C f args.toArray l R fun u m D w=>u=v∧m=l'∧R' D w
def Cn(C:Cx)(f:Nat)(args:List Value)(l:Dk)(R:BB)(l':Dk)(R':Nat→BB):Prop:=Ct C f args.toArray l R fun u m D w=> ∃q,u= .pointer (some ⟨q,0,none⟩)∧m=l'∧R' q D w
section
variable{R:BB}
theorem Sy.conv(h:Sy C w0 D0 l H R w)(hl:CV R')(hc: ∀D w,R D w→R' D w):Sy C w0 D0 l H R' w:=by
 obtain⟨D,h1,h2⟩:=h.NK;have hb: ∀(H:List Bk) (D:LV),Az H R D w→Az H R' D w:=by
  intro H;induction H with
  |nil=>exact fun D h=>hc D w h
  |cons x H ih=>exact fun D ⟨g1,D1,g2,g3,g4⟩=>⟨g1,D1,ih D1 g2,g3,g4⟩
 exact⟨h.OW,h.Kr,h.mem,hl,D,hb H D h1,h2⟩
theorem Sy.QG(h:Sy C w0 D0 l H R w)(hc:Cv C f args l R v l' R')(hl:CV R'):Calls Tryz.prog f args.toArray w fun e w'=>e= .returned v∧Sy C w0 D0 l' H R' w':=by
 refine(h.call hc (fun u m=>?_)).mono ?_
 ·intro D w w' ⟨h1,h2,h3⟩ hk;exact⟨h1,h2,hl D w w' h3 hk⟩
 rintro e w' ⟨u,rfl,m,⟨D,w'',rfl,rfl,-⟩,hS⟩;exact⟨rfl,hS.conv hl (fun D w h=>h.2.2)⟩
theorem Sy.dK{R':Nat→BB}(h:Sy C w0 D0 l H R w)(hc:Cn C f args l R l' R')(hl: ∀q,CV (R' q)):Calls Tryz.prog f args.toArray w fun e w'=> ∃q,e= .returned (.pointer (some ⟨q,0,none⟩))∧Sy C w0 D0 l' H (R' q) w':=by
 refine(h.call hc (fun u m=>?_)).mono ?_
 ·intro D w w' ⟨q,h1,h2,h3⟩ hk;exact⟨q,h1,h2,hl q D w w' h3 hk⟩
 rintro e w' ⟨u,rfl,m,⟨D,w'',q,rfl,rfl,-⟩,hS⟩;refine⟨q,rfl,hS.conv (hl q) ?_⟩;rintro D w ⟨q',h1,-,h3⟩;have:q'=q:=by simpa using h1.symm
 subst this;exact h3
theorem Sy.drop(h:Sy C w0 D0 l H R w):Sy C w0 D0 l H Cj w:=by
 obtain⟨D,h1,h2⟩:=h.NK;obtain⟨D',h3,h4⟩:=Eo h1;exact⟨h.OW,h.Kr,h.mem,Aa,D',h3,fun k hk=>h2 k (h4 k hk)⟩
theorem Cv.get(h: ∀w,E8 w C→Calls Tryz.prog f args.toArray w fun e w'=>e= .returned v∧w'=w):Cv C f args l R v l R:=fun w D ha hm hR=>
 (h w ha.map).mono fun e w' ⟨he,hw⟩=>by
  subst he hw;exact⟨v,l,D,rfl,hm,⟨rfl,rfl,hR⟩,KE.refl _ _,fun k hk=>⟨ha.lt k hk,.inl hk⟩⟩
theorem Cv.vI(hl:CV R)(h: ∀w,E8 w C→Calls Tryz.prog f args.toArray w fun e w'=>e= .returned v∧ ∃n,w'=w.drewN n):Cv C f args l R v l R:=fun w D ha hm hR=>
 (h w ha.map).mono fun e w' ⟨he,n,hw⟩=>by
  subst he hw;exact⟨v,l,D,rfl,hm.Kr (F:=fun _=>False) ⟨rfl,rfl,rfl,Nat.le_refl _,fun _ _ _=>rfl⟩ id id,⟨rfl,rfl,hl D w _ hR (fun _ _=>rfl)⟩,⟨rfl,rfl,rfl,Nat.le_refl _,fun _ _ _=>rfl⟩,fun k hk=>⟨ha.lt k hk,.inl hk⟩⟩
theorem Cv.mem(hl:CV R)(h: ∀w,Mem w C l→Calls Tryz.prog f args.toArray w fun e w'=>e= .returned v∧Mem w' C l'∧KE C.Us w w'):Cv C f args l R v l' R:=fun w D ha hm hR=>
 (h w hm).mono fun e w' ⟨he,hm',hc⟩=>by
  subst he;refine⟨v,l',D,rfl,hm',⟨rfl,rfl,hl D w _ hR (fun k hk=>hc.block k (ha.lt k hk) ?_)⟩,hc.mono (fun k hk=> .inr hk),fun k hk=>⟨?_,.inl hk⟩⟩
  ·rintro(rfl|rfl)
   ·exact ha.ns hk
   exact ha.ng hk
  have:=ha.lt k hk;have:=hc.size;omega
variable{lo:Nat→Bool}{d:Option Nat}{gd:Option (Nat×Bool)}{x:Operand}
theorem Co{f:Operand}{g:Nat}{first:List Value}(hf:EF e f=some (.func (.func g) first.toArray captured.toArray))(ha:GV e a.toList=some args)(hg:Cm g=true)(w:World):
  (execOp (ev e) ⟨d,.call ⟨.value f,a,LX⟩,ty,ps,af,gd⟩).run Tryz.prog w= .ok (.enter g (first++args++captured).toArray) w:=by
 show Sem.run Tryz.prog (resolve (ev e) ⟨.value f,a,LX⟩ ty>>=fun d=>invoke d.target d.args) w=_;have h1:resolve (ev e) ⟨.value f,a,LX⟩ ty=pure {target:= .fn (.func g) captured.toArray,args:=first.toArray++args.toArray}:=by
  unfold resolve;simp only[CY hf,OZ ha];rfl
 simp only[h1,Sem.run_bind,Sem.run_pure,Result.andThen_ok,invoke,Qq hg];simp
theorem Fe{f:Operand}{g:Nat}{first:List Value}{K:Value→World→Prop}(hf:EF e f=some (.func (.func g) first.toArray captured.toArray))(ha:GV e a.toList=some args)(hg:Cm g=true)
  (h:Calls Tryz.prog g (first++args++captured).toArray w fun e w'=> ∃v,e= .returned v∧K v w'):Pj Tryz.prog ⟨d,.call ⟨.value f,a,LX⟩,ty,ps,af,gd⟩ (ev e) w K:=by
 unfold Pj;rw[Co hf ha hg w];exact h
theorem UE(ho:Aq[i]?=some o)(hef:ef i=false)(hw:BA Aq o e=true)(hq: ∀w,S w→Pj Tryz.prog o (ev e) w fun u w'=>u=v∧S w')(h:X Tryz.prog Aq lo ef K r S (bif lo i then(i,v)::U else U) (Dz o.dst v e)):X Tryz.prog Aq lo ef K (i::r) S U e:=by
 refine⟨o,ho,?_⟩;rw[hef];exact⟨v,.inl ⟨hw,hq⟩,h⟩
theorem CB{f:Operand}{g:Nat}{first:List Value}(G7:(Aq[i]?,(ef i,BA Aq ⟨d,.call ⟨.value f,a,LX⟩,ty,ps,af,gd⟩ e),EF e f,GV e a.toList)=(some ⟨d,.call ⟨.value f,a,LX⟩,ty,ps,af,gd⟩,(false,true),some (.func (.func g) first.toArray captured.toArray),some args))(hg:Cm g=true)
  (hc:Cv C g (first++args++captured) l R v l R) (hl:CV R)
  (h:X Tryz.prog Aq lo ef K r (Sy C w0 D0 l H R) (bif lo i then(i,v)::U else U) (Dz d v e)):X Tryz.prog Aq lo ef K (i::r) (Sy C w0 D0 l H R) U e:=have⟨ho,Dy,hf,ha⟩:=MR G7;have⟨hef,hw⟩:=Fb Dy;
 UE ho hef hw (fun w hS=>Fe hf ha hg ((hS.QG hc hl).mono fun e w' ⟨h1,h2⟩=>⟨v,h1,rfl,h2⟩)) h
theorem Ls{f:Operand}{g:Nat}{first:List Value}(G7:(Aq[i]?,ef i,EF e f,GV e a.toList)=(some ⟨d,.call ⟨.value f,a,LX⟩,ty,ps,af,none⟩,true,some (.func (.func g) first.toArray captured.toArray),some args))(hg:Cm g=true)
  (hc:Cv C g (first++args++captured) l R v l' R') (hl:CV R') (hp:Eh Aq i U (Sy C w0 D0 l' H R') e)
  (h:X Tryz.prog Aq lo ef K r (Sy C w0 D0 l' H R') U (Dz d v e)):X Tryz.prog Aq lo ef K (i::r) (Sy C w0 D0 l H R) U e:=have⟨ho,hef,hf,ha⟩:=MR G7;
 FH (K':=fun u w'=>u=v∧Sy C w0 D0 l' H R' w') ho hef rfl (fun w hS=>Fe hf ha hg ((hS.QG hc hl).mono fun e w' ⟨h1,h2⟩=>⟨v,h1,rfl,h2⟩)) (fun u w' ⟨h1,h2⟩=>⟨_,h2,hp,by rw[h1];exact h⟩)
theorem UF{f:Operand}{g:Nat}{first:List Value}{R':Nat→BB}(G7:(Aq[i]?,ef i,EF e f,GV e a.toList)=(some ⟨d,.call ⟨.value f,a,LX⟩,ty,ps,af,none⟩,true,some (.func (.func g) first.toArray captured.toArray),some args))(hg:Cm g=true)
  (hc:Cn C g (first++args++captured) l Cj l' R') (hl: ∀q,CV (R' q)) (hp: ∀q,Eh Aq i U (Sy C w0 D0 l' H (R' q)) e)
  (h: ∀q,X Tryz.prog Aq lo ef K r (Sy C w0 D0 l' H (R' q)) U (Dz d (.pointer (some ⟨q,0,none⟩)) e)):X Tryz.prog Aq lo ef K (i::r) (Sy C w0 D0 l H R) U e:=have⟨ho,hef,hf,ha⟩:=MR G7;
 FH (K':=fun u w'=> ∃q,u= .pointer (some ⟨q,0,none⟩)∧Sy C w0 D0 l' H (R' q) w') ho hef rfl (fun w hS=>Fe hf ha hg ((hS.drop.dK hc hl).mono fun e w' ⟨q,h1,h2⟩=>⟨_,h1,q,rfl,h2⟩)) (fun u w' ⟨q,h1,h2⟩=>⟨_,h2,hp q,by rw[h1];exact h q⟩)
theorem X.nil(h:K S e):X Tryz.prog Aq lo ef K [] S U e:=h
end
noncomputable def Jv (t:Nat) (O9:List (Nat×Nat)):Bool:=
 match Tryz.prog.underlying t with
 |some (.struct fs)=>fs.toList.map (fun f=>(f.offset,((Tryz.prog.info? f.type).map (·.size)).getD 0))==O9&&fs.all (fun f=>(Tryz.prog.info? f.type).isSome)
 |_=>false
def Oa(O9:List (Nat×Nat)):List Value→List (Nat×Value)→List Value
 |zs,[]=>zs
 |zs,(i,v)::r=>Oa O9 (Jb zs (O9.getD i (0,0)).1 v.cells.toList) r
def JG(O9:List (Nat×Nat))(n:Nat):List (Nat×Value)→Bool
 |[]=>true
 |(i,v)::r=>(match O9[i]? with|some (off,sz)=>v.cells.size==sz&&decide (off+sz≤n)|none=>false)&&JG O9 n r
theorem Qr: ∀(vs cs:List Value) (o:Nat),(Jb cs o vs).length=cs.length
 |[],_,_=>rfl
 |v::vs,cs,o=>by
  show(Jb (NL cs o v) (o+1) vs).length=_;rw[Qr vs,OY]
theorem QZ: ∀(vs:List Value) (cs:List Value) (off k:Nat),((vs.zipIdx k).foldl (fun(cs:Array Value) (x:Value×Nat)=>cs.setIfInBounds (off+x.2) x.1) cs.toArray)=(Jb cs (off+k) vs).toArray
 |[],_,_,_=>rfl
 |v::vs,cs,off,k=>by
  simp only[List.zipIdx_cons,List.foldl_cons];have:(cs.toArray.setIfInBounds (off+k) v)=(NL cs (off+k) v).toArray:=by rw[OX];simp
  rw[this,QZ vs _ off (k+1)];rfl
theorem oD{O9:List (Nat×Nat)}{place:Nat→Option (Nat×Nat)}(hp: ∀i,place i=O9[i]?): ∀(pv:List (Nat×Value)) (zs:List Value),JG O9 zs.length pv=true→Instr.fill place zs.toArray pv=some (Oa O9 zs pv).toArray
 |[],_,_=>rfl
 |(i,v)::r,zs,h=>by
  unfold JG at h;rw[Bool.and_eq_true] at h;obtain⟨h1,h2⟩:=h;unfold Instr.fill;rw[hp i];split at h1
  ·rename_i off sz he;simp only[Bool.and_eq_true,beq_iff_eq,decide_eq_true_eq] at h1;obtain⟨h3,h4⟩:=h1;have hn: ¬((v.cells.size≠sz||decide (off+v.cells.size>zs.toArray.size))=true):=by
    simp[h3];omega
   simp only[he];rw[if_neg hn];have hf:v.cells.zipIdx.foldl (fun(cs:Array Value) (x:Value×Nat)=>cs.setIfInBounds (off+x.2) x.1) zs.toArray=(Jb zs off v.cells.toList).toArray:=by
    have:=QZ v.cells.toList zs off 0;rw[Nat.add_zero] at this;rw[←this];rw[←Array.foldl_toList];simp[Array.toList_zipIdx]
   have hf':(v.cells.zipIdx.foldl (fun cs (x:Value×Nat)=>match x with|(c,j)=>cs.setIfInBounds (off+j) c) zs.toArray)=(Jb zs off v.cells.toList).toArray:=hf;rw[hf',oD hp r _ (by rw[Qr];exact h2)];have:O9.getD i (0,0)=(off,sz):=by simp[List.getD,he]
   simp only[Oa,this]
  cases h1
def oG(e:GZ):List (Nat×Operand)→Option (List (Nat×Value))
 |[]=>some []
 |(i,x)::l=>match EF e x,oG e l with
  |some v,some vs=>some ((i,v)::vs)
  |_,_=>none
theorem RU{e:GZ}: ∀{l:List (Nat×Operand)} {vs:List (Nat×Value)},oG e l=some vs→l.map (fun(p:Nat×Operand)=>(p.1,ev e p.2))=vs
 |[],vs,h=>by cases h;rfl
 |(i,x)::l,vs,h=>by
  unfold oG at h;split at h
  ·rename_i v us h1 h2;cases h;simp[CY h1,RU h2]
  cases h
theorem dL{O9:List (Nat×Nat)}(hl:Jv t O9=true)(hz:LU t=some zs)(hok:JG O9 zs.length pv=true)(w:World):(Instr.build t pv.toArray).run Tryz.prog w= .ok (.agg (Oa O9 zs pv).toArray) w:=by
 unfold Jv at hl;split at hl
 ·rename_i fs hu;simp only[Bool.and_eq_true,beq_iff_eq] at hl;obtain⟨hl1,hl2⟩:=hl;have h1: ∃zv,(zeroValue t).run Tryz.prog w= .ok zv w∧zv.cells=zs.toArray:=by
   unfold LU at hz;cases hi:Tryz.prog.info? t with
   |none=>rw[hi] at hz;cases hz
   |some inf=>
    rw[hi] at hz;cases hz0:inf.zero with
    |none=>simp[hz0] at hz
    |some zv=>
     refine⟨zv,by unfold zeroValue typeInfo;simp[go_sem,hi,hz0],?_⟩;simp[hz0] at hz;rw[←hz]
  obtain⟨zv,hzv,hzc⟩:=h1;have h2:(underlying t).run Tryz.prog w= .ok (.struct fs) w:=by unfold underlying;simp[go_sem,hu]
  have h3: ∀f∈fs,(do pure (f.offset,←sizeOf f.type):Sem (Nat×Nat)).run Tryz.prog w= .ok (f.offset,((Tryz.prog.info? f.type).map (·.size)).getD 0) w:=fun f hf=>by
   have:=Array.all_eq_true_iff_forall_mem.1 hl2 f hf;obtain⟨inf,hi⟩:=Option.isSome_iff_exists.1 this;unfold sizeOf typeInfo;simp[go_sem,hi]
  have h4: ∀(l:List Field) (acc:List (Nat×Nat)),(∀f∈l,f∈fs)→(l.mapM (fun f=>do pure (f.offset,←sizeOf f.type)):Sem (List (Nat×Nat))).run Tryz.prog w= .ok (l.map (fun f=>(f.offset,((Tryz.prog.info? f.type).map (·.size)).getD 0))) w:=by
   intro l;induction l with
   |nil=>intro _ _;simp[Sem.run_pure]
   |cons f l ih=>
    intro acc hl;rw[List.mapM_cons,Sem.run_bind,h3 f (hl f (by simp))];simp only[Result.andThen_ok,Sem.run_bind,ih acc (fun g hg=>hl g (by simp[hg])),Sem.run_pure];rfl
  have h5:(fs.mapM (fun f=>do pure (f.offset,←sizeOf f.type)):Sem (Array (Nat×Nat))).run Tryz.prog w= .ok O9.toArray w:=by
   rw[Array.mapM_eq_mapM_toList,Sem.run_map,h4 fs.toList [] (fun f hf=>by simpa using hf),hl1];rfl
  unfold Instr.build;simp only[Sem.run_bind,hzv,Result.andThen_ok,h2,h5,hzc];have h6:=oD (O9:=O9) (place:=fun i=>O9.toArray[i]?) (fun i=>by simp) pv zs hok;have h7:Instr.fill (fun i=>O9.toArray[i]?) zs.toArray pv.toArray.toList=some (Oa O9 zs pv).toArray:=h6;simp only[h7,Sem.run_pure]
 cases hl
section
variable{lo:Nat→Bool}{d:Option Nat}{gd:Option (Nat×Bool)}{x:Operand}
theorem Fp{O9:List (Nat×Nat)}(G7:(Aq[i]?,(ef i,BA Aq ⟨d,.build t parts,ty,ps,af,gd⟩ e),oG e parts.toList)=(some ⟨d,.build t parts,ty,ps,af,gd⟩,(false,true),some pv))(hl:Jv t O9=true)(hz:LU t=some zs)(hok:JG O9 zs.length pv=true)
  (h:X Tryz.prog Aq lo ef K r S (bif lo i then(i,.agg (Oa O9 zs pv).toArray)::U else U) (Dz d (.agg (Oa O9 zs pv).toArray) e)):X Tryz.prog Aq lo ef K (i::r) S U e:=have⟨ho,Dy,hp⟩:=TL G7;have⟨hef,hw⟩:=Fb Dy;
 FB ho hef hw (fun w _=>by
  have h1:(parts.map fun(p:Nat×Operand)=>(p.1,ev e p.2))=pv.toArray:=by
   cases parts with
   |mk l=>
    rw[←RU hp];simp
  refine N8 (m:=Instr.build t (parts.map fun(p:Nat×Operand)=>(p.1,ev e p.2))) rfl ?_;rw[h1];exact dL hl hz hok w) h
end
section
variable{lo:Nat→Bool}{d:Option Nat}{gd:Option (Nat×Bool)}{x:Operand}
theorem Le{a b:Value}(G7:(Aq[i]?,(ef i,BA Aq ⟨d,.binOp op t x y t',ty,ps,af,gd⟩ e),EF e x,EF e y)=(some ⟨d,.binOp op t x y t',ty,ps,af,gd⟩,(false,true),some a,some b))
  (hg: ∀w,(eqGuard op t x y a b).run Tryz.prog w= .ok () w) (hr: ∀w,(binOp op t a b).run Tryz.prog w= .ok v w)
  (h:X Tryz.prog Aq lo ef K r S (bif lo i then(i,v)::U else U) (Dz d v e)):X Tryz.prog Aq lo ef K (i::r) S U e:=have⟨ho,Dy,hx,hy⟩:=MR G7;have⟨hef,hw⟩:=Fb Dy;
 FB ho hef hw (fun w _=>by
  rw[YM,Sem.run_bind,CY hx,CY hy,Sem.run_bind,hg w,Result.andThen_ok,hr w];rfl) h
theorem M2{a b:Int}(ha:0≤a)(hb:1≤b)(w:World):(binOp .rem t (.int .u64 a) (.int .u64 b)).run Tryz.prog w= .ok (.int .u64 (a % b)) w:=by
 have h0:b≠0:=by omega
 have h1:a.tmod b=a % b:=Int.tmod_eq_emod_of_nonneg ha;simp[binOp,Op.intDiv,go_sem,h0,h1]
theorem Hl{b:Builtin}(ha:GV e a.toList=some vs)(hb:(builtin b LX ty (a.map fun| .const _=>true|_=>false) vs.toArray).run Tryz.prog w= .ok (.value v) w'):
  (execOp (ev e) ⟨d,.call ⟨.builtin b,a,LX⟩,ty,ps,af,gd⟩).run Tryz.prog w= .ok (.value v) w':=by
 show Sem.run Tryz.prog (resolve (ev e) ⟨.builtin b,a,LX⟩ ty>>=fun d=>invoke d.target d.args) w=_;have h1:resolve (ev e) ⟨.builtin b,a,LX⟩ ty=pure {target:= .builtin b LX ty (a.map fun| .const _=>true|_=>false),args:=vs.toArray}:=by
  unfold resolve;simp only[OZ ha];rfl
 simp only[h1,Sem.run_bind,Sem.run_pure,Result.andThen_ok,invoke];exact hb
theorem aV{p:Option Addr}{c:Nat}(G7:(Aq[i]?,(ef i,BA Aq ⟨d,.call ⟨.builtin .len,a, #[t]⟩,ty,ps,af,gd⟩ e),GV e a.toList)=(some ⟨d,.call ⟨.builtin .len,a, #[t]⟩,ty,ps,af,gd⟩,(false,true),some [.slice p n c]))(ht:Ec t JU=true)
  (h:X Tryz.prog Aq lo ef K r S (bif lo i then(i,.int .i64 n)::U else U) (Dz d (.int .i64 n) e)):X Tryz.prog Aq lo ef K (i::r) S U e:=have⟨ho,Dy,ha⟩:=TL G7;have⟨hef,hw⟩:=Fb Dy;
 FB ho hef hw (fun w _=>Hl ha (by
  obtain⟨d,hd,hu,-⟩:=MP ht w
  cases d<;>first|(simp[JU] at hd;done)|skip
  simp[builtin,Builtin.len_,go_sem,hu,goInt])) h
theorem aW{m n:Int}(ho:Aq[i]?=some ⟨d,.call ⟨.builtin .max,a,LX⟩,ty,ps,af,gd⟩)(Dy:(ef i,BA Aq ⟨d,.call ⟨.builtin .max,a,LX⟩,ty,ps,af,gd⟩ e)=(false,true))(ha:GV e a.toList=some [.int k m,.int k n])
  (h:X Tryz.prog Aq lo ef K r S (bif lo i then(i,.int k (max m n))::U else U) (Dz d (.int k (max m n)) e)):X Tryz.prog Aq lo ef K (i::r) S U e:=have⟨hef,hw⟩:=Fb Dy;
 FB ho hef hw (fun w _=>Hl ha (by
  have:(if n>m then n else m)=max m n:=by
   by_cases h:n>m
   ·rw[if_pos h];omega
   rw[if_neg h];omega
  simp[builtin,Builtin.max_,Builtin.max2,go_sem,this])) h
theorem UG{m n:Int}(ho:Aq[i]?=some ⟨d,.call ⟨.builtin .min,a,LX⟩,ty,ps,af,gd⟩)(Dy:(ef i,BA Aq ⟨d,.call ⟨.builtin .min,a,LX⟩,ty,ps,af,gd⟩ e)=(false,true))(ha:GV e a.toList=some [.int k m,.int k n])
  (h:X Tryz.prog Aq lo ef K r S (bif lo i then(i,.int k (min m n))::U else U) (Dz d (.int k (min m n)) e)):X Tryz.prog Aq lo ef K (i::r) S U e:=have⟨hef,hw⟩:=Fb Dy;
 FB ho hef hw (fun w _=>Hl ha (by
  have:(if n<m then n else m)=min m n:=by
   by_cases h:n<m
   ·rw[if_pos h];omega
   rw[if_neg h];omega
  simp[builtin,Builtin.min_,Builtin.min2,go_sem,this])) h
noncomputable def aX (t f t':Nat):Bool:=match Tryz.prog.underlying t with
 |some (.struct fs)=>(fs[f]?).map (·.type)==some t'
 |_=>false
theorem YN{off:Nat}{cs:List Value}(hf:Pm t f off=true)(hft:aX t f t'=true)(h1:one t'=true)(hv:Qb cs off=some v)(w:World):(Instr.field t (.agg cs.toArray) f).run Tryz.prog w= .ok v w:=by
 unfold Pm at hf;unfold aX at hft;split at hf
 ·rename_i fs hu;rw[hu] at hft;split at hf
  ·rename_i g hg;simp only[Bool.and_eq_true,beq_iff_eq] at hf;have ht:g.type=t':=by simpa[hg] using hft
   have ho:g.offset=off:=hf.1;subst ht ho;rw[FO] at hv;have h2:(underlying t).run Tryz.prog w= .ok (.struct fs) w:=by unfold underlying;simp[go_sem,hu]
   unfold Instr.field;simp only[Sem.run_bind,h2,Result.andThen_ok,hg];have h3:(asAgg (.agg cs.toArray)).run Tryz.prog w= .ok cs.toArray w:=by simp[asAgg,go_sem]
   simp only[Sem.run_bind,h3,Result.andThen_ok,part,(Jg h1 w).1];simp[hv,go_sem]
  cases hf
 cases hf
theorem Bp{off:Nat}{cs:List Value}(ho:Aq[i]?=some ⟨d,.field t x f,ty,ps,af,gd⟩)(Dy:(ef i,BA Aq ⟨d,.field t x f,ty,ps,af,gd⟩ e)=(false,true))(hx:EF e x=some (.agg cs.toArray))(hf:Pm t f off=true)(hft:aX t f t'=true)(h1:one t'=true)(hv:Qb cs off=some v)
  (h:X Tryz.prog Aq lo ef K r S (bif lo i then(i,v)::U else U) (Dz d v e)):X Tryz.prog Aq lo ef K (i::r) S U e:=have⟨hef,hw⟩:=Fb Dy;
 FB ho hef hw (fun w _=>N8 (m:=Instr.field t (ev e x) f) rfl (by rw[CY hx];exact YN hf hft h1 hv w)) h
end
section
variable{r:List Code}{R:BB}
theorem T.MX[Inhabited (List Deferred)]{cs:Value→List Value}(hl: ∀nv RN,Nx nv RN→CV RN)(h: ∀nv RN,Nx nv RN→CV RN→T Q n r (Sy C w0 D0 l (H++[⟨d,t,cs nv⟩]) RN) e):T Q n r (Sy C w0 D0 l H (uF t d cs Nx)) e:=fun w a hS hF=>by
 obtain⟨nv,RN,h1,h2,h3⟩:=hS.MX hl;exact h nv RN h1 h2 w a h3 hF
theorem T.ex[Inhabited (List Deferred)]{α:Sort _}{R:α→BB}(hl: ∀a,CV (R a))(h: ∀a,T Q n r (Sy C w0 D0 l H (R a)) e):T Q n r (Sy C w0 D0 l H (fun D w=> ∃a,R a D w)) e:=fun w a hS hF=>by
 obtain⟨x,h1⟩:=hS.MU hl;exact h x w a h1 hF
theorem T.and[Inhabited (List Deferred)]{p:Prop}(hl:p→CV R)(h:p→T Q n r (Sy C w0 D0 l H R) e):T Q n r (Sy C w0 D0 l H (fun D w=>p∧R D w)) e:=fun w a hS hF=>by
 obtain⟨hp,h1⟩:=hS.Ca hl;exact h hp w a h1 hF
theorem T.Og[Inhabited (List Deferred)](hl:CV R)(h:T Q n r (Sy C w0 D0 l (H++H2) R) e):T Q n r (Sy C w0 D0 l H (Az H2 R)) e:=fun w a hS hF=>h w a (hS.unfold hl) hF
variable{lo:Nat→Bool}{d:Option Nat}{gd:Option (Nat×Bool)}{x:Operand}
theorem RV{f:Operand}{g:Nat}{first:List Value}(G7:(Aq[i]?,ef i,EF e f,GV e a.toList)=(some ⟨d,.call ⟨.value f,a,LX⟩,ty,ps,af,none⟩,true,some (.func (.func g) first.toArray captured.toArray),some args))(hg:Cm g=true)(hH:H1++H2=H)
  (hc:Cv C g (first++args++captured) l (Az H2 R) v l' R') (hl:CV R') (hp:Eh Aq i U (Sy C w0 D0 l' H1 R') e)
  (h:X Tryz.prog Aq lo ef K rr (Sy C w0 D0 l' H1 R') U (Dz d v e)):X Tryz.prog Aq lo ef K (i::rr) (Sy C w0 D0 l H R) U e:=have⟨ho,hef,hf,ha⟩:=MR G7;
 FH (K':=fun u w'=>u=v∧Sy C w0 D0 l' H1 R' w') ho hef rfl (fun w hS=>by
  subst hH;exact Fe hf ha hg ((hS.VR.QG hc hl).mono fun e w' ⟨h1,h2⟩=>⟨v,h1,rfl,h2⟩)) (fun u w' ⟨h1,h2⟩=>⟨_,h2,hp,by rw[h1];exact h⟩)
theorem Kt{f:Operand}{g:Nat}{first:List Value}(G7:(Aq[i]?,ef i,EF e f,GV e a.toList)=(some ⟨d,.call ⟨.value f,a,LX⟩,ty,ps,af,none⟩,true,some (.func (.func g) first.toArray captured.toArray),some args))(hg:Cm g=true)(hH:H1++H2=H)
  (hc:Cv C g (first++args++captured) l (Az H2 R) v l' (Az Ju R')) (hl:CV R') (hH':H1++Ju=H') (hp:Eh Aq i U (Sy C w0 D0 l' H' R') e)
  (h:X Tryz.prog Aq lo ef K rr (Sy C w0 D0 l' H' R') U (Dz d v e)):X Tryz.prog Aq lo ef K (i::rr) (Sy C w0 D0 l H R) U e:=have⟨ho,hef,hf,ha⟩:=MR G7;
 FH (K':=fun u w'=>u=v∧Sy C w0 D0 l' H' R' w') ho hef rfl (fun w hS=>by
  subst hH hH';exact Fe hf ha hg ((hS.VR.QG hc (Ac hl Ju)).mono fun e w' ⟨h1,h2⟩=>⟨v,h1,rfl,h2.unfold hl⟩)) (fun u w' ⟨h1,h2⟩=>⟨_,h2,hp,by rw[h1];exact h⟩)
theorem OT{f:Operand}{g:Nat}{first:List Value}(G7:(Aq[i]?,(ef i,BA Aq ⟨d,.call ⟨.value f,a,LX⟩,ty,ps,af,gd⟩ e),EF e f,GV e a.toList)=(some ⟨d,.call ⟨.value f,a,LX⟩,ty,ps,af,gd⟩,(false,true),some (.func (.func g) first.toArray captured.toArray),some args))(hg:Cm g=true)(hH:H1++H2=H)
  (hc:Cv C g (first++args++captured) l (Az H2 R) v l (Az H2 R)) (hl:CV R)
  (h:X Tryz.prog Aq lo ef K rr (Sy C w0 D0 l H R) (bif lo i then(i,v)::U else U) (Dz d v e)):X Tryz.prog Aq lo ef K (i::rr) (Sy C w0 D0 l H R) U e:=have⟨ho,Dy,hf,ha⟩:=MR G7;have⟨hef,hw⟩:=Fb Dy;
 UE ho hef hw (fun w hS=>by
  subst hH;exact Fe hf ha hg ((hS.VR.QG hc (Ac hl H2)).mono fun e w' ⟨h1,h2⟩=>⟨v,h1,rfl,h2.unfold hl⟩)) h
theorem I9(n:Int):IntKind.u64.wrap n=Hm n:=IntKind.wrap_u64 n
theorem RX(n:Int):IntKind.u32.wrap n=NR n:=IntKind.wrap_u32 n
end
def VW(nv:Value)(b:Bool):Prop:=(nv= .nilFunc∧b=true)∨(∃f p q,nv= .func f p q∧b=false)
theorem IL{b:Bool}{x:Operand}(h:VW nv b)(w:World):(eqGuard op t x y nv .nilFunc).run Tryz.prog w= .ok () w:=by
 unfold eqGuard;rcases h with⟨rfl,-⟩|⟨f,p,q,rfl,-⟩<;>cases op<;>simp[go_sem]
theorem Jl{b:Bool}(h:VW nv b)(ht:Ec t aU=true)(w:World):(binOp .eql t nv .nilFunc).run Tryz.prog w= .ok (.bool b) w:=by
 rcases h with⟨rfl,rfl⟩|⟨f,p,q,rfl,rfl⟩
 ·exact M1 ht w
 exact zD ht w
theorem Cp{b:Bool}(h:VW nv b)(ht:Ec t aU=true)(w:World):(binOp .neq t nv .nilFunc).run Tryz.prog w= .ok (.bool (!b)) w:=by
 rcases h with⟨rfl,rfl⟩|⟨f,p,q,rfl,rfl⟩
 ·have:=RS (.inr ⟨ht,rfl,.inr ⟨rfl,rfl⟩⟩) w;simp only[binOp,Sem.run_bind,this,Result.andThen_ok,Sem.run_pure]
 have:=RS (.inr ⟨ht,rfl,.inl ⟨f,p,q,rfl,rfl⟩⟩) w;simp only[binOp,Sem.run_bind,this,Result.andThen_ok,Sem.run_pure]
theorem Na{off:Nat}{cs:List Value}{R:BB}(hS:Sy C w0 D0 l H R w)(h1:Bq t n=true)(hi:In b cs H)(hn:(OQ cs off n).length=n):(loadVar t ⟨b,off,none⟩).run Tryz.prog w= .ok (.agg (OQ cs off n).toArray) w:=
 IK h1 (OQ cs off n) hn (fun j v hj=>by
  refine(hS.cell hi ?_).1;unfold OQ at hj;rw[List.getElem?_take] at hj;split at hj
  ·rw[FO,←hj,List.getElem?_drop]
  cases hj)
section
variable{R:BB}{r:List Code}{Q:Value→Dk→BB}{a off k u v:Nat}{cs:List Value}
theorem VX{tm:Array Value}{x:Value}{bb:Nat}(hr:fn.results= #[.cell a t])(ha:tm.getD a undef= .pointer (some ⟨bb,off,none⟩))(hx:(loadVar t ⟨bb,off,none⟩).run P w= .ok x w):(results fn tm).run P w= .ok x w:=by
 have ha':tm[a]?.getD undef= .pointer (some ⟨bb,off,none⟩):=by rw[←ha];simp
 simp[results,hr,asAddr,ha',hx]
theorem YO{tm:Array Value}{x:Value}{bb:Nat}(hr:fn.results= #[.cell a t,.tmp u])(ha:tm.getD a undef= .pointer (some ⟨bb,off,none⟩))(hx:(loadVar t ⟨bb,off,none⟩).run P w= .ok x w):(results fn tm).run P w= .ok (.tuple #[x,tm.getD u undef]) w:=by
 have ha':tm[a]?.getD undef= .pointer (some ⟨bb,off,none⟩):=by rw[←ha];simp
 simp[results,hr,asAddr,ha',hx]
theorem YP{tm:Array Value}{x:Value}{bb:Nat}(hr:fn.results= #[.cell a t,.tmp u,.tmp v])(ha:tm.getD a undef= .pointer (some ⟨bb,off,none⟩))(hx:(loadVar t ⟨bb,off,none⟩).run P w= .ok x w):(results fn tm).run P w= .ok (.tuple #[x,tm.getD u undef,tm.getD v undef]) w:=by
 have ha':tm[a]?.getD undef= .pointer (some ⟨bb,off,none⟩):=by rw[←ha];simp
 simp[results,hr,asAddr,ha',hx]
theorem T.Io(hr:fn.results= #[.cell a t])(ha:oC e a=some (.pointer (some ⟨b,off,none⟩)))(h1:Bq t k=true)(hi:In b cs H)(hn:(OQ cs off k).length=k)(hq: ∀w D,Az H R D w→ ∃D',Q (.agg (OQ cs off k).toArray) l D' w∧ ∀k,D' k→D k):T (bodyPost Tryz.prog fn (Tj C w0 D0 Q)) n (.ret::r) (Sy C w0 D0 l H R) e:=
 T.ret fun w a' hS hF=>⟨hF.defers,_,VX hr (by rw[hF.at_ a];exact Tv ha) (Na hS h1 hi hn),hS.QQ (hq w)⟩
theorem T.oH(hr:fn.results= #[.cell a t,.tmp u])(ha:oC e a=some (.pointer (some ⟨b,off,none⟩)))(h1:Bq t k=true)(hi:In b cs H)(hn:(OQ cs off k).length=k)(hq: ∀w D,Az H R D w→ ∃D',Q (.tuple #[.agg (OQ cs off k).toArray,lk e u]) l D' w∧ ∀k,D' k→D k):T (bodyPost Tryz.prog fn (Tj C w0 D0 Q)) n (.ret::r) (Sy C w0 D0 l H R) e:=
 T.ret fun w a' hS hF=>⟨hF.defers,_,YO hr (by rw[hF.at_ a];exact Tv ha) (Na hS h1 hi hn),by rw[hF.at_ u];exact hS.QQ (hq w)⟩
end
section
variable{R:BB}
variable{lo:Nat→Bool}{d:Option Nat}{gd:Option (Nat×Bool)}{x:Operand}
theorem Sy.Wr(h:Sy C w0 D0 l H R w){o:Nat}(hv:C.Gq[o]?=some v):w.cell? ⟨C.m,o,none⟩=some v:=by
 simp[World.cell?,h.map.mb,hv]
theorem eI{off:Nat}(ho:Aq[i]?=some ⟨d,.load t x,ty,ps,af,gd⟩)(Dy:(ef i,BA Aq ⟨d,.load t x,ty,ps,af,gd⟩ e)=(false,true))(hx:EF e x=some (.pointer (some ⟨C.m,off,none⟩)))(h1:one t=true)(hv:C.Gq[off]?=some v)
  (h:X Tryz.prog Aq lo ef K r (Sy C w0 D0 l H R) (bif lo i then(i,v)::U else U) (Dz d v e)):X Tryz.prog Aq lo ef K (i::r) (Sy C w0 D0 l H R) U e:=have⟨hef,hw⟩:=Fb Dy;
 FB ho hef hw (fun w hS=>N8 (m:=Instr.loadAt t (ev e x)) rfl (by rw[CY hx];exact GM h1 (hS.Wr hv))) h
theorem Wt{off:Nat}(ho:Aq[i]?=some ⟨d,.load t x,ty,ps,af,gd⟩)(Dy:(ef i,BA Aq ⟨d,.load t x,ty,ps,af,gd⟩ e)=(false,true))(hx:EF e x=some (.pointer (some ⟨C.m,off,none⟩)))(h1:Bq t n=true)(hv:OQ C.Gq.toList off n=vs)(hn:vs.length=n)
  (h:X Tryz.prog Aq lo ef K r (Sy C w0 D0 l H R) (bif lo i then(i,.agg vs.toArray)::U else U) (Dz d (.agg vs.toArray) e)):X Tryz.prog Aq lo ef K (i::r) (Sy C w0 D0 l H R) U e:=have⟨hef,hw⟩:=Fb Dy;
 FB ho hef hw (fun w hS=>by
  have:=IK h1 (w:=w) (b:=C.m) (off:=off) vs hn (fun j v hj=>by
   refine hS.Wr ?_;rw[←hv] at hj;unfold OQ at hj;rw[List.getElem?_take] at hj;split at hj
   ·rw[←hj,List.getElem?_drop];simp
   cases hj)
  exact N8 (m:=Instr.loadAt t (ev e x)) rfl (by rw[CY hx];exact this)) h
end
section
variable{lo:Nat→Bool}{d:Option Nat}{gd:Option (Nat×Bool)}{x:Operand}
theorem Ic{a c:Int}(G7:(Aq[i]?,(ef i,BA Aq ⟨d,.convert t t' x,ty,ps,af,gd⟩ e),EF e x)=(some ⟨d,.convert t t' x,ty,ps,af,gd⟩,(false,true),some (.int k a)))(ht:Ec t' (Qp k')=true)(ht0:Ec t (fun _=>true)=true)(hc:k'.wrap a=c)
  (h:X Tryz.prog Aq lo ef K r S (bif lo i then(i,.int k' c)::U else U) (Dz d (.int k' c) e)):X Tryz.prog Aq lo ef K (i::r) S U e:=by
 obtain⟨ho,Dy,hx⟩:=TL G7;have⟨hef,hw⟩:=Fb Dy;subst hc;exact kl ho Dy hx ht ht0 h
end
theorem EG{n:Int}(h: -9223372036854775808≤n∧n≤9223372036854775807):IntKind.i64.wrap n=n:=IntWalk.i64_in n h
theorem KR{n:Int}(h:0≤n∧n≤4294967295):IntKind.i64.wrap n=n:=IntWalk.i64_in n (by omega)
theorem Oh{n:Int}(h:0≤n∧n≤4294967295):IntKind.u64.wrap n=n:=IntWalk.u64_in n (by omega)
theorem PE{n:Int}(h:0≤n∧n≤4294967295):IntKind.u32.wrap n=n:=IntWalk.u32_in n (by omega)
end Go.Proofs.YtmpcfamcbaineaaGreat.Mo
