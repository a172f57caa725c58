/- Part 8 of the proof of the row of the law TopSame: contracts of what it reaches, and the plain law. No condition. -/
import Derived.Test.YtmpcfamcbaineaaGreatU07
set_option linter.all false
set_option maxHeartbeats 8000000
set_option maxRecDepth 100000
open Go.RowKit
namespace Go.Proofs.YtmpcfamcbaineaaGreat.Mo
variable{A b d n i j t id f m ty q et rb nb lb:Nat}{B H H' H2 H1 Ju Hr RB:List Bk}{a:Array Operand}{c:Fj}{w w0:World}{e:GZ}{v u nv av rv r0 arg:Value}{α:Type}{W:Wo}{y z:Operand}{k ik:IntKind}{F R':BB}{C C0:Cx}{l l':Dk}{P:Program}{K:(World→Prop)→GZ→Prop}{Q:Exit→Act→World→Prop}{Aq:Array Oper}{ef:Nat→Bool}{r rr:List Nat}{S:World→Prop}{L:Array Bool}{V U:List (Nat×Value)}{D0 D:LV}{args vs captured GI Ir QI:List Value}{fn:Func}{ps:String}{af:Array Edge}{LX:Array Nat}{M:Bz}{ts:List Int}{dr Di:Int}{IV:List (List I4)}{ks:List (Int×Int)}
section
variable{lo lo1 ef1 lo2 ml:Nat→Bool}
theorem X.JL{lo ef lo' XY:Nat→Bool}: ∀{r:List Nat} {S:World→Prop} {U:List (Nat×Value)} {e:GZ},(∀i∈r,lo i=lo' i∧ef i=XY i)→X P Aq lo ef K r S U e→X P Aq lo' XY K r S U e
 |[],_,_,_,_,h=>h
 |i::r,S,U,e,hs,⟨o,ho,h⟩=>by
  obtain⟨h1,h2⟩:=hs i (List.mem_cons_self ..);refine⟨o,ho,?_⟩;rw[h2,h1] at h;cases hb:XY i with
  |true=>
   rw[hb] at h;exact⟨h.1,fun w hw=>nU (h.2 w hw) fun v w' ⟨S',g1,g2,g3⟩=>⟨S',g1,g2,X.JL (fun k hk=>hs k (List.mem_cons_of_mem _ hk)) g3⟩⟩
  |false=>
   rw[hb] at h;obtain⟨v,g1,g2⟩:=h;exact⟨v,g1,X.JL (fun k hk=>hs k (List.mem_cons_of_mem _ hk)) g2⟩
structure tO (Aq:Array Oper) (n:Nat) (Dh r1 r2:List Nat) (A B:Nat) (lo ef:Nat→Bool):Prop where
 one:uY Aq n (Dh++A::r1) (fun i=>lo i||i==A) (fun i=>ef i&&i !=A)
 aP:uY Aq n (Dh++B::r2) (fun i=>lo i||i==B) (fun i=>ef i&&i !=B)
 ne:A≠B
 Bw:ef A=true
 Bx:ef B=true
 still: ∀i∈Dh,ef i=false
 rest: ∀j,j<Aq.size→j∉Dh→j≠A→j≠B→pos (Dh++A::r1) B<pos (Dh++A::r1) j∨pos (Dh++B::r2) A<pos (Dh++B::r2) j
theorem ez[Inhabited (List Deferred)]{Dh r1 r2:List Nat}{B:Nat}(hc:tO Aq n Dh r1 r2 A B lo ef)(hK: ∀S e,K S e→ ∀w a,S w→IC a n e→Q .normal a w): ∀(fuel:Nat) (L:Array Bool) (a:Act) (w:World) (S:World→Prop) (V U:List (Nat×Value)) (e:GZ),V.length+(r1.length+1)=fuel→X P Aq lo ef K (A::r1) S U e→X P Aq lo ef K (B::r2) S U e→S w→XH P Aq n (Dh++A::r1) L a S V (A::r1) e→XH P Aq n (Dh++B::r2) L a S V (B::r2) e→
  (∀x∈V,lo x.1=true→x∈U)→(∀x∈V,ef x.1=false)→wpAnyIn (Fr none) 0 P .any Aq Q fuel L a w:=by
 have fa:(Dh++A::r1).Nodup:=hc.one.nodup;have fb:(Dh++B::r2).Nodup:=hc.aP.nodup;rw[List.nodup_append,List.nodup_cons] at fa fb;obtain⟨-,⟨nA,-⟩,cO⟩:=fa;obtain⟨-,⟨nB,-⟩,ndy⟩:=fb;have nAp:A∉Dh:=fun hm=>cO A hm A (List.mem_cons_self ..) rfl
 have nBp:B∉Dh:=fun hm=>ndy B hm B (List.mem_cons_self ..) rfl
 have hl12:r1.length=r2.length:=by
  have h1:=hc.one.len;have h2:=hc.aP.len;simp only[List.length_append,List.length_cons] at h1 h2;omega
 intro fuel;induction fuel with
 |zero=>intro L a w S V U e hf;omega
 |succ fuel ih=>
  intro L a w S V U e hf hX1 hX2 hS h1 h2 hU Ui;refine⟨fun h0=>(h1.ready hc.one (by simp) h0).elim,fun j hj=>?_⟩;obtain⟨dT,oj,hoj,hall⟩:=mem_ready.1 hj;have hjs:j<Aq.size:=(Array.getElem?_eq_some_iff.1 hoj).1;obtain⟨QE,hwant⟩:=YB (Aq:=Aq) (a:=a) (e:=e) (fun cs b=>Region.noSelect_spec hc.one.sX j oj cs b hoj) (h1.Xi hc.one (fun x hx=>by simp[Ui x hx]) hoj hall);have WH: ∀k,k<Aq.size→(k∈V.map (·.1)∨k∈A::r1)→ ¬L.getD k false=true:=fun k hk hm hd=>(GL (Aq:=Aq) h1.size hk).1 hd ((h1.rem _ hk).2 hm)
  have run: ∀(i:Nat) (r ord rP:List Nat) (lo' XY oF ST:Nat→Bool),uY Aq n ord lo' XY→uY Aq n rP oF ST→ef i=true→ST i=true→(∀x∈Dh,oF x=lo x∧ST x=ef x)→(∀x∈r,lo x=lo' x∧ef x=XY x)→(∀x∈Dh,lo' x=lo x∧XY x=ef x)→(∀x∈Dh,pos rP x<pos rP i)→V.length+r.length=fuel→
    X P Aq lo ef K (i::r) S U e→XH P Aq n ord L a S V (i::r) e→(∀x∈V,x.1∈Dh)→j=i→wpOpIn (Fr none) 0 P Aq Q j (wpAnyIn (Fr none) 0 P .any Aq Q fuel (L.setIfInBounds j true)) a w:=by
   intro i r ord rP lo' XY oF ST hc' hc'' XV fc Ab3 hs' hsp hps hlf hX h jf hji;subst hji;obtain⟨o,ho,hx⟩:=hX;obtain rfl:o=oj:=Option.some.inj (ho.symm.trans hoj);rw[XV] at hx;obtain⟨Yz,hx⟩:=hx;have hlo: ∀x∈V,x∈U:=fun x Qa=>by
    refine hU x Qa ?_;cases hl:lo x.1 with
    |true=>rfl
    |false=>
     obtain⟨ox,hox,-⟩:=h.still x Qa;have hxs:x.1<Aq.size:=(Array.getElem?_eq_some_iff.1 hox).1;obtain⟨e1,e2⟩:=Ab3 x.1 (jf x Qa);have h1:=hc''.cY x.1 j hxs hjs fc (by rw[e2];exact Ui x Qa) (by rw[e1];exact hl) (hps x.1 (jf x Qa));have h2:=Fa h.Gt _ j o hoj hall h1;exact(WH x.1 hxs (.inl (List.mem_map.2 ⟨x,Qa,rfl⟩)) h2).elim
   have hds: ∀x∈V,desc Aq Aq.size x.1 j=false:=fun x Qa=>by
    cases hd:desc Aq Aq.size x.1 j with
    |false=>rfl
    |true=>
     obtain⟨ox,hox,-⟩:=h.still x Qa;have hxs:x.1<Aq.size:=(Array.getElem?_eq_some_iff.1 hox).1;exact(WH x.1 hxs (.inl (List.mem_map.2 ⟨x,Qa,rfl⟩)) (Fa h.Gt _ j o hoj hall hd)).elim
   unfold wpOpIn;rw[hoj];show if Region.wanted o (yielded Aq a.tmps) then _ else _
   rw[hwant,Yz,if_pos rfl];refine(KP (K:=fun v w'=> ∃S':World→Prop,S' w'∧(∀x∈U,desc Aq Aq.size x.1 j=false→ ∃ox,Aq[x.1]?=some ox∧YE P Aq S' ox x.2 e)∧X P Aq lo ef K r S' U (Dz o.dst v e)) ?_ ?_)
   ·have:=hx w hS;unfold Pj at this⊢
    rw[QE];exact this
   rintro v w' ⟨S',g1,g2,g3⟩;refine dG hc' hK fuel r _ _ w' S' V U _ hlf (X.JL hs' g3) g1 (h.go hc' hoj hall (fun x Qa=>g2 x (hlo x Qa) (hds x Qa))) (fun x hx hl=>hU x hx ?_) (fun x hx=>?_)
   ·rw[←(hsp x.1 (jf x hx)).1];exact hl
   rw[(hsp x.1 (jf x hx)).2];exact Ui x hx
  have jf: ∀x∈V,x.1∈Dh:=fun x hx=>by
   obtain⟨p,hp,hq⟩:=h1.Wf;obtain rfl:Dh=p:=List.append_cancel_right hp;exact hq x hx
  rcases(h1.rem j hjs).1 dT with Wg|hjr
  ·obtain⟨x,hx,rfl⟩:=List.mem_map.1 Wg;obtain⟨ox,hox,hy⟩:=h1.still x hx;obtain rfl:ox=oj:=Option.some.inj (hox.symm.trans hoj);have i1:=h1.take hc.one hx hoj hall;have i2:=h2.take hc.aP hx hoj hall;have hlen:=Qn V h1.nodup Wg;have B7: ∀y∈V.filter (fun y=>y.1 !=x.1),lo y.1=true→y∈U:=fun y hy hl=>hU y (List.mem_filter.1 hy).1 hl
   have hV': ∀y∈V.filter (fun y=>y.1 !=x.1),ef y.1=false:=fun y hy=>Ui y (List.mem_filter.1 hy).1
   unfold wpOpIn;rw[hoj];show if Region.wanted ox (yielded Aq a.tmps) then _ else _
   rcases hy with⟨Yz,hy⟩|⟨Yz,hv⟩
   ·rw[hwant,Yz,if_pos rfl];refine(KP (K:=fun u w'=>u=x.2∧S w') ?_ ?_)
    ·have:=hy w hS;unfold Pj at this⊢
     rw[QE];exact this
    rintro u w' ⟨rfl,hS'⟩;exact ih _ _ w' S _ U e (by omega) hX1 hX2 hS' i1 i2 B7 hV'
   rw[hwant,Yz];refine⟨fun _ _=>trivial,?_⟩;show wpAnyIn (Fr none) 0 P .any Aq Q fuel _ (a.put ox.dst undef) w;rw[←hv];exact ih _ _ w S _ U e (by omega) hX1 hX2 hS i1 i2 B7 hV'
  have jg: ∀x∈Dh,x≠A∧x≠B:=fun x hx=>⟨fun e=>nAp (e▸hx),fun e=>nBp (e▸hx)⟩
  have off: ∀(z x:Nat),x≠z→(lo x||x==z)=lo x∧(ef x&&x !=z)=ef x:=fun z x hx=>by
   have e1:(x==z)=false:=beq_eq_false_iff_ne.2 hx;unfold bne;rw[e1];simp
  have ss: ∀(z:Nat) (r:List Nat),z∉r→ ∀x∈r,lo x=(lo x||x==z)∧ef x=(ef x&&x !=z):=fun z r hz x hx=>by
   have:=off z x (fun h=>hz (h▸hx));exact⟨this.1.symm,this.2.symm⟩
  by_cases fd:j=A
  ·exact run A r1 _ _ _ _ _ _ hc.one hc.aP hc.Bw (by simp[hc.Bw,hc.ne]) (fun x hx=>off B x (jg x hx).2) (ss A r1 nA) (fun x hx=>off A x (jg x hx).1) (fun x hx=>TQ hx nAp) (by omega) hX1 h1 jf fd
  by_cases hjB:j=B
  ·exact run B r2 _ _ _ _ _ _ hc.aP hc.one hc.Bx (by simp[hc.Bx,Ne.symm hc.ne]) (fun x hx=>off A x (jg x hx).1) (ss B r2 nB) (fun x hx=>off B x (jg x hx).2) (fun x hx=>TQ hx nBp) (by omega) hX2 h2 jf hjB
  have hjp:j∉Dh:=fun hm=>cO j hm j hjr rfl
  have hAs:A<Aq.size:=hc.one.lt A (by simp);have hBs:B<Aq.size:=hc.aP.lt B (by simp);rcases hc.rest j hjs hjp fd hjB with hp|hp
  ·have g:=Fa h1.Gt _ j oj hoj hall (hc.one.qw B j hBs hjs (by simp[hc.Bx,Ne.symm hc.ne]) hp);exact((GL (Aq:=Aq) h1.size hBs).1 g ((h2.rem _ hBs).2 (.inr (by simp)))).elim
  have g:=Fa h1.Gt _ j oj hoj hall (hc.aP.qw A j hAs hjs (by simp[hc.Bw,hc.ne]) hp);exact(WH A hAs (.inr (by simp)) g).elim
def uO(Aq:Array Oper)(lo:Nat→Bool):List Nat→GZ→List (Nat×Value)
 |[],_=>[]
 |i::r,e=>bif lo i then(i,match Aq[i]? with|some o=>(match o.dst with|some t=>lk e t|none=>undef)|none=>undef)::uO Aq lo r e else uO Aq lo r e
theorem xH{i t:Nat}{o:Oper}{e:GZ}(ho:Aq[i]?=some o)(hd:o.dst=some t)(hl:lo i=true): ∀{r:List Nat},i∈r→(i,lk e t)∈uO Aq lo r e
 |[],h=>by simp at h
 |j::r,h=>by
  unfold uO;rcases List.mem_cons.1 h with rfl|h
  ·rw[hl,ho];simp only[hd,cond_true];exact List.mem_cons_self ..
  have:=xH (e:=e) ho hd hl h;cases lo j with
  |true=>exact List.mem_cons_of_mem _ this
  |false=>exact this
end
section
variable{lo:Nat→Bool}
def Z3(P:Program)(Aq:Array Oper)(lo ef:Nat→Bool)(K:(World→Prop)→GZ→Prop)(Dh s1 s2:List Nat)(S:World→Prop)(e:GZ):Prop:=
 X P Aq lo ef K s1 S (uO Aq lo Dh.reverse e) e∧X P Aq lo ef K s2 S (uO Aq lo Dh.reverse e) e
theorem kT[Inhabited (List Deferred)]{Dh r1 r2:List Nat}{k:Nat}{oR:List Nat}{lo2 ml:Nat→Bool}(hc:tO Aq n (Dh++[i]) r1 r2 j k (fun x=>lo x||x==i) (fun x=>ef x&&x !=i))(hc2:uY Aq n oR lo2 ml)(ho2: ∀x∈Dh,pos oR x<pos oR i)(he2:ml i=true)(hp2: ∀x∈Dh,lo2 x=lo x∧ml x=ef x)(XV:ef i=true)
  (hdst: ∀x o,Aq[x]?=some o→lo x=true→ ∃t,o.dst=some t) (hK: ∀S e,K S e→ ∀w a,S w→IC a n e→Q .normal a w) {fuel:Nat} {a:Act}
  (hf:V.length+(r1.length+1)=fuel) (hX:X P Aq lo ef (Z3 P Aq lo ef K Dh (j::r1) (k::r2)) [i] S U e) (hS:S w) (h1:XH P Aq n ((Dh++[i])++j::r1) L a S V (i::j::r1) e) (h2:XH P Aq n ((Dh++[i])++k::r2) L a S V (i::k::r2) e)
  (hU: ∀x∈V,lo x.1=true→x∈U) (Ui: ∀x∈V,ef x.1=false) {oj:Oper} (hoj:Aq[i]?=some oj) (hall: ∀ed∈oj.after,Region.binds .any ed=true→L.getD ed.on false=true)
  (QE:execOp a.eval oj=execOp (ev e) oj) (hwant:Region.wanted oj (yielded Aq a.tmps)=BA Aq oj e):wpOpIn (Fr none) 0 P Aq Q i (wpAnyIn (Fr none) 0 P .any Aq Q fuel (L.setIfInBounds i true)) a w:=by
 have his:i<Aq.size:=(Array.getElem?_eq_some_iff.1 hoj).1;have fa:((Dh++[i])++j::r1).Nodup:=hc.one.nodup;have fb:((Dh++[i])++k::r2).Nodup:=hc.aP.nodup;rw[List.nodup_append,List.nodup_append] at fa fb;obtain⟨⟨-,-,ndi⟩,-,cO⟩:=fa;obtain⟨-,-,ndy⟩:=fb;have MT:i∉Dh:=fun hm=>ndi i hm i (by simp) rfl
 have q1: ∀x∈j::r1,x≠i:=fun x hx h=>cO i (by simp) x hx h.symm
 have q2: ∀x∈k::r2,x≠i:=fun x hx h=>ndy i (by simp) x hx h.symm
 have jf: ∀x∈V,x.1∈Dh:=fun x hx=>by
  obtain⟨p,hp,hq⟩:=h1.Wf;rw[show(Dh++[i])++j::r1=Dh++(i::j::r1) by simp] at hp;obtain rfl:Dh=p:=List.append_cancel_right hp;exact hq x hx
 have WH: ∀x,x<Aq.size→(x∈V.map (·.1)∨x∈i::j::r1)→ ¬L.getD x false=true:=fun x hx hm hd=>(GL (Aq:=Aq) h1.size hx).1 hd ((h1.rem _ hx).2 hm)
 obtain⟨o,ho,hx⟩:=hX;obtain rfl:o=oj:=Option.some.inj (ho.symm.trans hoj);rw[XV] at hx;obtain⟨Yz,hx⟩:=hx;have hlo: ∀x∈V,x∈U:=fun x Qa=>by
  refine hU x Qa ?_;cases hl:lo x.1 with
  |true=>rfl
  |false=>
   obtain⟨ox,hox,-⟩:=h1.still x Qa;have hxs:x.1<Aq.size:=(Array.getElem?_eq_some_iff.1 hox).1;obtain⟨e1,e2⟩:=hp2 x.1 (jf x Qa);have h3:=hc2.cY x.1 i hxs his he2 (by rw[e2];exact Ui x Qa) (by rw[e1];exact hl) (ho2 x.1 (jf x Qa));have h4:=Fa h1.Gt _ i o hoj hall h3;exact(WH x.1 hxs (.inl (List.mem_map.2 ⟨x,Qa,rfl⟩)) h4).elim
 have hds: ∀x∈V,desc Aq Aq.size x.1 i=false:=fun x Qa=>by
  cases hd:desc Aq Aq.size x.1 i with
  |false=>rfl
  |true=>
   obtain⟨ox,hox,-⟩:=h1.still x Qa;have hxs:x.1<Aq.size:=(Array.getElem?_eq_some_iff.1 hox).1;exact(WH x.1 hxs (.inl (List.mem_map.2 ⟨x,Qa,rfl⟩)) (Fa h1.Gt _ i o hoj hall hd)).elim
 unfold wpOpIn;rw[hoj];show if Region.wanted o (yielded Aq a.tmps) then _ else _
 rw[hwant,Yz,if_pos rfl];refine(KP (K:=fun v w'=> ∃S':World→Prop,S' w'∧(∀x∈U,desc Aq Aq.size x.1 i=false→ ∃ox,Aq[x.1]?=some ox∧YE P Aq S' ox x.2 e)∧Z3 P Aq lo ef K Dh (j::r1) (k::r2) S' (Dz o.dst v e)) ?_ ?_)
 ·have:=hx w hS;unfold Pj at this⊢
  rw[QE];exact this
 rintro v w' ⟨S',g1,g2,g3⟩;have i1:=h1.go hc.one hoj hall (S':=S') (v:=v) (fun x Qa=>g2 x (hlo x Qa) (hds x Qa));have i2:=h2.go hc.aP hoj hall (S':=S') (v:=v) (fun x Qa=>g2 x (hlo x Qa) (hds x Qa));have hs: ∀x,x≠i→lo x=(lo x||x==i)∧ef x=(ef x&&x !=i):=fun x hx=>by simp[hx]
 refine ez hc hK fuel _ _ w' S' V _ _ hf (X.JL (fun x hx=>hs x (q1 x hx)) g3.1) (X.JL (fun x hx=>hs x (q2 x hx)) g3.2) g1 i1 i2 (fun x hx hl=>?_) (fun x hx=>?_)
 ·have hne:x.1≠i:=fun h=>MT (h▸jf x hx)
  have hl:lo x.1=true:=by simpa[hne] using hl
  obtain⟨ox,hox,-⟩:=h1.still x hx;obtain⟨t,ht⟩:=hdst x.1 ox hox hl;have h3:=i1.has x hx t (by rw[Js hox];exact ht);have h4:=xH (e:=Dz o.dst v e) hox ht hl (List.mem_reverse.2 (jf x hx));rw[h3] at h4;exact h4
 have:=Ui x hx;simp[this]
structure Jx (Aq:Array Oper) (n:Nat) (Dh a1 a2 b1 b2 c1 c2:List Nat) (A B C:Nat) (lo ef:Nat→Bool):Prop where
 a:tO Aq n (Dh++[A]) a1 a2 B C (fun x=>lo x||x==A) (fun x=>ef x&&x !=A)
 b:tO Aq n (Dh++[B]) b1 b2 C A (fun x=>lo x||x==B) (fun x=>ef x&&x !=B)
 c:tO Aq n (Dh++[C]) c1 c2 A B (fun x=>lo x||x==C) (fun x=>ef x&&x !=C)
 Bw:ef A=true
 Bx:ef B=true
 efC:ef C=true
 ne:A≠B∧A≠C∧B≠C
 np:A∉Dh∧B∉Dh∧C∉Dh
 still: ∀i∈Dh,ef i=false
 rest: ∀j,j<Aq.size→j∉Dh→j≠A→j≠B→j≠C→pos ((Dh++[A])++B::a1) C<pos ((Dh++[A])++B::a1) j∨pos ((Dh++[B])++C::b1) A<pos ((Dh++[B])++C::b1) j∨pos ((Dh++[C])++A::c1) B<pos ((Dh++[C])++A::c1) j
def jh(Dh a1 a2 b1 b2 c1 c2:List Nat)(A B C:Nat):List (List Nat×List Nat):=[((Dh++[A])++B::a1,A::B::a1),((Dh++[A])++C::a2,A::C::a2),((Dh++[B])++C::b1,B::C::b1),((Dh++[B])++A::b2,B::A::b2),((Dh++[C])++A::c1,C::A::c1),((Dh++[C])++B::c2,C::B::c2)]
theorem kU{x a:Nat}(h1:x≠a)(h2:x≠b):((lo x||x==a)||x==b)=lo x∧((ef x&&x !=a)&&x !=b)=ef x:=by
 have e1:(x==a)=false:=beq_eq_false_iff_ne.2 h1;have e2:(x==b)=false:=beq_eq_false_iff_ne.2 h2;unfold bne;rw[e1,e2];simp
theorem WJ{Dh:List Nat}{x:Nat}(hx:x∈Dh)(hi:i∉Dh):pos ((Dh++[j])++r) x<pos ((Dh++[j])++r) i:=by
 rw[List.append_assoc];exact TQ hx hi
theorem SU[Inhabited (List Deferred)]{Dh a1 a2 b1 b2 c1 c2:List Nat}{B C:Nat}(hc:Jx Aq n Dh a1 a2 b1 b2 c1 c2 A B C lo ef)(hdst: ∀x o,Aq[x]?=some o→lo x=true→ ∃t,o.dst=some t)(hK: ∀S e,K S e→ ∀w a,S w→IC a n e→Q .normal a w): ∀(fuel:Nat) (L:Array Bool) (a:Act) (w:World) (S:World→Prop) (V U:List (Nat×Value)) (e:GZ),V.length+(a1.length+2)=fuel→X P Aq lo ef (Z3 P Aq lo ef K Dh (B::a1) (C::a2)) [A] S U e→X P Aq lo ef (Z3 P Aq lo ef K Dh (C::b1) (A::b2)) [B] S U e→X P Aq lo ef (Z3 P Aq lo ef K Dh (A::c1) (B::c2)) [C] S U e→S w→
  (∀q∈jh Dh a1 a2 b1 b2 c1 c2 A B C,XH P Aq n q.1 L a S V q.2 e)→(∀x∈V,lo x.1=true→x∈U)→(∀x∈V,ef x.1=false)→wpAnyIn (Fr none) 0 P .any Aq Q fuel L a w:=by
 have Bm: ∀q∈jh Dh a1 a2 b1 b2 c1 c2 A B C,∃lo' XY,uY Aq n q.1 lo' XY:=fun q hq=>by
  unfold jh at hq;simp only[List.mem_cons,List.not_mem_nil,or_false] at hq;rcases hq with rfl|rfl|rfl|rfl|rfl|rfl
  ·exact⟨_,_,hc.a.one⟩
  ·exact⟨_,_,hc.a.aP⟩
  ·exact⟨_,_,hc.b.one⟩
  ·exact⟨_,_,hc.b.aP⟩
  ·exact⟨_,_,hc.c.one⟩
  exact⟨_,_,hc.c.aP⟩
 obtain⟨hAp,hBp,hCp⟩:=hc.np;obtain⟨hAB,mq,mt⟩:=hc.ne;have hpr: ∀x∈Dh,x≠A∧x≠B∧x≠C:=fun x hx=>⟨fun h=>hAp (h▸hx),fun h=>hBp (h▸hx),fun h=>hCp (h▸hx)⟩
 have hlab:a1.length=b1.length:=by
  have h1:=hc.a.one.len;have h2:=hc.b.one.len;simp only[List.length_append,List.length_cons,List.length_nil] at h1 h2;omega
 have AgQ:a1.length=c1.length:=by
  have h1:=hc.a.one.len;have h2:=hc.c.one.len;simp only[List.length_append,List.length_cons,List.length_nil] at h1 h2;omega
 intro fuel;induction fuel with
 |zero=>intro L a w S V U e hf;omega
 |succ fuel ih=>
  intro L a w S V U e hf hXA hXB hXC hS hI hU Ui;have h1:=hI ((Dh++[A])++B::a1,A::B::a1) (by simp[jh]);have h2:=hI ((Dh++[A])++C::a2,A::C::a2) (by simp[jh]);have h3:=hI ((Dh++[B])++C::b1,B::C::b1) (by simp[jh]);have h4:=hI ((Dh++[B])++A::b2,B::A::b2) (by simp[jh]);have h5:=hI ((Dh++[C])++A::c1,C::A::c1) (by simp[jh]);have h6:=hI ((Dh++[C])++B::c2,C::B::c2) (by simp[jh]);refine⟨fun h0=>(h1.ready hc.a.one (by simp) h0).elim,fun j hj=>?_⟩;obtain⟨dT,oj,hoj,hall⟩:=mem_ready.1 hj;have hjs:j<Aq.size:=(Array.getElem?_eq_some_iff.1 hoj).1;obtain⟨QE,hwant⟩:=YB (Aq:=Aq) (a:=a) (e:=e) (fun cs b=>Region.noSelect_spec hc.a.one.sX j oj cs b hoj) (h1.Xi hc.a.one (fun x hx=>by simp[Ui x hx]) hoj hall);rcases(h1.rem j hjs).1 dT with Wg|hjr
  ·obtain⟨x,hx,rfl⟩:=List.mem_map.1 Wg;obtain⟨ox,hox,hy⟩:=h1.still x hx;obtain rfl:ox=oj:=Option.some.inj (hox.symm.trans hoj);have hI': ∀q∈jh Dh a1 a2 b1 b2 c1 c2 A B C,XH P Aq n q.1 (L.setIfInBounds x.1 true) (a.put ox.dst x.2) S (V.filter (fun y=>y.1 !=x.1)) q.2 e:=fun q hq=>by
    obtain⟨lo',XY,hq'⟩:=Bm q hq;exact(hI q hq).take hq' hx hoj hall
   have hlen:=Qn V h1.nodup Wg;have B7: ∀y∈V.filter (fun y=>y.1 !=x.1),lo y.1=true→y∈U:=fun y hy hl=>hU y (List.mem_filter.1 hy).1 hl
   have hV': ∀y∈V.filter (fun y=>y.1 !=x.1),ef y.1=false:=fun y hy=>Ui y (List.mem_filter.1 hy).1
   unfold wpOpIn;rw[hoj];show if Region.wanted ox (yielded Aq a.tmps) then _ else _
   rcases hy with⟨Yz,hy⟩|⟨Yz,hv⟩
   ·rw[hwant,Yz,if_pos rfl];refine(KP (K:=fun u w'=>u=x.2∧S w') ?_ ?_)
    ·have:=hy w hS;unfold Pj at this⊢
     rw[QE];exact this
    rintro u w' ⟨rfl,hS'⟩;exact ih _ _ w' S _ U e (by omega) hXA hXB hXC hS' hI' B7 hV'
   rw[hwant,Yz];refine⟨fun _ _=>trivial,?_⟩;show wpAnyIn (Fr none) 0 P .any Aq Q fuel _ (a.put ox.dst undef) w;rw[←hv];exact ih _ _ w S _ U e (by omega) hXA hXB hXC hS hI' B7 hV'
  by_cases fd:j=A
  ·subst fd;exact kT hc.a hc.b.one (fun x hx=>WJ hx hAp) (by simp[hc.Bw,hAB,mq]) (fun x hx=>kU (hpr x hx).2.1 (hpr x hx).2.2) hc.Bw hdst hK (by omega) hXA hS h1 h2 hU Ui hoj hall QE hwant
  by_cases hjB:j=B
  ·subst hjB;exact kT hc.b hc.c.one (fun x hx=>WJ hx hBp) (by simp[hc.Bx,mt,Ne.symm hAB]) (fun x hx=>kU (hpr x hx).2.2 (hpr x hx).1) hc.Bx hdst hK (by omega) hXB hS h3 h4 hU Ui hoj hall QE hwant
  by_cases hjC:j=C
  ·subst hjC;exact kT hc.c hc.a.one (fun x hx=>WJ hx hCp) (by simp[hc.efC,Ne.symm mt,Ne.symm mq]) (fun x hx=>kU (hpr x hx).1 (hpr x hx).2.1) hc.efC hdst hK (by omega) hXC hS h5 h6 hU Ui hoj hall QE hwant
  have hAs:A<Aq.size:=hc.a.one.lt A (by simp);have hBs:B<Aq.size:=hc.a.one.lt B (by simp);have hCs:C<Aq.size:=hc.b.one.lt C (by simp);have hjp:j∉Dh:=fun hm=>by
   have nd:=hc.a.one.nodup;rw[show(Dh++[A])++B::a1=Dh++(A::B::a1) by simp,List.nodup_append] at nd;exact nd.2.2 j hm j hjr rfl
  have un: ∀z,z<Aq.size→z∈[A,B,C]→ ¬L.getD z false=true:=fun z hz hm hd=>by
   simp only[List.mem_cons,List.not_mem_nil,or_false] at hm;rcases hm with rfl|rfl|rfl
   ·exact(GL (Aq:=Aq) h1.size hz).1 hd ((h1.rem _ hz).2 (.inr (by simp)))
   ·exact(GL (Aq:=Aq) h1.size hz).1 hd ((h1.rem _ hz).2 (.inr (by simp)))
   exact(GL (Aq:=Aq) h1.size hz).1 hd ((h3.rem _ hz).2 (.inr (by simp)))
  rcases hc.rest j hjs hjp fd hjB hjC with hp|hp|hp
  ·exact(un C hCs (by simp) (Fa h1.Gt _ j oj hoj hall (hc.a.one.qw C j hCs hjs (by simp[hc.efC,Ne.symm mt,Ne.symm mq]) hp))).elim
  ·exact(un A hAs (by simp) (Fa h1.Gt _ j oj hoj hall (hc.b.one.qw A j hAs hjs (by simp[hc.Bw,hAB,mq]) hp))).elim
  exact(un B hBs (by simp) (Fa h1.Gt _ j oj hoj hall (hc.c.one.qw B j hBs hjs (by simp[hc.Bx,mt,Ne.symm hAB]) hp))).elim
def JN(Aq:Array Oper)(n:Nat)(Dh r1 r2:List Nat)(A B:Nat)(lo ef:Nat→Bool):Bool:=
 Bm Aq n (Dh++A::r1) (fun i=>lo i||i==A) (fun i=>ef i&&i !=A)&&Bm Aq n (Dh++B::r2) (fun i=>lo i||i==B) (fun i=>ef i&&i !=B)&&A !=B&&ef A&&ef B&&Dh.all (fun i=>!ef i)&&
 (List.range Aq.size).all (fun j=>Dh.contains j||j==A||j==B||decide (pos (Dh++A::r1) B<pos (Dh++A::r1) j)||decide (pos (Dh++B::r2) A<pos (Dh++B::r2) j))
theorem WL{Dh r1 r2:List Nat}{B:Nat}(h:JN Aq n Dh r1 r2 A B lo ef=true):tO Aq n Dh r1 r2 A B lo ef:=by
 unfold JN at h;simp only[Bool.and_eq_true,bne_iff_ne,List.all_eq_true,List.mem_range] at h;obtain⟨⟨⟨⟨⟨⟨k1,k2⟩,k3⟩,k4⟩,k5⟩,k6⟩,k7⟩:=h;refine⟨YA k1,YA k2,k3,k4,k5,fun i hi=>by simpa using k6 i hi,fun j hj h1 h2 h3=>?_⟩;have:=k7 j hj;simpa[h1,h2,h3] using this
def xI(Aq:Array Oper)(n:Nat)(Dh a1 a2 b1 b2 c1 c2:List Nat)(A B C:Nat)(lo ef:Nat→Bool):Bool:=
 JN Aq n (Dh++[A]) a1 a2 B C (fun x=>lo x||x==A) (fun x=>ef x&&x !=A)&&JN Aq n (Dh++[B]) b1 b2 C A (fun x=>lo x||x==B) (fun x=>ef x&&x !=B)&&JN Aq n (Dh++[C]) c1 c2 A B (fun x=>lo x||x==C) (fun x=>ef x&&x !=C)&&
 ef A&&ef B&&ef C&&(A !=B&&A !=C&&B !=C)&&(!Dh.contains A&&!Dh.contains B&&!Dh.contains C)&&Dh.all (fun i=>!ef i)&&(List.range Aq.size).all (fun i=>!lo i||match Aq[i]? with|some o=>o.dst.isSome|none=>true)&&
 (List.range Aq.size).all (fun j=>Dh.contains j||j==A||j==B||j==C||decide (pos ((Dh++[A])++B::a1) C<pos ((Dh++[A])++B::a1) j)||decide (pos ((Dh++[B])++C::b1) A<pos ((Dh++[B])++C::b1) j)||decide (pos ((Dh++[C])++A::c1) B<pos ((Dh++[C])++A::c1) j))
def tre(P:Program)(Aq:Array Oper)(lo ef:Nat→Bool)(K:(World→Prop)→GZ→Prop)(Dh a1 a2 b1 b2 c1 c2:List Nat)(A B C:Nat)(S:World→Prop)(e:GZ):Prop:=
 X P Aq lo ef (Z3 P Aq lo ef K Dh (B::a1) (C::a2)) [A] S (uO Aq lo Dh.reverse e) e∧X P Aq lo ef (Z3 P Aq lo ef K Dh (C::b1) (A::b2)) [B] S (uO Aq lo Dh.reverse e) e∧X P Aq lo ef (Z3 P Aq lo ef K Dh (A::c1) (B::c2)) [C] S (uO Aq lo Dh.reverse e) e
theorem JT[Inhabited (List Deferred)]{Dh a1 a2 b1 b2 c1 c2:List Nat}{A B C:Nat}(hc:Jx Aq n Dh a1 a2 b1 b2 c1 c2 A B C lo ef)(hdst: ∀i o,Aq[i]?=some o→lo i=true→ ∃t,o.dst=some t)(hK: ∀S e,K S e→ ∀w a,S w→IC a n e→Q .normal a w){S:World→Prop}:
  ∀(r:List Nat) (L:Array Bool) (a:Act) (w:World) (V U:List (Nat×Value)) (e:GZ),(∀i∈r,ef i=false)→X P Aq lo ef (tre P Aq lo ef K Dh a1 a2 b1 b2 c1 c2 A B C) r S U e→S w→
   (∀q∈jh Dh a1 a2 b1 b2 c1 c2 A B C,XH P Aq n q.1 L a S V (r++q.2) e)→(∀x∈V,ef x.1=false)→wpAnyIn (Fr none) 0 P .any Aq Q (V.length+(r.length+(a1.length+2))) L a w
 |[],L,a,w,V,U,e,_,hX,hS,hI,Ui=>by
  have h1:=hI ((Dh++[A])++B::a1,A::B::a1) (by simp[jh]);have jf: ∀x∈V,x.1∈Dh:=fun x hx=>by
   obtain⟨p,hp,hq⟩:=h1.Wf;simp only at hp;rw[show(Dh++[A])++B::a1=Dh++([]++(A::B::a1)) by simp] at hp;obtain rfl:Dh=p:=List.append_cancel_right hp;exact hq x hx
  refine SU hc hdst hK _ L a w S V _ e (by simp) hX.1 hX.2.1 hX.2.2 hS hI (fun x hx hl=>?_) Ui;obtain⟨ox,hox,-⟩:=h1.still x hx;obtain⟨t,ht⟩:=hdst x.1 ox hox hl;have h3:=h1.has x hx t (by rw[Js hox];exact ht);have h4:=xH (e:=e) hox ht hl (List.mem_reverse.2 (jf x hx));rw[h3] at h4;exact h4
 |i::r,L,a,w,V,U,e,hq,⟨o,ho,hx⟩,hS,hI,Ui=>by
  have XV:=hq i (List.mem_cons_self ..);rw[XV] at hx;obtain⟨v,hy,hx⟩:=hx;have:=JT hc hdst hK r L a w (V++[(i,v)]) _ (Dz o.dst v e) (fun k hk=>hq k (List.mem_cons_of_mem _ hk)) hx hS (fun q hq'=>by
   have h:=hI q hq';unfold jh at hq';simp only[List.mem_cons,List.not_mem_nil,or_false] at hq';rcases hq' with rfl|rfl|rfl|rfl|rfl|rfl
   ·exact h.Uy hc.a.one ho (by simp[XV]) hy
   ·exact h.Uy hc.a.aP ho (by simp[XV]) hy
   ·exact h.Uy hc.b.one ho (by simp[XV]) hy
   ·exact h.Uy hc.b.aP ho (by simp[XV]) hy
   ·exact h.Uy hc.c.one ho (by simp[XV]) hy
   ·exact h.Uy hc.c.aP ho (by simp[XV]) hy) (fun x hx'=>by
   rcases List.mem_append.1 hx' with hx'|hx'
   ·exact Ui x hx'
   simp only[List.mem_singleton] at hx';subst hx';exact XV)
  rw[List.length_append,List.length_singleton] at this;rw[List.length_cons,show V.length+(r.length+1+(a1.length+2))=V.length+1+(r.length+(a1.length+2)) by omega];exact this
theorem oS[Inhabited (List Deferred)]{Dh a1 a2 b1 b2 c1 c2:List Nat}{B C:Nat}(hm:P.follows .mixedOrders=true)(hck:xI Aq n Dh a1 a2 b1 b2 c1 c2 A B C lo ef=true)(hK: ∀S e,K S e→ ∀w a,S w→IC a n e→Q .normal a w)
  (hX:X P Aq lo ef (tre P Aq lo ef K Dh a1 a2 b1 b2 c1 c2 A B C) Dh S [] e) (hS: ∀w,S w→S w.drew) {a:Act} (hw:S w) (hF:IC a n e):(Code.region id Aq true).wp P Q a w:=by
 unfold xI at hck;simp only[Bool.and_eq_true,List.all_eq_true,List.mem_range,bne_iff_ne] at hck;obtain⟨⟨⟨⟨⟨⟨⟨⟨⟨⟨k1,k2⟩,k3⟩,k4⟩,k5⟩,k6⟩,⟨k7,k8⟩,k9⟩,⟨k10,k11⟩,k12⟩,k13⟩,k14⟩,k15⟩:=hck;have hc:Jx Aq n Dh a1 a2 b1 b2 c1 c2 A B C lo ef:=⟨WL k1,WL k2,WL k3,k4,k5,k6,⟨k7,k8,k9⟩,⟨by simpa using k10,by simpa using k11,by simpa using k12⟩,fun i hi=>by simpa using k13 i hi,fun j hj h1 h2 h3 h4=>by
  have:=k15 j hj;simpa[h1,h2,h3,h4,or_assoc] using this⟩
 have hdst: ∀i o,Aq[i]?=some o→lo i=true→ ∃t,o.dst=some t:=fun i o ho hl=>by
  have:=k14 i (Array.getElem?_eq_some_iff.1 ho).1;rw[ho,hl] at this;simpa[Option.isSome_iff_exists] using this
 have hlen:([]:List (Nat×Value)).length+(Dh.length+(a1.length+2))=Aq.size:=by
  have:=hc.a.one.len;simp only[List.length_append,List.length_cons,List.length_nil] at this;simp only[List.length_nil];omega
 refine wpIn_wide.1 (wpIn_region_any (F:=Fr none) (n:=0) hm ?_);have inv: ∀(ord rP:List Nat) (lo' XY:Nat→Bool),uY Aq n ord lo' XY→ord=rP→XH P Aq n ord (Array.replicate Aq.size false) {a with tmps:=a.tmps} S [] rP e:=fun ord rP lo' XY hc' ho=>by
  subst ho;refine⟨by simp,hF.defers,hF.size,fun t _=>hF.at_ t,by simp,fun i hi=>?_,fun j oj ho hl=>?_,⟨[],rfl,by simp⟩,by simp,by simp⟩
  ·have:=hc'.mem i hi;simp[hi,this]
  have hj:j<Aq.size:=(Array.getElem?_eq_some_iff.1 ho).1;simp[hj] at hl
 have:=JT hc hdst hK Dh (Array.replicate Aq.size false) a w.drew [] [] e hc.still hX (hS w hw) (fun q hq'=>by
   unfold jh at hq';simp only[List.mem_cons,List.not_mem_nil,or_false] at hq';rcases hq' with rfl|rfl|rfl|rfl|rfl|rfl
   ·exact inv _ _ _ _ hc.a.one (by simp)
   ·exact inv _ _ _ _ hc.a.aP (by simp)
   ·exact inv _ _ _ _ hc.b.one (by simp)
   ·exact inv _ _ _ _ hc.b.aP (by simp)
   ·exact inv _ _ _ _ hc.c.one (by simp)
   exact inv _ _ _ _ hc.c.aP (by simp)) (by simp)
 rw[hlen] at this;exact this
end
section
variable{r:List Code}
theorem T.Ab9[Inhabited (List Deferred)](Dh a1 a2 b1 b2 c1 c2:List Nat)(A B C:Nat){lo:Nat→Bool}(hck:xI Aq n Dh a1 a2 b1 b2 c1 c2 A B C lo ef=true)(hS: ∀w,S w→S w.drew)
  (h:X Tryz.prog Aq lo ef (tre Tryz.prog Aq lo ef (fun S e=>T Q n r S e) Dh a1 a2 b1 b2 c1 c2 A B C) Dh S [] e):T Q n (.region id Aq true::r) S e:=fun w a hw hF=>
 oS Wm hck (fun S' e' (hk:T Q n r S' e') w' a' hS' hF'=>hk w' a' hS' hF') h hS hw hF
end
namespace Mp
open Iv
theorem Rt{m D5:Int}{x:Int}(h1:m=1)(hm:1≤D5)(hn:n≤64)(hx:x=(n:Int)):Ce (α:=Nat×Nat×Nat×Nat) C 41 [.int .i64 m,.int .i64 D5,.int .i64 x] l Cj (fun u=> .agg #[Dc u.1 1 u.2.1,Dc u.2.2.1 1 u.2.2.2,.int .i64 D5]) l (fun _=>True) (fun u=>GR (Dc u.1 1 u.2.1) (Dc u.2.2.1 1 u.2.2.2) ⟨[[1]],[List.replicate n 0],D5⟩):=by
 subst h1 hx;exact SJ hm hn
theorem Ii(h:c.Ok){k:Nat}(hk:((k:Nat):Int)+1=c.nodes):c.BM.getD k 0=c.map.CU c.nodes∧0≤c.map.CU c.nodes∧c.map.CU c.nodes≤64:=by
 have h1:=I7 h (v:=c.nodes) ⟨by omega,by omega⟩;refine⟨?_,by omega,by omega⟩;rw[Py ⟨by omega,by omega⟩,show(c.nodes-1).toNat=k by omega]
abbrev WM(c:Fj):Pr:=⟨⟨[[1]],[List.replicate (c.map.CU c.nodes).toNat 0],c.Af⟩,(List.replicate (c.nodes.toNat+1) 0).set c.nodes.toNat 1,true⟩
theorem SN(h:j<n):Qb (List.replicate n v) (0+((j:Nat):Int).toNat*1)=some v:=by
 rw[FO,List.getElem?_replicate,if_pos (by omega)]
theorem P7{x y:Int}:NL (List.replicate n (.int .i64 y)) (0+((j:Nat):Int).toNat*1) (.int .i64 x)=Dl ((List.replicate n y).set j x):=by
 rw[OX,show 0+((j:Nat):Int).toNat*1=j by omega,←ZJ,ZH]
theorem WN{k mb a1 a2 a3 a4 L:Nat}(hk:((k:Nat):Int)+1=c.nodes)(hL:L=k+1)(hm:k+2≤maxLen)(h:Az [⟨mb,3,Dl ((List.replicate (k+2) 0).set L 1)⟩] (GR (Dc a1 1 a2) (Dc a3 1 a4) ⟨[[1]],[List.replicate (c.map.CU c.nodes).toNat 0],c.Af⟩) D w):PR (Dc a1 1 a2) (Dc a3 1 a4) (Dc mb (k+2) (k+2)) (WM c) D w:=by
 have e:(WM c).at_=(List.replicate (k+2) 0).set L 1:=by
  show(List.replicate (c.nodes.toNat+1) 0).set c.nodes.toNat 1=_;rw[show c.nodes.toNat=k+1 by omega,hL]
 have el:(WM c).at_.length=k+2:=by rw[e,List.length_set,List.length_replicate]
 refine⟨(mb,k+2,[]),⟨by rw[el],by rw[el];exact Nat.le_refl _,hm,by rw[el];rfl⟩,?_⟩;rw[e,List.append_nil];exact h
end Mp
theorem Ru:Pm 60 2 6=true:=by kernel_rfl
theorem Rw:Pm 60 6 10=true:=by kernel_rfl
theorem g40:Cm 40=true:=by kernel_rfl
theorem fe:Cm 41=true:=by kernel_rfl
theorem Z6:Jv 58 [(0,3),(3,1),(4,1)]=true:=by kernel_rfl
namespace Mp
open Iv
theorem rQ(hc:c.Ok)(h1:c.Ak=1):Ce (α:=Value×Value×Value) C 16 [.agg c.cells.toArray] l Cj (fun u=> .agg #[u.1,u.2.1,.int .i64 c.Af,u.2.2,.bool true]) l MH (fun u=>PR u.1 u.2.1 u.2.2 (WM c)):=by
 have hn:=hc.nodes;have hcl:=kN hc;have ZL:=hc.Af.1;obtain⟨k,hk⟩: ∃k:Nat,((k:Nat):Int)+1=c.nodes:=⟨(c.nodes-1).toNat,by omega⟩;have hL:(Qd c).length=k+1:=by omega
 have hrl:=Il c;have hkr:k<c.BM.length:=by omega
 have hrm:=Ii hc hk;have BE:k+2≤maxLen:=by rw[show maxLen=9223372036854775807 from rfl];omega
 refine Ci 29 Tryz.func16 Z Aa fun w0 D0=>AZ 2 [3] Z<|F7 Z CE fun b0=>Hg Z aT CE fun b1=>AP 4 [2,1] Z<|NW (H1:=[_,_]) (H2:=[]) (B:=fun(a:Value×List Bk)=>a.2) Z g40 Z (Is hc) (fun _=>Aa) JH fun a2 ha2=>AY 3 [] Z ?_
 obtain⟨av,AB⟩:=a2;obtain⟨ab,ar,am,rfl,-,-,-,-,rfl⟩:=(show Ht 3 1 av (Qd c).length (Dl c.BM) AB from ha2).resolve_left (fun h=>by have:=h.2.1;omega);refine T.Ab9 [0,1,2,3,4,5,6,7,8,9,11,12,13] [15,16,17] [14,15,17] [10,15,17] [15,16,17] [14,15,17] [10,15,17] 10 14 16 (lo:=(fun i=>[0,1,2,3,4,5,6,7,8,9,11,12,13,15].contains i)) (ef:=(fun i=>[10,14,16,17].contains i)) (by kernel_rfl) (fun _ h=>h.drew)<|uG Z Ru<|JY Z o3 (.s .z) Z<|uG Z Rw<|JY Z o3 (.s .z) Z<|NC Z<|NC Z<|aV Z CX<|BU (c:=((k:Nat):Int)) Z (by simp only[FC];rw[IntWalk.i64_in _ (by omega)];omega)<|Jm Z JV (by omega)<|JY (v:= .int .i64 (c.map.CU c.nodes)) Z o3 (.s (.s .z)) (by rw[←(Ii hc hk).1];exact EL hkr)<|NC Z<|aV Z CX<|BU (c:=((k+2:Nat):Int)) Z (by simp only[FC];rw[IntWalk.i64_in _ (by omega)];omega)<|X.nil ?_;refine⟨?_,?_,?_⟩
 ·skip;refine NW (H1:=[_,_,_]) (H2:=[]) (B:=fun(_:Nat×Nat×Nat×Nat)=>[]) Z fe Z (Rt (n:=(c.map.CU c.nodes).toNat) h1 ZL (by omega) (by omega)) (fun _=>C9) (fun a3 JK=>(KT (c:=((k+2:Nat):Int)) Z (by simp only[FC];rw[IntWalk.i64_in _ (by omega)];omega) (KU Z Z CX (Bv Z (Aj (by kernel_rfl) (Aj (by kernel_rfl) (Aj (by kernel_rfl) (Aj (by kernel_rfl) (Aj (by kernel_rfl) (Aj (by kernel_rfl) (Aj (by kernel_rfl) (Aj (by kernel_rfl) (Aj (by kernel_rfl) (Aj (by kernel_rfl) Aw)))))))))))))) fun a3 JK=>X.nil ?_
  refine⟨?_,?_⟩
  ·skip;refine Zs (n:=k+2) (by omega) (by omega) Z Z Z Z JV z3 (fun _=>(Aj (by kernel_rfl) (Aj (by kernel_rfl) (Aj (by kernel_rfl) (BP Z o3 (.s (.s (.s .z))) (by rw[←(Ii hc hk).1];exact EL hkr) (bH Z Z Z JV (by omega) (KT (c:=((k:Nat):Int)) Z (by simp only[FC];rw[IntWalk.i64_in _ (by omega)];omega) (KU Z Z CX (Bv Z (Bv Z (BP Z o3 (.s (.s .z)) Z (Ed Z Rw (BP Z o3 (.s (.s .z)) Z (Ed Z Ru Aw)))))))))))))) fun mb=>Fp Z Z6 aT Z<|Hg Z aT (fun _=>(wD Z Z Z6 aT Z (KT (c:=((k+2:Nat):Int)) Z (by simp only[FC];rw[IntWalk.i64_in _ (by omega)];omega) (KU Z Z CX (Bv Z (BP Z o3 (.s (.s (.s (.s .z)))) (by rw[←(Ii hc hk).1];exact EL hkr) (bH Z Z Z JV (by omega) (KT (c:=((k:Nat):Int)) Z (by simp only[FC];rw[IntWalk.i64_in _ (by omega)];omega) (KU Z Z CX (Bv Z (Bv Z (BP Z o3 (.s (.s (.s .z))) Z (Ed Z Rw (BP Z o3 (.s (.s (.s .z))) Z (Ed Z Ru Aw))))))))))))))) fun b4=>?_
   refine H9 Z Um Z Z .z (Nat.le_of_ble_eq_true Z) .z (Aj (by kernel_rfl) (Aj (by kernel_rfl) (Aj (by kernel_rfl) (Aj (by kernel_rfl) (Aj (by kernel_rfl) (Aj (by kernel_rfl) (Aj (by kernel_rfl) (Aj (by kernel_rfl) (Aj (by kernel_rfl) (Aj (by kernel_rfl) (Aj (by kernel_rfl) (Aj (by kernel_rfl) (Aj (by kernel_rfl) (Aj (by kernel_rfl) Aw))))))))))))))<|AP 7 [32] Z<|Jm Z JV (by omega)<|KQ Z o3 Z (.s .z) (SN (by omega)) (.s .z) Aw ?_;rw[P7];refine AY 6 [2,0,2] Z<|T.Io Z Z Um (.s (.s .z)) Z fun W D h=>?_
   obtain⟨D1,h1,h2⟩:=(Wk.pick [1] (by decide)) D W h;exact⟨D1,⟨(Dc a3.1 1 a3.2.1,Dc a3.2.2.1 1 a3.2.2.2,Dc mb (k+2) (k+2)),rfl,⟨rfl,rfl,rfl⟩,rfl,WN hk hL BE h1⟩,h2⟩
  skip;refine Hg Z aT (fun _=>(KT (c:=((k+2:Nat):Int)) Z (by simp only[FC];rw[IntWalk.i64_in _ (by omega)];omega) (KU Z Z CX (Bv Z (BP Z o3 (.s (.s (.s .z))) (by rw[←(Ii hc hk).1];exact EL hkr) (bH Z Z Z JV (by omega) (KT (c:=((k:Nat):Int)) Z (by simp only[FC];rw[IntWalk.i64_in _ (by omega)];omega) (KU Z Z CX (Bv Z (Bv Z (BP Z o3 (.s (.s .z)) Z (Ed Z Rw (BP Z o3 (.s (.s .z)) Z (Ed Z Ru Aw)))))))))))))) fun b5=>Zs (n:=k+2) (by omega) (by omega) Z Z Z Z JV z3 (fun _=>(Aj (by kernel_rfl) (Aj (by kernel_rfl) (Aj (by kernel_rfl) (BP Z o3 (.s (.s (.s (.s .z)))) (by rw[←(Ii hc hk).1];exact EL hkr) (bH Z Z Z JV (by omega) (KT (c:=((k:Nat):Int)) Z (by simp only[FC];rw[IntWalk.i64_in _ (by omega)];omega) (KU Z Z CX (Bv Z (Bv Z (BP Z o3 (.s (.s (.s .z))) Z (Ed Z Rw (BP Z o3 (.s (.s (.s .z))) Z (Ed Z Ru Aw)))))))))))))) fun mb=>Fp Z Z6 aT Z ?_
  refine H9 Z Um Z Z (.s .z) (Nat.le_of_ble_eq_true Z) (.s .z) (Aj (by kernel_rfl) (Aj (by kernel_rfl) (Aj (by kernel_rfl) (Aj (by kernel_rfl) (Aj (by kernel_rfl) (Aj (by kernel_rfl) (Aj (by kernel_rfl) (Aj (by kernel_rfl) (Aj (by kernel_rfl) (Aj (by kernel_rfl) (Aj (by kernel_rfl) (Aj (by kernel_rfl) (Aj (by kernel_rfl) (Aj (by kernel_rfl) Aw))))))))))))))<|AP 7 [32,1] Z<|Jm Z JV (by omega)<|KQ Z o3 Z .z (SN (by omega)) .z Aw ?_;rw[P7];refine AY 6 [2,1,2] Z<|T.Io Z Z Um (.s (.s .z)) Z fun W D h=>?_
  obtain⟨D1,h1,h2⟩:=(Wk.pick [0] (by decide)) D W h;exact⟨D1,⟨(Dc a3.1 1 a3.2.1,Dc a3.2.2.1 1 a3.2.2.2,Dc mb (k+2) (k+2)),rfl,⟨rfl,rfl,rfl⟩,rfl,WN hk hL BE h1⟩,h2⟩
 ·skip;refine Zs (n:=k+2) (by omega) (by omega) Z Z Z Z JV z3 (fun _=>(Aj (by kernel_rfl) (Aj (by kernel_rfl) (Aj (by kernel_rfl) (BP Z o3 (.s (.s (.s .z))) (by rw[←(Ii hc hk).1];exact EL hkr) (bH Z Z Z JV (by omega) (KT (c:=((k:Nat):Int)) Z (by simp only[FC];rw[IntWalk.i64_in _ (by omega)];omega) (KU Z Z CX (Bv Z (Bv Z (BP Z o3 (.s (.s .z)) Z (Ed Z Rw (BP Z o3 (.s (.s .z)) Z (Ed Z Ru Aw)))))))))))))) fun mb=>X.nil ?_
  refine⟨?_,?_⟩
  ·skip;refine Hg Z aT (fun _=>(KT (c:=((k+2:Nat):Int)) Z (by simp only[FC];rw[IntWalk.i64_in _ (by omega)];omega) (KU Z Z CX (Bv Z (BP Z o3 (.s (.s (.s (.s .z)))) (by rw[←(Ii hc hk).1];exact EL hkr) (bH Z Z Z JV (by omega) (KT (c:=((k:Nat):Int)) Z (by simp only[FC];rw[IntWalk.i64_in _ (by omega)];omega) (KU Z Z CX (Bv Z (Bv Z (BP Z o3 (.s (.s (.s .z))) Z (Ed Z Rw (BP Z o3 (.s (.s (.s .z))) Z (Ed Z Ru Aw)))))))))))))) fun b6=>NW (H1:=[_,_,_,_,_]) (H2:=[]) (B:=fun(_:Nat×Nat×Nat×Nat)=>[]) Z fe Z (Rt (n:=(c.map.CU c.nodes).toNat) h1 ZL (by omega) (by omega)) (fun _=>C9) (fun a7 ha7=>(KT (c:=((k+2:Nat):Int)) Z (by simp only[FC];rw[IntWalk.i64_in _ (by omega)];omega) (KU Z Z CX (Bv Z (Aj (by kernel_rfl) (Aj (by kernel_rfl) (Aj (by kernel_rfl) (Aj (by kernel_rfl) (Aj (by kernel_rfl) (Aj (by kernel_rfl) (Aj (by kernel_rfl) (Aj (by kernel_rfl) (Aj (by kernel_rfl) (Aj (by kernel_rfl) Aw)))))))))))))) fun a7 ha7=>Fp Z Z6 aT Z ?_
   refine H9 Z Um Z Z .z (Nat.le_of_ble_eq_true Z) .z (Aj (by kernel_rfl) (Aj (by kernel_rfl) (Aj (by kernel_rfl) (Aj (by kernel_rfl) (Aj (by kernel_rfl) (Aj (by kernel_rfl) (Aj (by kernel_rfl) (Aj (by kernel_rfl) (Aj (by kernel_rfl) (Aj (by kernel_rfl) (Aj (by kernel_rfl) (Aj (by kernel_rfl) (Aj (by kernel_rfl) (Aj (by kernel_rfl) Aw))))))))))))))<|AP 7 [32] Z<|Jm Z JV (by omega)<|KQ Z o3 Z (.s .z) (SN (by omega)) (.s .z) Aw ?_;rw[P7];refine AY 6 [2,0,2] Z<|T.Io Z Z Um (.s (.s .z)) Z fun W D h=>?_
   obtain⟨D1,h1,h2⟩:=(Wk.pick [1] (by decide)) D W h;exact⟨D1,⟨(Dc a7.1 1 a7.2.1,Dc a7.2.2.1 1 a7.2.2.2,Dc mb (k+2) (k+2)),rfl,⟨rfl,rfl,rfl⟩,rfl,WN hk hL BE h1⟩,h2⟩
  skip;refine NW (H1:=[_,_,_,_]) (H2:=[]) (B:=fun(_:Nat×Nat×Nat×Nat)=>[]) Z fe Z (Rt (n:=(c.map.CU c.nodes).toNat) h1 ZL (by omega) (by omega)) (fun _=>C9) (fun a8 ha8=>(KT (c:=((k+2:Nat):Int)) Z (by simp only[FC];rw[IntWalk.i64_in _ (by omega)];omega) (KU Z Z CX (Bv Z (Aj (by kernel_rfl) (Aj (by kernel_rfl) (Aj (by kernel_rfl) (Aj (by kernel_rfl) (Aj (by kernel_rfl) (Aj (by kernel_rfl) (Aj (by kernel_rfl) (Aj (by kernel_rfl) (Aj (by kernel_rfl) (Aj (by kernel_rfl) Aw)))))))))))))) fun a8 ha8=>Fp Z Z6 aT Z<|Hg Z aT (fun _=>(wD Z Z Z6 aT Z (KT (c:=((k+2:Nat):Int)) Z (by simp only[FC];rw[IntWalk.i64_in _ (by omega)];omega) (KU Z Z CX (Bv Z (BP Z o3 (.s (.s (.s (.s .z)))) (by rw[←(Ii hc hk).1];exact EL hkr) (bH Z Z Z JV (by omega) (KT (c:=((k:Nat):Int)) Z (by simp only[FC];rw[IntWalk.i64_in _ (by omega)];omega) (KU Z Z CX (Bv Z (Bv Z (BP Z o3 (.s (.s (.s .z))) Z (Ed Z Rw (BP Z o3 (.s (.s (.s .z))) Z (Ed Z Ru Aw))))))))))))))) fun b9=>?_
  refine H9 Z Um Z Z .z (Nat.le_of_ble_eq_true Z) .z (Aj (by kernel_rfl) (Aj (by kernel_rfl) (Aj (by kernel_rfl) (Aj (by kernel_rfl) (Aj (by kernel_rfl) (Aj (by kernel_rfl) (Aj (by kernel_rfl) (Aj (by kernel_rfl) (Aj (by kernel_rfl) (Aj (by kernel_rfl) (Aj (by kernel_rfl) (Aj (by kernel_rfl) (Aj (by kernel_rfl) (Aj (by kernel_rfl) Aw))))))))))))))<|AP 7 [32] Z<|Jm Z JV (by omega)<|KQ Z o3 Z (.s .z) (SN (by omega)) (.s .z) Aw ?_;rw[P7];refine AY 6 [2,0,2] Z<|T.Io Z Z Um (.s (.s .z)) Z fun W D h=>?_
  obtain⟨D1,h1,h2⟩:=(Wk.pick [1] (by decide)) D W h;exact⟨D1,⟨(Dc a8.1 1 a8.2.1,Dc a8.2.2.1 1 a8.2.2.2,Dc mb (k+2) (k+2)),rfl,⟨rfl,rfl,rfl⟩,rfl,WN hk hL BE h1⟩,h2⟩
 skip;refine Hg Z aT (fun _=>(KT (c:=((k+2:Nat):Int)) Z (by simp only[FC];rw[IntWalk.i64_in _ (by omega)];omega) (KU Z Z CX (Bv Z (BP Z o3 (.s (.s (.s .z))) (by rw[←(Ii hc hk).1];exact EL hkr) (bH Z Z Z JV (by omega) (KT (c:=((k:Nat):Int)) Z (by simp only[FC];rw[IntWalk.i64_in _ (by omega)];omega) (KU Z Z CX (Bv Z (Bv Z (BP Z o3 (.s (.s .z)) Z (Ed Z Rw (BP Z o3 (.s (.s .z)) Z (Ed Z Ru Aw)))))))))))))) fun b10=>X.nil ?_
 refine⟨?_,?_⟩
 ·skip;refine NW (H1:=[_,_,_,_]) (H2:=[]) (B:=fun(_:Nat×Nat×Nat×Nat)=>[]) Z fe Z (Rt (n:=(c.map.CU c.nodes).toNat) h1 ZL (by omega) (by omega)) (fun _=>C9) (fun a11 AbA=>(KT (c:=((k+2:Nat):Int)) Z (by simp only[FC];rw[IntWalk.i64_in _ (by omega)];omega) (KU Z Z CX (Bv Z (Aj (by kernel_rfl) (Aj (by kernel_rfl) (Aj (by kernel_rfl) (Aj (by kernel_rfl) (Aj (by kernel_rfl) (Aj (by kernel_rfl) (Aj (by kernel_rfl) (Aj (by kernel_rfl) (Aj (by kernel_rfl) (Aj (by kernel_rfl) Aw)))))))))))))) fun a11 AbA=>Zs (n:=k+2) (by omega) (by omega) Z Z Z Z JV z3 (fun _=>(Aj (by kernel_rfl) (Aj (by kernel_rfl) (Aj (by kernel_rfl) (BP Z o3 (.s (.s (.s (.s .z)))) (by rw[←(Ii hc hk).1];exact EL hkr) (bH Z Z Z JV (by omega) (KT (c:=((k:Nat):Int)) Z (by simp only[FC];rw[IntWalk.i64_in _ (by omega)];omega) (KU Z Z CX (Bv Z (Bv Z (BP Z o3 (.s (.s (.s .z))) Z (Ed Z Rw (BP Z o3 (.s (.s (.s .z))) Z (Ed Z Ru Aw)))))))))))))) fun mb=>Fp Z Z6 aT Z ?_
  refine H9 Z Um Z Z (.s .z) (Nat.le_of_ble_eq_true Z) (.s .z) (Aj (by kernel_rfl) (Aj (by kernel_rfl) (Aj (by kernel_rfl) (Aj (by kernel_rfl) (Aj (by kernel_rfl) (Aj (by kernel_rfl) (Aj (by kernel_rfl) (Aj (by kernel_rfl) (Aj (by kernel_rfl) (Aj (by kernel_rfl) (Aj (by kernel_rfl) (Aj (by kernel_rfl) (Aj (by kernel_rfl) (Aj (by kernel_rfl) Aw))))))))))))))<|AP 7 [32,1] Z<|Jm Z JV (by omega)<|KQ Z o3 Z .z (SN (by omega)) .z Aw ?_;rw[P7];refine AY 6 [2,1,2] Z<|T.Io Z Z Um (.s (.s .z)) Z fun W D h=>?_
  obtain⟨D1,h1,h2⟩:=(Wk.pick [0] (by decide)) D W h;exact⟨D1,⟨(Dc a11.1 1 a11.2.1,Dc a11.2.2.1 1 a11.2.2.2,Dc mb (k+2) (k+2)),rfl,⟨rfl,rfl,rfl⟩,rfl,WN hk hL BE h1⟩,h2⟩
 skip;refine Zs (n:=k+2) (by omega) (by omega) Z Z Z Z JV z3 (fun _=>(Aj (by kernel_rfl) (Aj (by kernel_rfl) (Aj (by kernel_rfl) (BP Z o3 (.s (.s (.s (.s .z)))) (by rw[←(Ii hc hk).1];exact EL hkr) (bH Z Z Z JV (by omega) (KT (c:=((k:Nat):Int)) Z (by simp only[FC];rw[IntWalk.i64_in _ (by omega)];omega) (KU Z Z CX (Bv Z (Bv Z (BP Z o3 (.s (.s (.s .z))) Z (Ed Z Rw (BP Z o3 (.s (.s (.s .z))) Z (Ed Z Ru Aw)))))))))))))) fun mb=>NW (H1:=[_,_,_,_,_]) (H2:=[]) (B:=fun(_:Nat×Nat×Nat×Nat)=>[]) Z fe Z (Rt (n:=(c.map.CU c.nodes).toNat) h1 ZL (by omega) (by omega)) (fun _=>C9) (fun a12 AbB=>(KT (c:=((k+2:Nat):Int)) Z (by simp only[FC];rw[IntWalk.i64_in _ (by omega)];omega) (KU Z Z CX (Bv Z (Aj (by kernel_rfl) (Aj (by kernel_rfl) (Aj (by kernel_rfl) (Aj (by kernel_rfl) (Aj (by kernel_rfl) (Aj (by kernel_rfl) (Aj (by kernel_rfl) (Aj (by kernel_rfl) (Aj (by kernel_rfl) (Aj (by kernel_rfl) Aw)))))))))))))) fun a12 AbB=>Fp Z Z6 aT Z ?_
 refine H9 Z Um Z Z (.s .z) (Nat.le_of_ble_eq_true Z) (.s .z) (Aj (by kernel_rfl) (Aj (by kernel_rfl) (Aj (by kernel_rfl) (Aj (by kernel_rfl) (Aj (by kernel_rfl) (Aj (by kernel_rfl) (Aj (by kernel_rfl) (Aj (by kernel_rfl) (Aj (by kernel_rfl) (Aj (by kernel_rfl) (Aj (by kernel_rfl) (Aj (by kernel_rfl) (Aj (by kernel_rfl) (Aj (by kernel_rfl) Aw))))))))))))))<|AP 7 [32,1] Z<|Jm Z JV (by omega)<|KQ Z o3 Z .z (SN (by omega)) .z Aw ?_;rw[P7];refine AY 6 [2,1,2] Z<|T.Io Z Z Um (.s (.s .z)) Z fun W D h=>?_
 obtain⟨D1,h1,h2⟩:=(Wk.pick [0] (by decide)) D W h;exact⟨D1,⟨(Dc a12.1 1 a12.2.1,Dc a12.2.2.1 1 a12.2.2.2,Dc mb (k+2) (k+2)),rfl,⟨rfl,rfl,rfl⟩,rfl,WN hk hL BE h1⟩,h2⟩
theorem MI(a:Addr)(i j:Nat):(a.add i).add j=a.add (i+j):=by
 unfold Addr.add;by_cases h1:i=0
 ·subst h1;simp
 by_cases h2:j=0
 ·subst h2;simp[h1]
 rw[if_neg h1,if_neg h2,if_neg (by omega)];simp[Nat.add_assoc]
theorem rU(a:Addr)(n:Nat):(a.add n).block=a.block:=by
 unfold Addr.add;split<;>rfl
structure By (w:World) (D:LV) (ad:Option Addr) (n:Nat):Prop where
 at_: ∀a,ad=some a→a.block<w.heap.size∧ ¬D a.block∧ ∀i,i<n→ ∃z,w.cell? (a.add i)=some (.int .u8 z)∧0≤z∧z≤255
def BV(ad:Option Addr)(n:Nat)(v:Value)(m:Nat):Prop:=(∃c,v= .slice none 0 c∧m=0)∨ ∃a k c,ad=some a∧v= .slice (some (a.add k)) m c∧m≤c∧(0<m→k+m=n)
theorem BV.cell{ad:Option Addr}(h:BV ad n v m):BL v=true:=by
 rcases h with⟨c,rfl,-⟩|⟨a,k,c,-,rfl,-⟩
 ·rfl
 rfl
theorem SW{e len c s:Nat}{a:Addr}{j:Int}(h:Ip t e n=true)(hj:j=(s:Int))(h0:s≤len)(h1:len≤c)(w:World):
  (Instr.sliceAt t (.slice (some a) len c) (some (.int k j)) none none).run Tryz.prog w= .ok (.slice (some (a.add (if c=s then 0 else s*n))) (len-s) (c-s)) w:=by
 subst hj;obtain⟨inf,z,hu,hi,hz,hs,-⟩:=IG h;have hu':(underlying t).run Tryz.prog w= .ok (.slice e) w:=by unfold underlying;simp[go_sem,hu]
 unfold Instr.sliceAt;rw[Sem.run_bind,hu',Result.andThen_ok];unfold Instr.slice Instr.sliceBounds Instr.sliceBound sizeOf typeInfo;have h2:(s:Int)≤(len:Int):=by omega
 have h3:(len:Int)≤(c:Int):=by omega
 have h4:(0:Int)≤(s:Int):=by omega
 have ha:a.add 0=a:=by unfold Addr.add;rw[if_pos rfl]
 by_cases h5:c=s
 ·subst h5;have h6:c≤len:=h0;simp[go_sem,hu',hi,hs,h2,h3,h4,h6,ha]
 simp[go_sem,hu',hi,hs,h2,h3,h4,h5,h0,h1]
theorem SZ{e len c:Nat}{a:Addr}{i:Int}(h:Ip t e n=true)(h0:0≤i)(h1:i<len)(w:World):
  (Instr.indexAt t (.slice (some a) len c) (.int k i)).run Tryz.prog w= .ok (.pointer (some (a.add (i.toNat*n)))) w:=by
 obtain⟨inf,z,hu,hi,hz,hs,-⟩:=IG h;have hu':(underlying t).run Tryz.prog w= .ok (.slice e) w:=by unfold underlying;simp[go_sem,hu]
 have h2:0≤i∧i<len:=⟨h0,h1⟩;unfold Instr.indexAt sizeOf typeInfo;simp[go_sem,hu',h2,hi,hs]
section
variable{R:BB}{ad:Option Addr}
theorem Sy.far(h:Sy C w0 D0 l H R w){k:Nat}(hk:k<w0.heap.size)(hn: ¬D0 k):w.heap[k]?=w0.heap[k]?:=h.Kr.block k hk hn
theorem Sy.aD(h:Sy C w0 D0 l H R w)(hB:By w0 D0 ad nb){a:Addr}(ha:ad=some a)(hv:w0.cell? (a.add i)=some v):w.cell? (a.add i)=some v:=by
 obtain⟨h1,h2,-⟩:=hB.at_ a ha;have:=h.far (k:=(a.add i).block) (by rw[rU];exact h1) (by rw[rU];exact h2);unfold World.cell? at hv⊢
 rw[this];exact hv
theorem Sy.by_(h:Sy C w0 D0 l H R w)(hB:By w0 D0 ad nb){D1:LV}(hD: ∀k,D1 k→D0 k∨w0.heap.size≤k):By w D1 ad nb:=⟨fun a ha=>by
 obtain⟨h1,h2,h3⟩:=hB.at_ a ha;have:=h.Kr.size;refine⟨by omega,fun hd=>?_,fun i hi=>?_⟩
 ·rcases hD _ hd with h4|h4
  ·exact h2 h4
  omega
 obtain⟨z,h4,h5⟩:=h3 i hi;exact⟨z,h.aD hB ha h4,h5⟩⟩
theorem Sy.aE{X:(Ending→World→Prop)→Prop}{Q:Value→BB}{E:Ending→Prop}(hm: ∀K K':Ending→World→Prop,X K→(∀e w,K e w→K' e w)→X K')(h:Sy C w0 D0 l H R w)
  (hc: ∀D1,R D1 w→aO C w D1→(∀k,D1 k→D0 k∨w0.heap.size≤k)→X fun e w'=> ∃v D',e= .returned v∧Q v D' w'∧KE (C.with D1) w w'∧ ∀k,D' k→k<w'.heap.size∧(D1 k∨w.heap.size≤k)) (hl: ∀v,CV (Q v)):
  X fun e w'=> ∃v,e= .returned v∧Sy C w0 D0 l H (Q v) w'∧ ∃D w,Q v D w:=by
 obtain⟨D,h1,h2⟩:=h.NK;obtain⟨D1,g1,g2,g3,g4⟩:=MF h1;have hsz:=h.Kr.size;have B9:aO C w D1:=⟨fun k hk=>(h2 k (g2 k hk)).1⟩;refine hm _ _ (hc D1 g1 B9 (fun k hk=>(h2 k (g2 k hk)).2)) ?_;rintro e w' ⟨v,D',rfl,hQ,hch,hD'⟩;obtain⟨DD,m1,m2⟩:=g4 D' w' (Q v) hQ (fun k hk=>(hD' k hk).2.imp id (fun hk hd=>by have:=(h2 k hd).1;omega)) (fun x hx hxw=>by
  have uL:=(F6 h1 hx).2;have hlt:=(h2 _ uL);refine(hch.block x.b hlt.1 ?_).trans hxw;intro h5;exact g3 x hx h5)
 refine⟨v,rfl,⟨h.OW,h.Kr.after hch (fun k hk h5=>?_),⟨⟩,hl v,DD,m1,fun k hk=>?_⟩,D',w',hQ⟩
 ·rcases(h2 k (g2 k h5)).2 with h6|h6
  ·exact h6
  omega
 rcases m2 k hk with m2|⟨m2,m3⟩
 ·have:=hD' k m2;refine⟨this.1,?_⟩;rcases this.2 with h6|h6
  ·exact(h2 k (g2 k h6)).2
  exact .inr (by omega)
 have:=h2 k m2;have:=hch.size;exact⟨by omega,(h2 k m2).2⟩
def Cb{α:Type}(C:Cx)(f:Nat)(args:List Value)(ad:Option Addr)(nb:Nat)(l:Dk)(R:BB)(v:α→Value)(P:α→Prop)(R':α→BB):Prop:=
 ∀w D,By w D ad nb→aO C w D→R D w→Calls Tryz.prog f args.toArray w fun e w'=> ∃v' D',e= .returned v'∧(∃a,v'=v a∧P a∧R' a D' w')∧KE (C.with D) w w'∧ ∀k,D' k→k<w'.heap.size∧(D k∨w.heap.size≤k)
theorem Sy.J0{α:Type}{v:α→Value}{P:α→Prop}{R':α→BB}(h:Sy C w0 D0 l H R w)(hB:By w0 D0 ad nb)(hc:Cb C f args ad nb l R v P R')(hl: ∀a,CV (R' a)):Calls Tryz.prog f args.toArray w fun e w'=> ∃a,e= .returned (v a)∧P a∧Sy C w0 D0 l H (R' a) w':=by
 refine Calls.mono (h.aE (X:=Calls Tryz.prog f args.toArray w) (Q:=fun v' D' w'=> ∃a,v'=v a∧P a∧R' a D' w') (E:=fun _=>True) (fun K K' hk hi=>Calls.mono hk hi) (fun D1 g1 g2 g3=>hc w D1 (h.by_ hB g3) g2 g1) (fun v=>AQ fun a=>Ba (Ba (hl a)))) ?_;rintro e w' ⟨v',rfl,hS,-⟩;obtain⟨a,hS⟩:=hS.MU (fun a=>Ba (Ba (hl a)));obtain⟨h3,hS⟩:=hS.VS (Ba (hl a));obtain⟨h4,hS⟩:=hS.VS (hl a);exact⟨a,by rw[h3],h4,hS⟩
theorem Cb.of{α:Type}{c:Code}{v:α→Value}{P:α→Prop}{R':α→BB}(hf:Tryz.prog.funcs[f]?=some fn)(hb:fn.body=some c)(hnt:fn.ntmps=n)(hn:vs.length≤n)(hl:CV R)
  (h: ∀w0 D0,By w0 D0 ad nb→T (bodyPost Tryz.prog fn (Tj C w0 D0 (fun u m D w=> ∃a,u=v a∧P a∧m=l∧R' a D w))) n [c] (Sy C w0 D0 l [] R) (Bn 0 vs)):Cb C f vs ad nb l R v P R':=fun w D hB ha hR=>by
 subst hnt;refine calls_of_wp hf hb ?_;have:=h w D hB w _ ⟨ha,KE.refl _ _,⟨⟩,hl,D,hR,fun k hk=>⟨ha.lt k hk,.inl hk⟩⟩ (Pz vs fn.ntmps hn);refine wp_mono this ?_;intro ex a' w' hq;have key: ∀v2 w2,Tj C w D (fun u m D w=> ∃a,u=v a∧P a∧m=l∧R' a D w) (.returned v2) w2→ ∃v' D',Ending.returned v2= .returned v'∧(∃a,v'=v a∧P a∧R' a D' w2)∧KE (C.with D) w w2∧ ∀k,D' k→k<w2.heap.size∧(D k∨w.heap.size≤k):=by
  rintro v2 w2 ⟨v3,l3,D3,he,-,⟨a,h1,h2,h3,h4⟩,h5,h6⟩;exact⟨v3,D3,he,⟨a,h1,h2,h4⟩,h5,h6⟩
 cases ex with
 |normal=>exact⟨hq.1,hq.2.choose,hq.2.choose_spec.1,key _ _ hq.2.choose_spec.2⟩
 |ret=>exact⟨hq.1,hq.2.choose,hq.2.choose_spec.1,key _ _ hq.2.choose_spec.2⟩
 |panic ch=>
  obtain⟨-,v3,l3,D3,he,-⟩:=hq;cases he
 |outgrown=>
  obtain⟨v3,l3,D3,he,-⟩:=hq;cases he
 |exit id=>exact hq.elim
 |goto t=>exact hq.elim
end
section
variable{R:BB}{ad:Option Addr}
variable{lo:Nat→Bool}{d:Option Nat}{gd:Option (Nat×Bool)}{x:Operand}
theorem xJ{α:Type}{f:Operand}{g:Nat}{first:List Value}{v:α→Value}{P:α→Prop}{B:α→List Bk}{Rz:α→BB}(hB:By w0 D0 ad nb)(ho:Aq[i]?=some ⟨d,.call ⟨.value f,a,LX⟩,ty,ps,af,none⟩)(hef:ef i=true)(hf:EF e f=some (.func (.func g) first.toArray captured.toArray))(ha:GV e a.toList=some args)(hg:Cm g=true)(hH:H1++H2=H)
  (hc:Cb C g (first++args++captured) ad nb l (Az H2 R) v P (fun a=>Az (B a) (Rz a))) (hl: ∀a,CV (Rz a)) (hp: ∀a,P a→Eh Aq i U (Sy C w0 D0 l (H1++B a) (Rz a)) e)
  (h: ∀a,P a→X Tryz.prog Aq lo ef K rr (Sy C w0 D0 l (H1++B a) (Rz a)) U (Dz d (v a) e)):X Tryz.prog Aq lo ef K (i::rr) (Sy C w0 D0 l H R) U e:=
 FH (K':=fun u w'=> ∃a,u=v a∧P a∧Sy C w0 D0 l (H1++B a) (Rz a) w') ho hef rfl (fun w hS=>by
  subst hH;exact Fe hf ha hg ((hS.VR.J0 hB hc (fun a=>Ac (hl a) _)).mono fun e w' ⟨a,h1,h2,h3⟩=>⟨_,h1,a,rfl,h2,h3.unfold (hl a)⟩)) (fun u w' ⟨a,h1,h2,h3⟩=>⟨_,h3,hp a h2,by rw[h1];exact h a h2⟩)
theorem J1{len c:Nat}{b:Addr}{j:Int}(ho:Aq[i]?=some ⟨d,.indexAddr t x y,ty,ps,af,gd⟩)(Dy:(ef i,BA Aq ⟨d,.indexAddr t x y,ty,ps,af,gd⟩ e)=(false,true))(hx:EF e x=some (.slice (some b) len c))(hy:EF e y=some (.int k j))(ht:Ip t et n=true)(h0:0≤j∧j<len)
  (h:X Tryz.prog Aq lo ef K rr S (bif lo i then(i,.pointer (some (b.add (j.toNat*n))))::U else U) (Dz d (.pointer (some (b.add (j.toNat*n)))) e)):X Tryz.prog Aq lo ef K (i::rr) S U e:=have⟨hef,hw⟩:=Fb Dy;
 FB ho hef hw (fun w _=>N8 (m:=Instr.indexAt t (ev e x) (ev e y)) rfl (by rw[CY hx,CY hy];exact SZ ht h0.1 h0.2 w)) h
theorem J2{a b:Addr}(hB:By w0 D0 ad nb)(hj:ad=some a)(hb:b=a.add j)(hv:w0.cell? (a.add j)=some v)(ho:Aq[i]?=some ⟨d,.load t x,ty,ps,af,gd⟩)(Dy:(ef i,BA Aq ⟨d,.load t x,ty,ps,af,gd⟩ e)=(false,true))(hx:EF e x=some (.pointer (some b)))(h1:one t=true)
  (h:X Tryz.prog Aq lo ef K rr (Sy C w0 D0 l H R) (bif lo i then(i,v)::U else U) (Dz d v e)):X Tryz.prog Aq lo ef K (i::rr) (Sy C w0 D0 l H R) U e:=have⟨hef,hw⟩:=Fb Dy;
 FB ho hef hw (fun w hS=>N8 (m:=Instr.loadAt t (ev e x)) rfl (by rw[CY hx,hb];exact GM h1 (hS.aD hB hj hv))) h
theorem ff{len c s:Nat}{a:Addr}{j:Int}(ho:Aq[i]?=some ⟨d,.slice t x (some y) none none,ty,ps,af,gd⟩)(Dy:(ef i,BA Aq ⟨d,.slice t x (some y) none none,ty,ps,af,gd⟩ e)=(false,true))(hx:EF e x=some (.slice (some a) len c))(hy:EF e y=some (.int ik j))(hj:j=(s:Int))(ht:Ip t et n=true)(h0:s≤len)(h1:len≤c)
  (h:X Tryz.prog Aq lo ef K rr S (bif lo i then(i,.slice (some (a.add (if c=s then 0 else s*n))) (len-s) (c-s))::U else U) (Dz d (.slice (some (a.add (if c=s then 0 else s*n))) (len-s) (c-s)) e)):X Tryz.prog Aq lo ef K (i::rr) S U e:=have⟨hef,hw⟩:=Fb Dy;
 FB ho hef hw (fun w _=>N8 (m:=Instr.sliceAt t (ev e x) (some (ev e y)) none none) rfl (by rw[CY hx,CY hy];exact SW ht hj h0 h1 w)) h
end
theorem BV.next{ad:Option Addr}{a:Addr}{k c:Nat}(ha:ad=some a)(hm:m+1≤c)(hk:k+(m+1)=n):BV ad n (.slice (some ((a.add k).add (if c=1 then 0 else 1*1))) (m+1-1) (c-1)) m:=by
 refine .inr ⟨a,k+(if c=1 then 0 else 1*1),c-1,ha,by rw[MI];rfl,by omega,fun h=>?_⟩;rw[if_neg (by omega)];omega
end Mp
theorem o5:one 5=true:=by kernel_rfl
theorem oT:Ip 25 5 1=true:=by kernel_rfl
theorem Jz:Ec 5 (fun _=>true)=true:=by kernel_rfl
namespace Mp
theorem SQ{ad:Option Addr}(hv:BV ad nb v m):Cb (α:=Int×Value) C 69 [AX rb] ad nb l (Az [⟨rb,141,[v]⟩] Cj) (fun u=> .int .i64 u.1) (fun u=>(0≤u.1∧u.1≤255)∧BV ad nb u.2 (m-1)) (fun u=>Az [⟨rb,141,[u.2]⟩] Cj):=by
 have hvc:=hv.cell;refine Cb.of (vs:=[AX rb]) Tryz.func69 rfl Tryz.ntmps69 (by simp) (Ac Aa _) ?_;intro w0 D0 hB;refine Gu Aa ?_;rcases hv with⟨c,rfl,rfl⟩|⟨a,k,c,ha,rfl,hmc,BE⟩
 ·skip;refine CW 19 [] Z<|T.BC Z fun W D h=>?_
  exact⟨D,⟨(0,_),rfl,⟨⟨Int.le_refl 0,by omega⟩,.inl ⟨c,rfl,rfl⟩⟩,rfl,h⟩,fun _ hk=>hk⟩
 rcases(show m=0∨ ∃m',m=m'+1 from by cases m with|zero=>exact .inl rfl|succ m'=>exact .inr ⟨m',rfl⟩) with rfl|⟨m,rfl⟩
 ·skip;refine CW 19 [] Z<|T.BC Z fun W D h=>?_
  exact⟨D,⟨(0,_),rfl,⟨⟨Int.le_refl 0,by omega⟩,.inr ⟨a,k,c,ha,rfl,hmc,fun h=>absurd h (by decide)⟩⟩,rfl,h⟩,fun _ hk=>hk⟩
 have hm:0<m+1:=Nat.succ_pos m;obtain⟨-,-,hby⟩:=hB.at_ a ha;have AgX:=BE hm;obtain⟨z,hz,hz1⟩:=hby k (by omega);refine AZ 12 [] Z<|Du (c:=false) Z (beq_eq_false_iff_ne.2 (show¬((m+1:Nat):Int)=0 by omega))<|AP 9 [] Z<|J1 Z Z Z Z oT ⟨Int.le_refl 0,by omega⟩<|J2 (j:=k) hB ha (MI a k 0) hz Z Z Z o5<|AP 9 [256] Z<|ff (s:=1) Z Z Z Z Z oT (by omega) hmc<|AP 7 [] Z<|Ic Z DY Jz (IntWalk.i64_in z (by omega))<|AY 2 [] Z<|T.BC Z fun W D h=>?_
 exact⟨D,⟨(z,_),rfl,⟨hz1,by rw[show m+1-1=m by omega];exact BV.next ha hmc (BE hm)⟩,rfl,h⟩,fun _ hk=>hk⟩
def YX(L:Nat)(arg:Value)(w:World)(K:Ending→World→Prop):Prop:= ∃fn tmps assign body,(Instr.yield L #[arg]).run Tryz.prog w= .ok (.round L fn tmps assign body) w∧RoundIn Fence.wide 0 Tryz.prog L fn tmps assign body w K
def YC(C:Cx)(L:Nat)(arg:Value)(R R':BB):Prop:= ∀w D,aO C w D→R D w→YX L arg w fun e w'=> ∃v D',e= .returned v∧(v= .bool true∧R' D' w')∧KE (C.with D) w w'∧ ∀k,D' k→k<w'.heap.size∧(D k∨w.heap.size≤k)
section
variable{R:BB}{ad:Option Addr}
theorem Sy.fg{L:Nat}(h:Sy C w0 D0 l H R w)(hy:YC C L arg R R')(hl:CV R'):YX L arg w fun e w'=>e= .returned (.bool true)∧Sy C w0 D0 l H R' w':=by
 have hm: ∀K K':Ending→World→Prop,YX L arg w K→(∀e w,K e w→K' e w)→YX L arg w K':=fun K K' ⟨fn,tmps,assign,body,h1,h2⟩ hk=>⟨fn,tmps,assign,body,h1,h2.mono hk⟩
 refine hm _ _ (h.aE (X:=YX L arg w) (Q:=fun v D' w'=>v= .bool true∧R' D' w') (E:=fun _=>True) hm (fun D1 g1 g2 g3=>hy w D1 g2 g1) (fun v=>Ba hl)) ?_;rintro e w' ⟨v,rfl,hS,-⟩;obtain⟨h3,hS⟩:=hS.VS hl;exact⟨by rw[h3],hS⟩
variable{lo:Nat→Bool}{d:Option Nat}{gd:Option (Nat×Bool)}{x:Operand}
theorem xK{f:Operand}{L:Nat}(hf:EF e f=some (.func (.yield L) #[] #[]))(ha:GV e a.toList=some [arg])(w:World):
  (execOp (ev e) ⟨d,.call ⟨.value f,a,LX⟩,ty,ps,af,gd⟩).run Tryz.prog w=(Instr.yield L #[arg]).run Tryz.prog w:=by
 show Sem.run Tryz.prog (resolve (ev e) ⟨.value f,a,LX⟩ ty>>=fun d=>invoke d.target d.args) w=_;have h1:resolve (ev e) ⟨.value f,a,LX⟩ ty=pure {target:= .fn (.yield L) #[],args:= #[]++ #[arg]}:=by
  unfold resolve;simp only[CY hf,OZ ha];rfl
 rw[h1];simp only[Sem.run_bind,Sem.run_pure,Result.andThen_ok,invoke];rfl
theorem xyd{f:Operand}{L:Nat}(ho:Aq[i]?=some ⟨d,.call ⟨.value f,a,LX⟩,ty,ps,af,none⟩)(hef:ef i=true)(hf:EF e f=some (.func (.yield L) #[] #[]))(ha:GV e a.toList=some [arg])
  (hy:YC C L arg R R') (hl:CV R') (hp:Eh Aq i U (Sy C w0 D0 l H R') e) (h:X Tryz.prog Aq lo ef K rr (Sy C w0 D0 l H R') U (Dz d (.bool true) e)):X Tryz.prog Aq lo ef K (i::rr) (Sy C w0 D0 l H R) U e:=
 FH (K':=fun u w'=>u= .bool true∧Sy C w0 D0 l H R' w') ho hef rfl (fun w hS=>by
  obtain⟨fn,tmps,assign,body,h1,h2⟩:=hS.fg hy hl;unfold Pj;rw[xK hf ha w,h1];exact h2.mono fun e w' ⟨h3,h4⟩=>⟨_,h3,rfl,h4⟩) (fun u w' ⟨h1,h2⟩=>⟨_,h2,hp,by rw[h1];exact h⟩)
end
theorem WO{z:Int}{n:Int}(h:0≤z)(hn:0<n):0≤z.tmod n∧z.tmod n<n:=by
 rw[Int.tmod_eq_emod_of_nonneg h];exact⟨Int.emod_nonneg _ (by omega),Int.emod_lt_of_pos _ hn⟩
structure ω where
 n:Nat
 v:Value
 m:Nat
 Dh:List I4
structure ω.Ok (ad:Option Addr) (nb:Nat) (x:ω):Prop where
 bv:BV ad nb x.v x.m
 len:x.n+x.Dh.length≤64
 rg: ∀o∈x.Dh,Np o
theorem Np.of{a b c d:Int}(h1:0≤a∧a≤255)(h2:0≤b∧b≤255)(h3:0≤c∧c≤255)(h4:0≤d∧d≤255):Np ⟨a,b,c,d⟩:=⟨h1,h2,h3,h4⟩
theorem ω.Ok.LK{ad:Option Addr}{v':Value}{m':Nat}{Dh:List I4}{o:I4}(h:ω.Ok ad nb ⟨n+1,v,m,Dh⟩)(hv:BV ad nb v' m')(ho:Np o):ω.Ok ad nb ⟨n,v',m',Dh++[o]⟩:=by
 have:=h.len;refine⟨hv,by simp only[List.length_append,List.length_cons,List.length_nil] at this⊢;omega,fun x hx=>?_⟩;rcases List.mem_append.1 hx with hx|hx
 ·exact h.rg x hx
 rw[List.mem_singleton.1 hx];exact ho
theorem BV.len{ad:Option Addr}(h:BV ad n v m): ∃p c,v= .slice p m c:=by
 rcases h with⟨c,rfl,rfl⟩|⟨a,k,c,-,rfl,-⟩
 ·exact⟨_,_,rfl⟩
 exact⟨_,_,rfl⟩
theorem By.sub{D1:LV}{ad:Option Addr}(h:By w D ad n)(hs: ∀k,D1 k→D k):By w D1 ad n:=⟨fun a ha=>⟨(h.at_ a ha).1,fun hd=>(h.at_ a ha).2.1 (hs _ hd),(h.at_ a ha).2.2⟩⟩
theorem Cb.fr{α:Type}{ad:Option Addr}{v:α→Value}{P:α→Prop}{B:α→List Bk}(h:Cb C f args ad nb l (Az H Cj) v P (fun a=>Az (B a) Cj))(hF:CV F):Cb C f args ad nb l (Az H F) v P (fun a=>Az (B a) F):=fun w D hB ha hR=>by
 have e: ∀X:List Bk,Az X F=BG (Az X Cj) F:=fun X=>by rw[EK,Gl]
 rw[e] at hR;obtain⟨D1,D2,h1,h2,h3,h4⟩:=hR;have hs: ∀k,D1 k→D k:=fun k hk=>(h4 k).2 (.inl hk)
 refine(h w D1 (hB.sub hs) (ha.sub hs) h1).mono fun e' w' ⟨v',D',he,⟨a,q1,q2,q3⟩,hc,hD⟩=>?_
 have hlt: ∀k,D2 k→k<w.heap.size:=fun k hk=>ha.lt k ((h4 k).2 (.inr hk))
 have h2':F D2 w':=hF D2 w w' h2 (fun k hk=>hc.block k (hlt k hk) (fun h5=>h3 k h5 hk));refine⟨v',fun k=>D' k∨D2 k,he,⟨a,q1,q2,?_⟩,?_,fun k hk=>?_⟩
 ·show Az (B a) F _ w';rw[e];refine⟨D',D2,q3,h2',fun k hk hk2=>?_,fun k=>Iff.rfl⟩;rcases(hD k hk).2 with h5|h5
  ·exact h3 k h5 hk2
  have:=hlt k hk2;omega
 ·exact(KE.refl (C.with D) w).after hc (fun k _ hk=>hs k hk)
 have:=hc.size;rcases hk with hk|hk
 ·exact⟨(hD k hk).1,(hD k hk).2.imp (hs k) id⟩
 exact⟨Nat.lt_of_lt_of_le (hlt k hk) this,.inl ((h4 k).2 (.inr hk))⟩
end Mp
theorem AbC:Cm 100=true:=by kernel_rfl
theorem tP:Cm 69=true:=by kernel_rfl
theorem Ab:one 139=true:=by kernel_rfl
namespace Mp
theorem oX:Ce (α:=Nat) C 70 [AX rb] l Cj (fun q=> .func (.func 100) #[] #[AX q]) l (fun _=>True) (fun q=>Az [⟨q,139,[AX rb]⟩] Cj):=by
 exact Ci 4 Tryz.func70 Z Aa fun w0 D0=>AZ 2 [1] Z<|F7 Z CE fun b0=>AY 7 [] Z<|T.BC Z fun W D h=>⟨D,⟨b0,rfl,trivial,rfl,h⟩,fun _ hk=>hk⟩
theorem S0{ad:Option Addr}{L:Nat}{I:List I4→BB}(hI: ∀Dh,CV (I Dh))(hv:BV ad nb v m)(hy: ∀Dh o,Dh.length<64→Np o→YC C L (.agg (Fm o).toArray) (I Dh) (I (Dh++[o]))):
  Cb (α:=Value×Nat×List I4) C 100 [.func (.yield L) #[] #[],AX q] ad nb l (Az [⟨q,139,[AX rb]⟩,⟨rb,141,[v]⟩] (I [])) (fun _=> .tuple #[]) (fun u=>BV ad nb u.1 u.2.1∧u.2.2.length≤64∧ ∀o∈u.2.2,Np o) (fun u=>Az [⟨q,139,[AX rb]⟩,⟨rb,141,[u.1]⟩] (I u.2.2)):=by
 have hvc:=hv.cell;refine Cb.of (vs:=[.func (.yield L) #[] #[],AX q]) Tryz.func100 rfl Tryz.ntmps100 (by simp) (Ac (hI _) _) ?_;intro w0 D0 hB;refine dN (hI _)<|AZ 3 [2] Z<|xJ (H1:=[_]) (H2:=[_]) (B:=fun(u:Int×Value)=>[⟨rb,141,[u.2]⟩]) hB Z Z Z Z tP Z (Cb.fr (SQ hv) (hI _)) (fun _=>(hI _)) JH fun a0 ha0=>Le (v:= .int .i64 (((a0.1.tmod 65).toNat:Nat):Int)) Z Pg (fun w=>by rw[OA (by decide) w,Int.toNat_of_nonneg (WO ha0.1.1 (by decide)).1])<|AY 2 [] Z<|T.block<|T.loop (fun(x:ω) w=>x.Ok ad nb∧Sy C w0 D0 l [⟨q,139,[AX rb]⟩,⟨rb,141,[x.v]⟩] (I x.Dh) w) (fun x=>[(3,.int .i64 ((x.n:Nat):Int)),(0,.func (.yield L) #[] #[]),(1,AX q)]) (fun x=>x.n) ⟨(a0.1.tmod 65).toNat,a0.2,m-1,[]⟩ (fun w h=>⟨⟨ha0.2,by have:=(WO (z:=a0.1) (n:=65) ha0.1.1 (by decide));simp only[List.length_nil];omega,fun _ h=>by cases h⟩,h⟩) ⟨Z,Z,Z,trivial⟩ ?_
 rintro⟨n,v1,m1,Dh⟩ g;refine T.pure ?_;intro hx;obtain⟨p0,c0,rfl⟩: ∃p c,v1= .slice p m1 c:=hx.bv.len;have hlen:=hx.len;simp only at hlen;refine CW 6 [] Z<|T.cond Z ?_ ?_
 ·intro hb0;obtain⟨n,rfl⟩: ∃k,n=k+1:=⟨n-1,by have:((n:Nat):Int)>0:=of_decide_eq_true hb0;omega⟩;refine CW 2 [] Z<|T.block<|CW 10 [0,0,1] Z<|T.cond Z ?_ ?_
  ·intro hb1;refine CW 7 [8,0,1] Z<|T.J8<|TE.CJ<|TE.TU<|TE.CJ<|TE.J6 rfl fun W D h=>?_
   exact⟨D,⟨(.slice none 0 0,0,Dh),rfl,⟨.inl ⟨0,rfl,rfl⟩,by show Dh.length≤64;omega,hx.rg⟩,rfl,h⟩,fun _ hk=>hk⟩
  intro hb1;refine CW 2 [] Z<|Br [0,1,3,5,7,2,4,6,8,9,10,11] 169 1364 (by kernel_rfl)<|AP 5 [] Z<|xJ (H1:=[_]) (H2:=[_]) (B:=fun(u:Int×Value)=>[⟨rb,141,[u.2]⟩]) hB Z Z Z Z tP Z (Cb.fr (SQ hx.bv) (hI _)) (fun _=>(hI _)) (fun a1 ha1=>(BP Z Ab .z Z (BP Z Ab .z Z (BP Z Ab .z Z (Bv Z Aw))))) fun a1 ha1=>xJ (H1:=[_]) (H2:=[_]) (B:=fun(u:Int×Value)=>[⟨rb,141,[u.2]⟩]) hB Z Z Z Z tP Z (Cb.fr (SQ ha1.2) (hI _)) (fun _=>(hI _)) (fun a2 ha2=>(BP Z Ab .z Z (BP Z Ab .z Z (Aj (by kernel_rfl) (Bv Z Aw))))) fun a2 ha2=>xJ (H1:=[_]) (H2:=[_]) (B:=fun(u:Int×Value)=>[⟨rb,141,[u.2]⟩]) hB Z Z Z Z tP Z (Cb.fr (SQ ha2.2) (hI _)) (fun _=>(hI _)) (fun a3 JK=>(BP Z Ab .z Z (Aj (by kernel_rfl) (Aj (by kernel_rfl) (Bv Z Aw))))) fun a3 JK=>xJ (H1:=[_]) (H2:=[_]) (B:=fun(u:Int×Value)=>[⟨rb,141,[u.2]⟩]) hB Z Z Z Z tP Z (Cb.fr (SQ JK.2) (hI _)) (fun _=>(hI _)) (fun a4 mx=>(Aj (by kernel_rfl) (Aj (by kernel_rfl) (Aj (by kernel_rfl) (Bv Z Aw))))) fun a4 mx=>Fp Z l65 Bt Z<|xyd Z Z Z Z (hy Dh ⟨a1.1,a2.1,a3.1,a4.1⟩ (by omega) (Np.of ha1.1 ha2.1 JK.1 mx.1)) (hI _) (Aj (by kernel_rfl) (Aj (by kernel_rfl) (Aj (by kernel_rfl) (Aj (by kernel_rfl) Aw))))<|QO Z Z Z<|AY 3 [] Z<|T.Bj<|AZ 2 [] Z ?_
  exact BU (c:=((n:Nat):Int)) Z (by simp only[FC];rw[IntWalk.i64_in _ (by omega)];omega)<|AY 2 [] Z<|T.FT ⟨n,a4.2,m1-1-1-1-1,Dh++[(⟨a1.1,a2.1,a3.1,a4.1⟩:I4)]⟩ (by show n<n+1;omega) (fun w h=>⟨hx.LK (o:=⟨a1.1,a2.1,a3.1,a4.1⟩) mx.2 (Np.of ha1.1 ha2.1 JK.1 mx.1),h⟩) ⟨rfl,rfl,rfl,trivial⟩
 intro hb0;refine T.exit<|TE.FQ<|TE.DC<|T.BJ Z fun W D h=>?_
 exact⟨D,⟨(.slice p0 m1 c0,m1,Dh),rfl,⟨hx.bv,by show Dh.length≤64;omega,hx.rg⟩,rfl,h⟩,fun _ hk=>hk⟩
def ob(b:Nat)(o:Obj)(R:BB):BB:=fun D w=>w.heap[b]?=some o∧ ∃D1,R D1 w∧ ¬D1 b∧ ∀k,D k↔(k=b∨D1 k)
theorem JW{o:Obj}{R:BB}(h:CV R):CV (ob b o R):=fun D w w' ⟨h1,D1,h2,h3,h4⟩ hk=>
 ⟨(hk b ((h4 b).2 (.inl rfl))).trans h1,D1,h D1 w w' h2 (fun k hd=>hk k ((h4 k).2 (.inr hd))),h3,h4⟩
theorem ji{o:Obj}{R:BB}(h:Wk R R'):Wk (ob b o R) (ob b o R'):=fun D w ⟨h1,D1,h2,h3,h4⟩=>by
 obtain⟨D2,g1,g2⟩:=h D1 w h2;exact⟨fun k=>k=b∨D2 k,⟨h1,D2,g1,fun hd=>h3 (g2 _ hd),fun _=>Iff.rfl⟩,fun k hk=>(h4 k).2 (hk.imp id (g2 k))⟩
theorem jk{o:Obj}{R:BB}:Wk (ob b o R) R:=fun D w ⟨_,D1,h2,_,h4⟩=>⟨D1,h2,fun k hk=>(h4 k).2 (.inr hk)⟩
theorem oY{o:Obj}{x:Bk}{R:BB}:Wk (ob b o (Mo.blk x R)) (Mo.blk x (ob b o R)):=fun D w ⟨h1,D1,⟨g1,D2,g2,g3,g4⟩,h3,h4⟩=>by
 have hn: ¬D2 b:=fun h=>h3 ((g4 _).2 (.inr h))
 have hx:x.b≠b:=fun h=>h3 ((g4 _).2 (.inl h.symm))
 refine⟨fun k=>k=x.b∨(k=b∨D2 k),⟨g1,fun k=>k=b∨D2 k,⟨h1,D2,g2,hn,fun _=>Iff.rfl⟩,fun h=>h.elim hx g3,fun _=>Iff.rfl⟩,fun k hk=>(h4 k).2 ?_⟩;rcases hk with hk|hk|hk
 ·exact .inr ((g4 k).2 (.inl hk))
 ·exact .inl hk
 exact .inr ((g4 k).2 (.inr hk))
theorem o0{o:Obj}{x:Bk}{R:BB}:Wk (Mo.blk x (ob b o R)) (ob b o (Mo.blk x R)):=fun D w ⟨g1,D1,⟨h1,D2,h2,h3,h4⟩,g3,g4⟩=>by
 have hn: ¬D2 x.b:=fun h=>g3 ((h4 _).2 (.inr h))
 have hx:b≠x.b:=fun h=>g3 ((h4 _).2 (.inl h.symm))
 refine⟨fun k=>k=b∨(k=x.b∨D2 k),⟨h1,fun k=>k=x.b∨D2 k,⟨g1,D2,h2,hn,fun _=>Iff.rfl⟩,fun h=>h.elim hx h3,fun _=>Iff.rfl⟩,fun k hk=>(g4 k).2 ?_⟩;rcases hk with hk|hk|hk
 ·exact .inr ((h4 k).2 (.inl hk))
 ·exact .inl hk
 exact .inr ((h4 k).2 (.inr hk))
theorem Yb{b:Nat}{o:Obj}{R:BB}: ∀(H:List Bk),Wk (ob b o (Mo.Az H R)) (Mo.Az H (ob b o R))
 |[]=>Wk.refl _
 |x::H=>oY.trans (Wk.blk (Yb H))
theorem kV{b:Nat}{o:Obj}{R:BB}: ∀(H:List Bk),Wk (Mo.Az H (ob b o R)) (ob b o (Mo.Az H R))
 |[]=>Wk.refl _
 |x::H=>(Wk.blk (kV H)).trans o0
section
variable{R:BB}{ad:Option Addr}
theorem Sy.my{o:Obj}(h:Sy C w0 D0 l H (ob b o R) w):w.heap[b]?=some o:=by
 obtain⟨D,h1,-⟩:=h.NK;obtain⟨D1,g1,-⟩:=MF h1;exact g1.1
theorem Sy.putObj{o:Obj}(o':Obj)(h:Sy C w0 D0 l H (ob b o R) w)(hl:CV R):Sy C w0 D0 l H (ob b o' R) (w.putObj b o'):=by
 obtain⟨D,h1,h2⟩:=h.NK;obtain⟨D1,⟨g0,D2,k1,k2,k3⟩,g2,g3,g4⟩:=MF h1;have hb:D1 b:=(k3 b).2 (.inl rfl);have hlt:=h2 b (g2 b hb);have ND: ∀k,k≠b→(w.putObj b o').heap[k]?=w.heap[k]?:=fun k hk=>World.putObj_heap_other hk
 obtain⟨DD,m1,m2⟩:=g4 D1 (w.putObj b o') (ob b o' R) ⟨World.putObj_heap_same hlt.1,D2,hl D2 w _ k1 (fun k hk=>ND k (fun e=>k2 (e▸hk))),k2,k3⟩ (fun k hk=> .inl hk) (fun x hx hxw=>(ND x.b (fun e=>g3 x hx (e▸hb))).trans hxw);have hc:=h.Kr;refine⟨h.OW,⟨hc.os,hc.tape,hc.output,by rw[World.putObj_size];exact hc.size,fun k hk hn=>?_⟩,⟨⟩,JW hl,DD,m1,fun k hk=>?_⟩
 ·have hne:k≠b:=fun e=>by
   rcases hlt.2 with h5|h5
   ·exact hn (by rw[e];exact h5)
   omega
  exact(ND k hne).trans (hc.block k hk hn)
 rw[World.putObj_size];rcases m2 k hk with m2|⟨m2,-⟩
 ·exact h2 k (g2 k m2)
 exact h2 k m2
theorem Sy.Ka(o:Obj)(h:Sy C w0 D0 l H R w):Sy C w0 D0 l H (ob w.heap.size o R) (w.alloc o):=by
 obtain⟨D,h1,h2⟩:=h.NK;obtain⟨D1,g1,g2,g3,g4⟩:=MF h1;have hbl:Below w.heap.size w (w.alloc o):=below_alloc (Below.refl _ _) _;have hsz:(w.alloc o).heap.size=w.heap.size+1:=by show(w.heap.push o).size=_;simp
 have hn: ¬D1 w.heap.size:=fun hd=>Nat.lt_irrefl _ (h2 _ (g2 _ hd)).1
 obtain⟨DD,m1,m2⟩:=g4 (fun k=>k=w.heap.size∨D1 k) (w.alloc o) (ob w.heap.size o R) ⟨World.alloc_heap_new w o,D1,h.Qo D1 w _ g1 (fun k hk=>hbl.block k (h2 k (g2 k hk)).1),hn,fun _=>Iff.rfl⟩
  (fun k hk=>hk.elim (fun e=> .inr (fun hd=>by rw[e] at hd;exact Nat.lt_irrefl _ (h2 _ hd).1)) .inl) (fun x hx hxw=>(hbl.block x.b (h2 _ (F6 h1 hx).2).1).trans hxw)
 have hs:=h.Kr.size;refine⟨h.OW,h.Kr.alloc o,⟨⟩,JW h.Qo,DD,m1,fun k hk=>?_⟩;rw[hsz];rcases m2 k hk with(rfl|m2)|⟨m2,-⟩
 ·exact⟨Nat.lt_succ_self _,.inr hs⟩
 ·have:=h2 k (g2 k m2);exact⟨by omega,this.2⟩
 have:=h2 k m2;exact⟨by omega,this.2⟩
end
abbrev Ph(st:LoopState)(fn Dd:Nat)(tmps:Array Value)(ps:Array Tmp)(assign body:Code):Obj:= .loop {state:=st,pending:=none,fn,tmps,params:=ps,assign,body,defers:=Dd}
abbrev ET:Obj:= .deferred (some [])
theorem YC.of{L fn Dd p mW mX bk:Nat}{tmps:Array Value}{Ob Oc:Array Oper}{Al An:List Nat}{Bw Bx:Nat→Bool}(hsz:tmps.size=n)(hat: ∀t,tmps.getD t undef=lk e t)(hpn:p<n)(hR':CV R')
  (hdA:nZ Ob n=true) (hoA:List.range Ob.size=Al) (hdB:nZ Oc n=true) (hoB:List.range Oc.size=An)
  (h: ∀w0 D0,X Tryz.prog Ob (fun _=>false) Bw (fun S1 e1=> ∃H1,S1=Sy C w0 D0 l H1 (ob L (Ph .ready fn Dd tmps #[p] (.region mW Ob false) (.block bk (.region mX Oc false))) (ob Dd ET Cj))∧
   X Tryz.prog Oc (fun _=>false) Bx (fun S2 e2=> ∃H2,S2=Sy C w0 D0 l H2 (ob L (Ph .busy fn Dd tmps #[p] (.region mW Ob false) (.block bk (.region mX Oc false))) (ob Dd ET Cj))∧Wk (Az H2 Cj) R') An
    (Sy C w0 D0 l H1 (ob L (Ph .busy fn Dd tmps #[p] (.region mW Ob false) (.block bk (.region mX Oc false))) (ob Dd ET Cj))) [] e1) Al
   (Sy C w0 D0 l B (ob L (Ph .ready fn Dd tmps #[p] (.region mW Ob false) (.block bk (.region mX Oc false))) (ob Dd ET Cj))) [] ((p,arg)::e)):
  YC C L arg (ob L (Ph .ready fn Dd tmps #[p] (.region mW Ob false) (.block bk (.region mX Oc false))) (ob Dd ET (Az B Cj))) (ob L (Ph .ready fn Dd tmps #[p] (.region mW Ob false) (.block bk (.region mX Oc false))) (ob Dd ET R')):=fun w D ha hR=>by
 subst hoA hoB;have hL:=hR.1;have hy:(Instr.yield L #[arg]).run Tryz.prog w= .ok (.round L fn (tmps.setIfInBounds p arg) (.region mW Ob false) (.block bk (.region mX Oc false))) w:=(run_yield (P:=Tryz.prog) (args:= #[arg]) hL rfl).trans (by simp);refine⟨_,_,_,_,hy,?_⟩;clear hy;obtain⟨D',hR1,hD'⟩:=((ji (Yb B)).trans (Yb B)) D w hR;have hS:Sy C w D l B (ob L (Ph .ready fn Dd tmps #[p] (.region mW Ob false) (.block bk (.region mX Oc false))) (ob Dd ET Cj)) w:=⟨ha,KE.refl _ _,⟨⟩,JW (JW Aa),D',hR1,fun k hk=>⟨ha.lt k (hD' k hk),.inl (hD' k hk)⟩⟩;have hF:IC {tmps:=tmps.setIfInBounds p arg,defers:=[]} n ((p,arg)::e):=by
  refine⟨rfl,by simp[hsz],fun t=>?_⟩;rw[RQ];by_cases he:p=t
  ·subst he;rw[if_pos rfl];simp[hsz,hpn]
  rw[if_neg he,←hat t];simp[Array.getElem?_setIfInBounds_ne he]
 refine roundIn_of_wpIn (F:=Fence.wide) trivial ?_;refine yY (l:=L) (n:=n) (VU hdA) ?_ (h w D) hS hF;rintro S1 e1 ⟨H1,rfl,hX2⟩ w1 a1 hS1 hF1;refine⟨_,run_beginRound hS1.my rfl,?_⟩;have hS2:=hS1.putObj (Ph .busy fn Dd tmps #[p] (.region mW Ob false) (.block bk (.region mX Oc false))) (JW Aa);refine wpIn_block ?_;refine yY (l:=L) (n:=n) (VU hdB) ?_ hX2 hS2 hF1;rintro S2 e2 ⟨H2,rfl,hW⟩ w2 a2 hS3 hF2;have hend:=run_endRound (P:=Tryz.prog) none hS3.my;refine⟨_,_,hend,?_⟩;have hS4:=hS3.putObj (Ph .ready fn Dd tmps #[p] (.region mW Ob false) (.block bk (.region mX Oc false))) (JW Aa);obtain⟨D2,g1,g2⟩:=hS4.NK;obtain⟨D3,k1,k2⟩:=(((kV H2).trans (ji (kV H2))).trans (ji (ji hW))) D2 _ g1;exact⟨.bool true,D3,rfl,⟨rfl,k1⟩,hS4.Kr,fun k hk=>g2 k (k2 k hk)⟩
abbrev mark(Dd:Nat):Deferred:={target:= .collected Dd,args:= #[]}
section
variable{R:BB}{ad:Option Addr}{r:List Code}
theorem T.AbF{g:Operand}{ps:Array Tmp}{assign body:Code}{cap:List Value}{P:α→Prop}{B:α→List Bk}{R':α→BB}[i0:Inhabited (List Deferred)](hB:By w0 D0 ad nb)(hg:EF e g=some (.func (.func f) #[] cap.toArray))(hf:Cm f=true)(hH:H1++H2=H)(hl: ∀a,CV (R' a))
  (hc: ∀(fn L Dd:Nat) (tmps:Array Value),tmps.size=n→(∀t,tmps.getD t undef=lk e t)→Cb C f (.func (.yield L) #[] #[]::cap) ad nb l (Az H2 (ob L (Ph .ready fn Dd tmps ps assign body) (ob Dd ET R))) (fun _=> .tuple #[]) P (fun a=>Az (B a) (ob L (Ph .ready fn Dd tmps ps assign body) (ob Dd ET (R' a)))))
  (h: ∀(Dd:Nat) (a:α),P a→ @T ⟨mark Dd::default⟩ Q n r (Sy C w0 D0 l (H1++B a) (ob Dd ET (R' a))) e):T Q n (.rangeFunc g ps assign body::r) (Sy C w0 D0 l H R) e:=fun w a hS hF=>by
 subst hH;refine wpIn_wide.1 (wpIn_rangeFunc (F:=Fence.wide) (n:=0) ?_);intro fn _;have hS1:=(hS.Ka ET).Ka (Ph .ready fn w.heap.size a.tmps ps assign body);have hsz:(w.alloc ET).heap.size=w.heap.size+1:=by show(w.heap.push _).size=_;simp
 rw[hsz] at hS1;have hev:a.eval g= .func (.func f) #[] cap.toArray:=by rw[hF.eval];exact CY hg
 have hro:Fence.wide.round=none:=rfl;obtain⟨W1,hW1⟩: ∃W1,W1=(w.alloc ET).alloc (Ph .ready fn w.heap.size a.tmps ps assign body):=⟨_,rfl⟩;rw[←hW1] at hS1;refine⟨w.heap.size+1,[mark w.heap.size],W1,{target:= .fn (.func f) cap.toArray,args:= #[.func (.yield (w.heap.size+1)) #[] #[]]},W1,f,(.func (.yield (w.heap.size+1)) #[] #[]::cap).toArray,W1,by rw[hW1];exact run_enterLoop_outer _ _ _ _ _,?_,fun _ _=>trivial,?_,fun h=>(by cases h),?_⟩
 ·simp only[resolve,hev];simp[go_sem]
 ·have:=Qq hf (.func (.yield (w.heap.size+1)) #[] #[]::cap).toArray W1;simp only[invoke];rw[show #[Value.func (.yield (w.heap.size+1)) #[] #[]]++cap.toArray=(.func (.yield (w.heap.size+1)) #[] #[]::cap).toArray by simp];exact this
 have hc1:=hc fn (w.heap.size+1) w.heap.size a.tmps hF.size hF.at_;refine(callsIn_wide (n:=0-1)).2 ((hS1.VR.J0 hB hc1 (fun x=>Ac (JW (JW (hl x))) _)).mono ?_);rintro e' w' ⟨x,rfl,hp,hS2⟩;have hS3:=hS2.unfold (JW (JW (hl x)));have hend:=run_endLoop (P:=Tryz.prog) hS3.my (by simp);refine⟨_,_,hend,?_⟩;have hS4:=hS3.putObj (Ph .exhausted fn w.heap.size a.tmps ps assign body) (JW (hl x));have hS5:Sy C w0 D0 l (H1++B x) (ob w.heap.size ET (R' x)) (w'.putObj (w.heap.size+1) (Ph .exhausted fn w.heap.size a.tmps ps assign body)):=hS4.Jc (JW (hl x)) (Wk.Az jk _);exact h w.heap.size x hp _ _ hS5 (@IC.mk ⟨mark w.heap.size::default⟩ _ _ _ (by show[mark w.heap.size]++a.defers=mark w.heap.size::default;rw[hF.defers];rfl) hF.size hF.at_)
def LQD{σ:Type}(n:Nat)(S:σ→World→Prop)(Kn:σ→GZ)(Dn:σ→List Deferred)(μ:σ→Nat)(m:Nat)(Q:Exit→Act→World→Prop):Exit→Act→World→Prop:=
 Exit.then (fun a w=> ∃x g,μ x<m∧S x w∧ @IC ⟨Dn x⟩ a n (Kn x++g)) Q
theorem T.fh{σ:Type}{c:Code}{Kn:σ→GZ}[Inhabited (List Deferred)](S':σ→World→Prop)(Dn:σ→List Deferred)(μ:σ→Nat)(x0:σ)(h0: ∀w,S w→S' x0 w)(hd:(default:List Deferred)=Dn x0)(he:oU e (Kn x0))(h: ∀x g, @T ⟨Dn x⟩ (LQD n S' Kn Dn μ (μ x) Q) n [c] (S' x) (Kn x++g)):T Q n (.loop c::r) S e:=fun w a hS hF=>by
 have Uk: @IC ⟨Dn x0⟩ a n (Kn x0++e):=by
  have:=Q8 hF he;exact @IC.mk ⟨Dn x0⟩ _ _ _ (by rw[this.defers];exact hd) this.size this.at_
 refine wp_loop_ghost (fun k a w=> ∃x g,μ x=k∧S' x w∧ @IC ⟨Dn x⟩ a n (Kn x++g)) (μ x0) ⟨x0,e,rfl,h0 w hS,Uk⟩ ?_;rintro k a w ⟨x,g,rfl,h1,h2⟩;refine wp_mono (h x g w a h1 h2) ?_;intro ex a' w' hq;cases ex with
 |normal=>
  obtain⟨y,g',h3,h4,h5⟩:=hq;exact⟨μ y,h3,y,g',rfl,h4,h5⟩
 |exit id=>exact hq
 |goto l=>exact hq
 |ret=>exact hq
 |panic ch=>exact hq
 |outgrown=>exact hq
theorem T.S3{σ:Type}{S':σ→World→Prop}{Kn:σ→GZ}{Dn:σ→List Deferred}{μ:σ→Nat}[Inhabited (List Deferred)](y:σ)(hm:μ y<m)(hS: ∀w,S w→S' y w)(hd:(default:List Deferred)=Dn y)(he:oU e (Kn y)):T (LQD n S' Kn Dn μ m Q) n [] S e:=fun w a hw hF=>by
 have:=Q8 hF he;exact⟨y,e,hm,hS w hw, @IC.mk ⟨Dn y⟩ _ _ _ (by rw[this.defers];exact hd) this.size this.at_⟩
theorem TE.Kb{σ:Type}{S':σ→World→Prop}{Kn:σ→GZ}{Dn:σ→List Deferred}{μ:σ→Nat}[Inhabited (List Deferred)](h:TE Q n (.exit id) S e):TE (LQD n S' Kn Dn μ m Q) n (.exit id) S e:=h
end
def gI:List Nat→BB→BB
 |[],R=>R
 |b::ds,R=>ob b ET (gI ds R)
theorem Qv{R:BB}(h:CV R): ∀ds,CV (gI ds R)
 |[]=>h
 |_::ds=>JW (Qv h ds)
section
variable{R:BB}{ad:Option Addr}
theorem Vo{fn:Func}{tmps:Array Value}{K:Ending→World→Prop}{v:Value}(hl:CV R)(hr: ∀w,Sy C w0 D0 l H R w→(results fn tmps).run Tryz.prog w= .ok v w∧K (.returned v) w): ∀(ds:List Nat) (w:World),Sy C w0 D0 l H (gI ds R) w→LeavesInM Fence.wide 0 Tryz.prog fn tmps K (ds.map mark) .returning w
 |[],w,hS=>⟨v,(hr w hS).1,(hr w hS).2⟩
 |b::ds,w,hS=>by
  refine⟨(by intro h;cases h),.inl ⟨b,_,rfl,run_takeDeferred hS.my,?_⟩⟩;have hS2:=hS.putObj (.deferred none) (Qv hl ds);exact Vo hl hr ds _ (hS2.Jc (Qv hl ds) (Wk.Az jk _))
theorem Cb.ofM{α:Type}{c:Code}{v:α→Value}{P:α→Prop}{R':α→BB}(hf:Tryz.prog.funcs[f]?=some fn)(hb:fn.body=some c)(hnt:fn.ntmps=n)(hn:vs.length≤n)(hl:CV R)
  (h: ∀w0 D0,By w0 D0 ad nb→T (bodyPostM Fence.wide 0 Tryz.prog fn (Tj C w0 D0 (fun u m D w=> ∃a,u=v a∧P a∧m=l∧R' a D w))) n [c] (Sy C w0 D0 l [] R) (Bn 0 vs)):Cb C f vs ad nb l R v P R':=fun w D hB ha hR=>by
 subst hnt;have key: ∀e2 w2,Tj C w D (fun u m D w=> ∃a,u=v a∧P a∧m=l∧R' a D w) e2 w2→ ∃v' D',e2= .returned v'∧(∃a,v'=v a∧P a∧R' a D' w2)∧KE (C.with D) w w2∧ ∀k,D' k→k<w2.heap.size∧(D k∨w.heap.size≤k):=by
  rintro e2 w2 ⟨v3,l3,D3,he,-,⟨a,h1,h2,h3,h4⟩,h5,h6⟩;exact⟨v3,D3,he,⟨a,h1,h2,h4⟩,h5,h6⟩
 refine Calls.mono ((callsIn_wide (n:=0)).1 (callsIn_of_wp_marks (F:=Fence.wide) (n:=0) (R:=Tj C w D (fun u m D w=> ∃a,u=v a∧P a∧m=l∧R' a D w)) hf hb trivial ?_ rfl)) key;refine wpIn_wide.2 ?_;have:=h w D hB w _ ⟨ha,KE.refl _ _,⟨⟩,hl,D,hR,fun k hk=>⟨ha.lt k hk,.inl hk⟩⟩ (Pz vs fn.ntmps hn);refine wp_mono this ?_;intro ex a' w' hq;cases ex<;>exact hq
theorem T.fi{off k a:Nat}{r:List Code}{cs:List Value}{ds:List Nat}{Q:Value→Dk→BB}(hr:fn.results= #[.cell a t])(ha:oC e a=some (.pointer (some ⟨b,off,none⟩)))(h1:Bq t k=true)(hi:In b cs H)(hn:(OQ cs off k).length=k)(hl:CV R)
  (hq: ∀w D,Az H R D w→ ∃D',Q (.agg (OQ cs off k).toArray) l D' w∧ ∀k,D' k→D k): @T ⟨ds.map mark⟩ (bodyPostM Fence.wide 0 Tryz.prog fn (Tj C w0 D0 Q)) n (.ret::r) (Sy C w0 D0 l H (gI ds R)) e:=
 fun w ac hS hF=>wp_ret<|by
  have hd:ac.defers=ds.map mark:= @IC.defers ⟨ds.map mark⟩ _ _ _ hF
  have hat: ∀t,ac.tmps.getD t undef=lk e t:= @IC.at_ ⟨ds.map mark⟩ _ _ _ hF
  show LeavesInM Fence.wide 0 Tryz.prog fn ac.tmps (Tj C w0 D0 Q) ac.defers .returning w
  rw[hd]
  refine Vo (v:= .agg (OQ cs off k).toArray) hl (fun w hS=>?_) ds w hS
  exact⟨VX hr (by rw[hat a];exact Tv ha) (Na hS h1 hi hn),hS.QQ (hq w)⟩
end
section
variable{R:BB}{ad:Option Addr}
variable{lo:Nat→Bool}{d:Option Nat}{gd:Option (Nat×Bool)}{x:Operand}
theorem kW{α:Type}{f:Operand}{g:Nat}{first:List Value}{v:α→Value}{P:α→Prop}{R':α→BB}(ho:Aq[i]?=some ⟨d,.call ⟨.value f,a,LX⟩,ty,ps,af,none⟩)(hef:ef i=true)(hf:EF e f=some (.func (.func g) first.toArray captured.toArray))(ha:GV e a.toList=some args)(hg:Cm g=true)
  (hc:Ce C g (first++args++captured) l R v l' P R') (hl: ∀a,CV (R' a)) (hp: ∀a,P a→Eh Aq i U (Sy C w0 D0 l' H (R' a)) e)
  (h: ∀a,P a→X Tryz.prog Aq lo ef K rr (Sy C w0 D0 l' H (R' a)) U (Dz d (v a) e)):X Tryz.prog Aq lo ef K (i::rr) (Sy C w0 D0 l H R) U e:=
 FH (K':=fun u w'=> ∃a,u=v a∧P a∧Sy C w0 D0 l' H (R' a) w') ho hef rfl (fun w hS=>
  Fe hf ha hg ((hS.ak hc hl).mono fun e w' ⟨a,h1,h2,h3⟩=>⟨_,h1,a,rfl,h2,h3⟩)) (fun u w' ⟨a,h1,h2,h3⟩=>⟨_,h3,hp a h2,by rw[h1];exact h a h2⟩)
theorem o1{α:Type}{f:Operand}{g:Nat}{first:List Value}{v:α→Value}{P:α→Prop}{R':α→BB}(hB:By w0 D0 ad nb)(ho:Aq[i]?=some ⟨d,.call ⟨.value f,a,LX⟩,ty,ps,af,none⟩)(hef:ef i=true)(hf:EF e f=some (.func (.func g) first.toArray captured.toArray))(ha:GV e a.toList=some args)(hg:Cm g=true)
  (hc:Cb C g (first++args++captured) ad nb l R v P R') (hl: ∀a,CV (R' a)) (hp: ∀a,P a→Eh Aq i U (Sy C w0 D0 l H (R' a)) e)
  (h: ∀a,P a→X Tryz.prog Aq lo ef K rr (Sy C w0 D0 l H (R' a)) U (Dz d (v a) e)):X Tryz.prog Aq lo ef K (i::rr) (Sy C w0 D0 l H R) U e:=
 FH (K':=fun u w'=> ∃a,u=v a∧P a∧Sy C w0 D0 l H (R' a) w') ho hef rfl (fun w hS=>
  Fe hf ha hg ((hS.J0 hB hc hl).mono fun e w' ⟨a,h1,h2,h3⟩=>⟨_,h1,a,rfl,h2,h3⟩)) (fun u w' ⟨a,h1,h2,h3⟩=>⟨_,h3,hp a h2,by rw[h1];exact h a h2⟩)
theorem AbH(ho:Aq[i]?=some ⟨d,.assign x,ty,ps,af,none⟩)(hef:ef i=true)(hx:EF e x=some v)(hp:Eh Aq i U S e)(h:X Tryz.prog Aq lo ef K rr S U (Dz d v e)):X Tryz.prog Aq lo ef K (i::rr) S U e:=
 FH (K':=fun u w'=>u=v∧S w') ho hef rfl (fun w hS=>by
  have h2:(execOp (ev e) ⟨d,.assign x,ty,ps,af,none⟩).run Tryz.prog w= .ok (.value v) w:=by
   rw[←CY hx];rfl
  unfold Pj;rw[h2];exact⟨rfl,hS⟩) (fun u w' ⟨h1,h2⟩=>⟨_,h2,hp,by rw[h1];exact h⟩)
end
def mY:List (Int×Int)→List Value
 |[]=>[]
 |p::r=> .int .i64 p.1:: .int .i64 p.2::mY r
theorem kX: ∀(a b:List (Int×Int)),mY (a++b)=mY a++mY b
 |[],_=>rfl
 |p::r,b=>by simp[mY,kX r b]
structure pA where
 v:Value
 m:Nat
 ps:List (Int×Int)
 pv:Value
 B:List Bk
structure pA.Ok (ad:Option Addr) (nb m0:Nat) (x:pA):Prop where
 bv:BV ad nb x.v x.m
 sl:Ht 38 2 x.pv x.ps.length (mY x.ps) x.B
 len:x.ps.length+x.m≤m0
theorem BV.fj{ad:Option Addr}{a:Addr}{k c:Nat}(ha:ad=some a)(hm:m+2≤c)(hk:k+(m+2)=n):BV ad n (.slice (some ((a.add k).add (if c=2 then 0 else 2*1))) (m+2-2) (c-2)) m:=by
 refine .inr ⟨a,k+(if c=2 then 0 else 2*1),c-2,ha,by rw[MI];rfl,by omega,fun h=>?_⟩;rw[if_neg (by omega)];omega
theorem BV.some{ad:Option Addr}{p:Option Addr}{c:Nat}(h:BV ad n (.slice p m c) m)(hm:0<m): ∃a k,ad=some a∧p=some (a.add k)∧m≤c∧k+m=n:=by
 rcases h with⟨c',-,rfl⟩|⟨a,k,c',h1,h2,h3,h4⟩
 ·exact absurd hm (Nat.lt_irrefl 0)
 obtain⟨rfl,-,rfl⟩:=(by simpa using h2:p=Option.some (a.add k)∧True∧c=c');exact⟨a,k,h1,rfl,h3,h4 hm⟩
end Mp
theorem AbI:Cm 101=true:=by kernel_rfl
theorem fk:Ip 47 38 2=true:=by kernel_rfl
namespace Mp
theorem S4{x y all:Int}(hx0:0≤x∧x≤255)(hy0:0≤y∧y≤255):Ce (α:=Int) C 101 [.int .u8 x,.int .u8 y,AX q] l (Az [⟨q,3,[.int .i64 all]⟩] Cj) (fun w=> .agg #[.int .i64 w,.int .i64 y]) l (fun _=>True) (fun _=>Az [⟨q,3,[.int .i64 all]⟩] Cj):=by
 refine Ci 18 Tryz.func101 Z (Ac Aa _) fun w0 D0=>Gu Aa ?_
 by_cases hx:x≥all
 ·skip;refine AZ 2 [1] Z<|Hg Z Mx CE fun b0=>AP 5 [] Z<|Ic Z DY Jz (IntWalk.i64_in x (by omega))<|JY Z o3 (.s .z) Z<|Du (c:=true) Z (decide_eq_true hx)<|AP 5 [8] Z<|Ic Z DY Jz (IntWalk.i64_in y (by omega))<|Fp Z tM Mx Z<|AY 2 [] Z<|T.Io Z Z m38 .z Z fun W D h=>?_
  obtain⟨D1,h1,h2⟩:=A8 h;exact⟨D1,⟨-1,rfl,trivial,rfl,h1⟩,h2⟩
 skip;refine AZ 2 [1] Z<|Hg Z Mx CE fun b0=>AP 5 [] Z<|Ic Z DY Jz (IntWalk.i64_in x (by omega))<|JY Z o3 (.s .z) Z<|Du (c:=false) Z (decide_eq_false hx)<|AP 6 [32] Z<|Ic Z DY Jz (IntWalk.i64_in x (by omega))<|NC Z<|Ic Z DY Jz (IntWalk.i64_in y (by omega))<|Fp Z tM Mx Z<|AY 2 [] Z<|T.Io Z Z m38 .z Z fun W D h=>?_
 obtain⟨D1,h1,h2⟩:=A8 h;exact⟨D1,⟨x,rfl,trivial,rfl,h1⟩,h2⟩
theorem rV(B:List Bk){R:BB}:Wk (Az B R) (Az B Cj):=Wk.Az (Wk.Cj R) B
theorem rW{ad:Option Addr}{all:Int}(hv:BV ad nb v m)(hm:m≤100000):Cb (α:=Value×List Bk×List (Int×Int)) C 71 [v,.int .i64 all] ad nb l Cj (fun u=>u.1) (fun u=>Ht 38 2 u.1 u.2.2.length (mY u.2.2) u.2.1∧u.2.2.length≤m) (fun u=>Az u.2.1 Cj):=by
 refine Cb.of (vs:=[v,.int .i64 all]) Tryz.func71 rfl Tryz.ntmps71 (by simp) Aa ?_;intro w0 D0 hB;refine AZ 2 [1] Z<|F7 Z CE fun b0=>AY 12 [] Z<|T.block<|T.loop (fun(x:pA) w=>x.Ok ad nb m∧Sy C w0 D0 l x.B (Az [⟨b0,3,[.int .i64 all]⟩] Cj) w) (fun x=>[(0,x.v),(6,x.pv),(5,.func (.func 101) #[] #[AX b0])]) (fun x=>x.m) ⟨v,m,[],.slice none 0 0,[]⟩ (fun w h=>⟨⟨hv,Ht.nil,by simp⟩,by exact Sy.VR (H1:=[]) h⟩) ⟨Z,Z,Z,trivial⟩ ?_
 rintro⟨v1,m1,ps,pv,B⟩ g;refine T.pure ?_;intro hx;obtain⟨p0,c0,rfl⟩: ∃p c,v1= .slice p m1 c:=hx.bv.len;have hlen:=hx.len;have hsl:Ht 38 2 pv ps.length (mY ps) B:=hx.sl;simp only at hlen;refine CW 7 [] Z<|T.cond Z ?_ ?_
 ·intro hb0;obtain⟨m1,rfl⟩: ∃k,m1=k+2:=⟨m1-2,by have:((m1:Nat):Int)>1:=of_decide_eq_true hb0;omega⟩;obtain⟨a,k,ha,rfl,hmc,BE⟩:=hx.bv.some (by show 0<m1+2;omega);obtain⟨-,-,hby⟩:=hB.at_ a ha;obtain⟨z0,hz0,AbJ⟩:=hby k (by omega);obtain⟨z1,hz1,AbK⟩:=hby (k+1) (by omega);refine T.skip<|T.block<|T.seq<|Ey 12 1 3840 (by kernel_rfl)<|AP 3 [] Z<|J1 Z Z Z Z oT ⟨Int.le_refl 0,by omega⟩<|J2 (j:=k) hB ha (MI a k 0) hz0 Z Z Z o5<|NC Z<|J1 Z Z Z Z oT ⟨by decide,by omega⟩<|J2 (j:=k+1) hB ha (MI a k 1) hz1 Z Z Z o5<|kW (first:=[]) Z Z Z Z AbI (S4 AbJ AbK) (fun _=>Ac Aa _) (fun A0 hA0=>(Bv Z Aw)) fun A0 hA0=>Qc Z fk Mx (by decide) Z Z Z (fun _=>(Bv Z Aw)) fun b1=>MG (n:=2) (news:=mY [(A0,z1)]) (Ff:=[]) (Hr:=[_]) (cn:=mY (ps++[(A0,z1)])) (kn:=ps.length+1) hsl Z Z Z fk Z .z Z (fun v h=>by simp[mY] at h;rcases h with rfl|rfl<;>rfl) ⟨by omega,by omega,by omega,by omega⟩ (kX _ _).symm Z (fun _=>(Aj (by kernel_rfl) Aw)) fun v2 B2 hR2=>AbH Z Z Z (Aj (by kernel_rfl) Aw)<|AP 3 [] Z<|ff (s:=2) Z Z Z Z Z oT (by omega) hmc<|AY 2 [] Z<|T.Bj ?_
  exact T.FT ⟨_,m1,ps++[(A0,z1)],v2,B2⟩ (by show m1<m1+2;omega) (fun w h=>⟨⟨BV.fj ha hmc BE,by rw[List.length_append];exact hR2,by simp only[List.length_append,List.length_cons,List.length_nil];omega⟩,h.Jc (Ac Aa _) Wk.tail⟩) ⟨rfl,rfl,rfl,trivial⟩
 intro hb0;have hle:m1≤1:=by have: ¬((m1:Nat):Int)>1:=of_decide_eq_false hb0;omega
 refine T.exit<|TE.FQ<|TE.DC<|CW 2 [] Z ?_;by_cases hm1:m1=1
 ·skip;refine AZ 3 [] Z<|Du (c:=true) Z (by subst hm1;rfl)<|AP 4 [12] Z<|Fp Z tM Mx Z<|Qc Z fk Mx (by decide) Z Z Z CE fun b2=>MG (n:=2) (news:=mY [(-1,0)]) (Ff:=[]) (Hr:=[_]) (cn:=mY (ps++[(-1,0)])) (kn:=ps.length+1) hsl Z Z Z fk Z .z Z (fun v h=>by simp[mY] at h;rcases h with rfl|rfl<;>rfl) ⟨by omega,by omega,by omega,by omega⟩ (kX _ _).symm Z CE fun v2 B2 hR2=>AY 7 [] Z<|T.BC Z fun W D h=>?_
  obtain⟨D1,h1,h2⟩:=(Wk.tail.trans (rV B2)) D W h;exact⟨D1,⟨(v2,B2,ps++[(-1,0)]),rfl,⟨by rw[List.length_append];exact hR2,by simp only[List.length_append,List.length_cons,List.length_nil];omega⟩,rfl,h1⟩,h2⟩
 skip;refine AZ 3 [] Z<|Du (c:=false) Z (beq_eq_false_iff_ne.2 (show¬((m1:Nat):Int)=1 by omega))<|AY 8 [] Z<|T.BC Z fun W D h=>?_
 obtain⟨D1,h1,h2⟩:=rV B D W h;exact⟨D1,⟨(pv,B,ps),rfl,⟨hx.sl,by show ps.length≤m;omega⟩,rfl,h1⟩,h2⟩
def Pn(sb i:Nat)(lo n:Int):List Value:=[.pointer (some ⟨sb,i,none⟩),.int .i64 lo,.int .i64 n]
def aL:List Int:=[0,0,0,0,0,1,1,2,1,1,1,1]
def aM:List Int:=[13,13,13,13,13,4,4,7,16,4,8,16]
def xM(sb:Nat):List Value:=Pn sb 0 0 13++Pn sb 1 0 13++Pn sb 2 0 13++Pn sb 3 0 13++Pn sb 4 0 13++(Pn sb 5 1 4++Pn sb 6 1 4++Pn sb 7 2 7++Pn sb 8 1 16++Pn sb 9 1 4++Pn sb 10 1 8++Pn sb 11 1 16)
theorem pB{sb:Nat}{rest:List Value}(h:i<12):OQ (xM sb++rest) (0+((i:Nat):Int).toNat*3) 3=Pn sb i (aL.getD i 0) (aM.getD i 0):=by
 rcases(show i=0∨i=1∨i=2∨i=3∨i=4∨i=5∨i=6∨i=7∨i=8∨i=9∨i=10∨i=11 by omega) with rfl|rfl|rfl|rfl|rfl|rfl|rfl|rfl|rfl|rfl|rfl|rfl<;>rfl
theorem xN(h:i<12):0<aM.getD i 0∧aM.getD i 0≤16∧0≤aL.getD i 0∧aL.getD i 0≤2:=by
 rcases(show i=0∨i=1∨i=2∨i=3∨i=4∨i=5∨i=6∨i=7∨i=8∨i=9∨i=10∨i=11 by omega) with rfl|rfl|rfl|rfl|rfl|rfl|rfl|rfl|rfl|rfl|rfl|rfl<;>decide
end Mp
theorem XO:Jv 147 [(0,1),(1,1),(2,1)]=true:=by kernel_rfl
theorem WQ:Ip 142 147 3=true:=by kernel_rfl
theorem Qw:LU 147=some [.pointer none,.int .i64 0,.int .i64 0]:=by kernel_rfl
namespace Mp
theorem xO{sb:Nat}:Ce (α:=Value×List Bk) C 68 [AX sb] l Cj (fun u=>u.1) l (fun u=>Ht 147 3 u.1 12 (xM sb) u.2) (fun u=>Az u.2 Cj):=by
 have hnum: ∀{i:Nat} {a b:Int},∀v∈Pn sb i a b,BL v=true:=fun v hv=>by
  unfold Pn at hv;simp only[List.mem_cons,List.not_mem_nil,or_false] at hv;rcases hv with rfl|rfl|rfl<;>rfl
 have fl: ∀v∈Pn sb 5 1 4++Pn sb 6 1 4++Pn sb 7 2 7++Pn sb 8 1 16++Pn sb 9 1 4++Pn sb 10 1 8++Pn sb 11 1 16,BL v=true:=fun v hv=>by
  simp only[List.mem_append] at hv;rcases hv with(((((hv|hv)|hv)|hv)|hv)|hv)|hv<;>exact hnum v hv
 refine Ci 49 Tryz.func68 Z Aa fun w0 D0=>CW 13 [] Z<|T.block<|T.Q9 5<|CW 8 [] Z<|T.block<|AZ 11 [0,384] Z<|OU Z UW o3 (by decide)<|Fp Z XO Qw Z<|Qc Z WQ Qw (by decide) Z Z Z CE fun b0=>MG (n:=3) (news:=Pn sb 0 0 13) (Ff:=[]) (Hr:=[_]) (cn:=Pn sb 0 0 13) (kn:=1) (Ht.nil:Ht 147 3 (.slice none 0 0) 0 [] []) Z Z Z WQ Z .z Z hnum ⟨by decide,by decide,by decide,by decide⟩ Z Z CE fun v1 B1 hR1=>AY 2 [] Z<|T.Bj<|tx 2 nf Z<|BU (c:=1) Z (by decide)<|AY 2 [] Z<|T.EO<|CW 8 [] Z<|T.block<|AZ 11 [0,384] Z<|OU Z UW o3 (by decide)<|Fp Z XO Qw Z<|Qc Z WQ Qw (by decide) Z Z Z CE fun b1=>MG (n:=3) (news:=Pn sb 1 0 13) (Ff:=[]) (Hr:=[_,_]) (cn:=Pn sb 0 0 13++Pn sb 1 0 13) (kn:=2) hR1 Z Z Z WQ Z .z Z hnum ⟨by decide,by decide,by decide,by decide⟩ Z Z CE fun v2 B2 hR2=>AY 2 [] Z<|T.Bj<|tx 2 nf Z<|BU (c:=2) Z (by decide)<|AY 2 [] Z<|T.EO<|CW 8 [] Z<|T.block<|AZ 11 [0,384] Z<|OU Z UW o3 (by decide)<|Fp Z XO Qw Z<|Qc Z WQ Qw (by decide) Z Z Z CE fun b2=>MG (n:=3) (news:=Pn sb 2 0 13) (Ff:=[]) (Hr:=[_,_,_]) (cn:=Pn sb 0 0 13++Pn sb 1 0 13++Pn sb 2 0 13) (kn:=3) hR2 Z Z Z WQ Z .z Z hnum ⟨by decide,by decide,by decide,by decide⟩ Z Z CE fun v3 B3 hR3=>AY 2 [] Z<|T.Bj ?_
 refine tx 2 nf Z<|BU (c:=3) Z (by decide)<|AY 2 [] Z<|T.EO<|CW 8 [] Z<|T.block<|AZ 11 [0,384] Z<|OU Z UW o3 (by decide)<|Fp Z XO Qw Z<|Qc Z WQ Qw (by decide) Z Z Z CE fun b3=>MG (n:=3) (news:=Pn sb 3 0 13) (Ff:=[]) (Hr:=[_,_,_,_]) (cn:=Pn sb 0 0 13++Pn sb 1 0 13++Pn sb 2 0 13++Pn sb 3 0 13) (kn:=4) hR3 Z Z Z WQ Z .z Z hnum ⟨by decide,by decide,by decide,by decide⟩ Z Z CE fun v4 B4 hR4=>AY 2 [] Z<|T.Bj<|tx 2 nf Z<|BU (c:=4) Z (by decide)<|AY 2 [] Z<|T.EO<|CW 8 [] Z<|T.block<|AZ 11 [0,384] Z<|OU Z UW o3 (by decide)<|Fp Z XO Qw Z<|Qc Z WQ Qw (by decide) Z Z Z CE fun b4=>MG (n:=3) (news:=Pn sb 4 0 13) (Ff:=[]) (Hr:=[_,_,_,_,_]) (cn:=Pn sb 0 0 13++Pn sb 1 0 13++Pn sb 2 0 13++Pn sb 3 0 13++Pn sb 4 0 13) (kn:=5) hR4 Z Z Z WQ Z .z Z hnum ⟨by decide,by decide,by decide,by decide⟩ Z Z CE fun v5 B5 hR5=>AY 2 [] Z<|T.Bj<|tx 2 nf Z<|BU (c:=5) Z (by decide)<|AY 2 [] Z<|T.EO<|CW 6 [] Z<|T.exit<|TE.O3<|TE.DC<|T.seq<|Ey 32 1 1610612736 (by kernel_rfl)<|AP 4 [] Z<|Fp Z XO Qw Z<|AP 3 [] Z<|Fp Z XO Qw Z<|AP 3 [] Z<|Fp Z XO Qw Z<|AP 3 [] Z<|Fp Z XO Qw Z<|AP 3 [] Z<|Fp Z XO Qw Z<|AP 3 [] Z<|Fp Z XO Qw Z ?_
 refine AP 3 [] Z<|Fp Z XO Qw Z<|Qc (cs:=[.pointer (some ⟨sb,5,none⟩),.int .i64 1,.int .i64 4,.pointer (some ⟨sb,6,none⟩),.int .i64 1,.int .i64 4,.pointer (some ⟨sb,7,none⟩),.int .i64 2,.int .i64 7,.pointer (some ⟨sb,8,none⟩),.int .i64 1,.int .i64 16,.pointer (some ⟨sb,9,none⟩),.int .i64 1,.int .i64 4,.pointer (some ⟨sb,10,none⟩),.int .i64 1,.int .i64 8,.pointer (some ⟨sb,11,none⟩),.int .i64 1,.int .i64 16]) Z WQ Qw (by decide) Z Z (by kernel_rfl) (fun _=>(Bv Z Aw)) fun b5=>MG (n:=3) (news:=[.pointer (some ⟨sb,5,none⟩),.int .i64 1,.int .i64 4,.pointer (some ⟨sb,6,none⟩),.int .i64 1,.int .i64 4,.pointer (some ⟨sb,7,none⟩),.int .i64 2,.int .i64 7,.pointer (some ⟨sb,8,none⟩),.int .i64 1,.int .i64 16,.pointer (some ⟨sb,9,none⟩),.int .i64 1,.int .i64 4,.pointer (some ⟨sb,10,none⟩),.int .i64 1,.int .i64 8,.pointer (some ⟨sb,11,none⟩),.int .i64 1,.int .i64 16]) (Ff:=[]) (Hr:=[_,_,_,_,_,_]) (cn:=xM sb) (kn:=12) hR5 Z Z Z WQ Z .z Z fl ⟨by decide,by decide,by decide,by decide⟩ Z Z (fun _=>(Aj (by kernel_rfl) Aw)) fun v6 B6 hR6=>AY 2 [] Z<|T.BC Z fun W D h=>?_
 obtain⟨D1,h1,h2⟩:=(Wk.drop [_,_,_,_,_,_] _) D W h;exact⟨D1,⟨(v6,B6),rfl,hR6,rfl,h1⟩,h2⟩
theorem ZM{o:Obj}{R:BB}:BG (ob b o R) F=ob b o (BG R F):=Qs fun D w=>by
 constructor
 ·rintro⟨D1,D2,⟨h1,E,h2,h3,h4⟩,h5,h6,h7⟩;refine⟨h1,fun k=>E k∨D2 k,⟨E,D2,h2,h5,fun k hk h8=>h6 k ((h4 k).2 (.inr hk)) h8,fun _=>Iff.rfl⟩,?_,fun k=>?_⟩
  ·rintro(h8|h8)
   ·exact h3 h8
   exact h6 _ ((h4 _).2 (.inl rfl)) h8
  rw[h7,h4,or_assoc]
 rintro⟨h1,E,⟨D1,D2,h2,h5,h3,h4⟩,h6,h7⟩;refine⟨fun k=>k=b∨D1 k,D2,⟨h1,D1,h2,fun h8=>h6 ((h4 _).2 (.inl h8)),fun _=>Iff.rfl⟩,h5,?_,fun k=>?_⟩
 ·rintro k (rfl|hk) h8
  ·exact h6 ((h4 _).2 (.inr h8))
  exact h3 k hk h8
 rw[h7,h4,or_assoc]
theorem jl{R F:BB}: ∀ds,BG (gI ds R) F=gI ds (BG R F)
 |[]=>rfl
 |b::ds=>by
  show BG (ob b ET (gI ds R)) F=ob b ET (gI ds (BG R F));rw[ZM,jl ds]
section
variable{ad:Option Addr}{R R1:BB}{v:α→Value}{P:α→Prop}{R' R2:α→BB}
theorem Cb.FD(h:Cb C f args ad nb l R v P R')(hF:CV F):Cb C f args ad nb l (BG R F) v P (fun a=>BG (R' a) F):=fun w D hB ha ⟨D1,D2,h1,h2,h3,h4⟩=>by
 have hs: ∀k,D1 k→D k:=fun k hk=>(h4 k).2 (.inl hk)
 refine(h w D1 (hB.sub hs) (ha.sub hs) h1).mono fun e' w' ⟨v',D',he,⟨a,q1,q2,q3⟩,hc,hD⟩=>?_
 have hlt: ∀k,D2 k→k<w.heap.size:=fun k hk=>ha.lt k ((h4 k).2 (.inr hk))
 have h2':F D2 w':=hF D2 w w' h2 (fun k hk=>hc.block k (hlt k hk) (fun h5=>h3 k h5 hk));refine⟨v',fun k=>D' k∨D2 k,he,⟨a,q1,q2,D',D2,q3,h2',fun k hk hk2=>?_,fun k=>Iff.rfl⟩,?_,fun k hk=>?_⟩
 ·rcases(hD k hk).2 with h5|h5
  ·exact h3 k h5 hk2
  have:=hlt k hk2;omega
 ·exact(KE.refl (C.with D) w).after hc (fun k _ hk=>hs k hk)
 have:=hc.size;rcases hk with hk|hk
 ·exact⟨(hD k hk).1,(hD k hk).2.imp (hs k) id⟩
 exact⟨Nat.lt_of_lt_of_le (hlt k hk) this,.inl ((h4 k).2 (.inr hk))⟩
theorem Cb.Dh(h:Cb C f args ad nb l R v P R')(hw: ∀D w,R1 D w→R D w):Cb C f args ad nb l R1 v P R':=fun w D hB ha hR=>h w D hB ha (hw D w hR)
theorem Cb.imp(h:Cb C f args ad nb l R v P R')(hw: ∀a D w,R' a D w→R2 a D w):Cb C f args ad nb l R v P R2:=fun w D hB ha hR=>(h w D hB ha hR).mono fun e' w' ⟨v',D',he,⟨a,q1,q2,q3⟩,hc,hD⟩=>⟨v',D',he,⟨a,q1,q2,hw a D' w' q3⟩,hc,hD⟩
end
def YI(lb:Nat)(Dh:List I4):BB:=fun D w=> ∃x:Value×List Bk,(Ht 65 4 x.1 Dh.length (Nk Dh) x.2∧(Dh=[]→x.1= .slice none 0 0∧x.2=[]))∧Az (⟨lb,66,[x.1]⟩::x.2) Cj D w
theorem xP{Dh:List I4}:CV (YI lb Dh):=AQ fun _=>Ba (Ac Aa _)
theorem YI.nil(h:Az [⟨lb,66,[.slice none 0 0]⟩] Cj D w):YI lb [] D w:=⟨(.slice none 0 0,[]),⟨Ht.nil,fun _=>⟨rfl,rfl⟩⟩,h⟩
theorem YC.yi{L Dd:Nat}{r d:Obj}{Dh:List I4}(h: ∀lv B,Ht 65 4 lv Dh.length (Nk Dh) B→YC C L arg (ob L r (ob Dd d (Az (⟨lb,66,[lv]⟩::B) Cj))) R'):YC C L arg (ob L r (ob Dd d (YI lb Dh))) R':=fun w D ha hR=>by
 obtain⟨h1,D1,⟨g1,D2,⟨x,hx,hb⟩,g3,g4⟩,h3,h4⟩:=hR;exact h x.1 x.2 hx.1 w D ha ⟨h1,D1,⟨g1,D2,hb,g3,g4⟩,h3,h4⟩
theorem gJ: ∀(a:List I4) (o:I4),Nk (a++[o])=Nk a++Fm o
 |[],o=>by simp[Nk]
 |p::r,o=>by simp[Nk,gJ r o]
theorem YI.pg{Dh:List I4}: ∀D w,YI lb Dh D w→ ∃lv,(∃p c,lv= .slice p Dh.length c)∧Az [⟨lb,66,[lv]⟩] (fO lv Dh) D w:=fun D w ⟨x,⟨h1,h2⟩,h3⟩=>by
 refine⟨x.1,h1.len,?_⟩;obtain⟨g1,D1,g2,g3,g4⟩:=h3;refine⟨g1,D1,⟨x.2,?_,g2⟩,g3,g4⟩;by_cases hp:Dh=[]
 ·obtain⟨e1,e2⟩:=h2 hp;exact .inl ⟨hp,e1,e2⟩
 rcases h1 with⟨-,hk,-⟩|⟨b,rest,m,e1,e2,-,-,-,e3⟩
 ·exact absurd (List.eq_nil_of_length_eq_zero hk) hp
 exact .inr ⟨hp,b,rest,m,e1,e2,e3⟩
theorem rX: ∀{vs:List Value} {ps:List (List I4)} {v:Value} {p:List I4},vs.length=ps.length→IW (vs++[v]) (ps++[p])=BG (fO v p) (IW vs ps)
 |[],[],v,p,_=>rfl
 |[],_::_,_,_,h=>by simp at h
 |_::_,[],_,_,h=>by simp at h
 |u::vs,q::ps,v,p,h=>by
  show BG (fO u q) (IW (vs++[v]) (ps++[p]))=BG (fO v p) (BG (fO u q) (IW vs ps));rw[rX (by simpa using h),←CO,D9 (fO u q),CO]
structure xQ where
 i:Nat
 cf:List Int
 v:Value
 m:Nat
structure xQ.Ok (ad:Option Addr) (nb:Nat) (x:xQ):Prop where
 le:x.i≤12
 len:x.cf.length=12
 rg: ∀j,j<x.i→aL.getD j 0≤x.cf.getD j 0∧x.cf.getD j 0<aL.getD j 0+aM.getD j 0
 bv:BV ad nb x.v x.m
 fo:x.m≤nb
theorem xQ.Ok.step{ad:Option Addr}{nb i m:Nat}{cf:List Int}{v v':Value}{z:Int}(h:xQ.Ok ad nb ⟨i,cf,v,m⟩)(hi:i<12)(hz:0≤z)(hv:BV ad nb v' (m-1)):xQ.Ok ad nb ⟨i+1,cf.set i (aL.getD i 0+z.tmod (aM.getD i 0)),v',m-1⟩:=by
 have hl:cf.length=12:=h.len;have hm:m≤nb:=h.fo;have ha:=xN hi;have ht:=WO hz ha.1;refine⟨hi,by show(List.set _ _ _).length=12;rw[List.length_set];exact hl,fun j hj=>?_,hv,by show m-1≤nb;omega⟩;show _≤(cf.set i _).getD j 0∧(cf.set i _).getD j 0<_;have eg: ∀x:Int,(cf.set i x).getD j 0=if i=j then x else cf.getD j 0:=fun x=>by
  rw[List.getD_eq_getElem?_getD,List.getElem?_set];by_cases e:i=j
  ·subst e;rw[if_pos rfl,if_pos (by omega),if_pos rfl];rfl
  rw[if_neg e,if_neg e,←List.getD_eq_getElem?_getD]
 rw[eg];by_cases e:i=j
 ·subst e;rw[if_pos rfl];omega
 rw[if_neg e];have hj:j<i+1:=hj;exact h.rg j (show j<i by omega)
theorem pC{cf:List Int}(h:cf.length=12): ∃a b c d e f g i j k m n:Int,cf=[a,b,c,d,e,f,g,i,j,k,m,n]:=by
 rcases cf with _|⟨a,_|⟨b,_|⟨c,_|⟨d,_|⟨e,_|⟨f,_|⟨g,_|⟨i,_|⟨j,_|⟨k,_|⟨m,_|⟨n,_|⟨o,r⟩⟩⟩⟩⟩⟩⟩⟩⟩⟩⟩⟩⟩<;>simp at h
 exact⟨a,b,c,d,e,f,g,i,j,k,m,n,rfl⟩
theorem pD{ad:Option Addr}{a b c d e f g i j k p n:Int}(h:xQ.Ok ad nb ⟨12,[a,b,c,d,e,f,g,i,j,k,p,n],v,m⟩):(0≤a∧a≤12)∧(0≤b∧b≤12)∧(0≤c∧c≤12)∧(0≤d∧d≤12)∧(0≤e∧e≤12)∧(1≤f∧f≤4)∧(1≤g∧g≤4)∧(2≤i∧i≤8)∧(1≤j∧j≤16)∧(1≤k∧k≤4)∧(1≤p∧p≤8)∧(1≤n∧n≤16):=by
 have h0:0≤a∧a<0+13:=h.rg 0 (show 0<12 by decide);have h1:0≤b∧b<0+13:=h.rg 1 (show 1<12 by decide);have h2:0≤c∧c<0+13:=h.rg 2 (show 2<12 by decide);have h3:0≤d∧d<0+13:=h.rg 3 (show 3<12 by decide);have h4:0≤e∧e<0+13:=h.rg 4 (show 4<12 by decide);have h5:1≤f∧f<1+4:=h.rg 5 (show 5<12 by decide);have h6:1≤g∧g<1+4:=h.rg 6 (show 6<12 by decide);have h7:2≤i∧i<2+7:=h.rg 7 (show 7<12 by decide);have h8:1≤j∧j<1+16:=h.rg 8 (show 8<12 by decide);have h9:1≤k∧k<1+4:=h.rg 9 (show 9<12 by decide);have h10:1≤p∧p<1+8:=h.rg 10 (show 10<12 by decide);have h11:1≤n∧n<1+16:=h.rg 11 (show 11<12 by decide);omega
theorem Kc{l:List Int}{rs:List Value}(h:i<l.length):Qb (Dl l++rs) i=some (.int .i64 (l.getD i 0)):=by
 have:=EL (rs:=rs) h
 rwa [show 0+((i:Nat):Int).toNat*1=i by omega] at this
theorem Ao{l:List Int}{rs:List Value}{x:Int}(h:i<l.length):NL (Dl l++rs) i (.int .i64 x)=Dl (l.set i x)++rs:=by
 have:=ZI (rs:=rs) (x:=x) h
 rwa [show 0+((i:Nat):Int).toNat*1=i by omega] at this
theorem fp(a b:Int)(w:World)(k:Nat):(Op.equalIn (k+1) 3 (.int .i64 a) (.int .i64 b)).run Tryz.prog w= .ok (a==b) w:=by
 have hu:(underlying 3).run Tryz.prog w= .ok (.int .i64) w:=by kernel_rfl
 unfold Op.equalIn;rw[Sem.run_bind,hu];simp[go_sem]
theorem aR(a b c d e:Int)(w:World):(part 3 #[.int .i64 a,.int .i64 b,.int .i64 c,.int .i64 d,.int .i64 e] 0).run Tryz.prog w= .ok (.int .i64 a) w∧(part 3 #[.int .i64 a,.int .i64 b,.int .i64 c,.int .i64 d,.int .i64 e] 1).run Tryz.prog w= .ok (.int .i64 b) w∧
  (part 3 #[.int .i64 a,.int .i64 b,.int .i64 c,.int .i64 d,.int .i64 e] 2).run Tryz.prog w= .ok (.int .i64 c) w∧(part 3 #[.int .i64 a,.int .i64 b,.int .i64 c,.int .i64 d,.int .i64 e] 3).run Tryz.prog w= .ok (.int .i64 d) w∧(part 3 #[.int .i64 a,.int .i64 b,.int .i64 c,.int .i64 d,.int .i64 e] 4).run Tryz.prog w= .ok (.int .i64 e) w:=⟨by kernel_rfl,by kernel_rfl,by kernel_rfl,by kernel_rfl,by kernel_rfl⟩
def Yo(a b c d e:Int):Bool:=a==0&&b==0&&c==0&&d==0&&e==0
theorem AbL(a b c d e:Int)(w:World)(k:Nat):(Op.equalIn (k+2) 22 (.agg #[.int .i64 a,.int .i64 b,.int .i64 c,.int .i64 d,.int .i64 e]) (.agg #[.int .i64 0,.int .i64 0,.int .i64 0,.int .i64 0,.int .i64 0])).run Tryz.prog w= .ok (Yo a b c d e) w:=by
 have hu:(underlying 22).run Tryz.prog w= .ok (.array 5 3) w:=by kernel_rfl
 have hs:(sizeOf 3).run Tryz.prog w= .ok 1 w:=by kernel_rfl
 obtain⟨p0,p1,p2,p3,p4⟩:=aR a b c d e w;obtain⟨z0,z1,z2,z3,z4⟩:=aR 0 0 0 0 0 w;have h0:=fp a 0 w k;have h1:=fp b 0 w k;have h2:=fp c 0 w k;have h3:=fp d 0 w k;have h4:=fp e 0 w k;unfold Op.equalIn;rw[Sem.run_bind,hu];simp only[Result.andThen_ok,Sem.run_bind,hs];simp[Std.Legacy.Range.forIn_eq_forIn_range',List.range',p0,p1,p2,p3,p4,z0,z1,z2,z3,z4,h0,h1,h2,h3,h4];by_cases e0:a=0<;>by_cases e1:b=0<;>by_cases e2:c=0<;>by_cases e3:d=0<;>by_cases e4:e=0<;>simp[Yo,e0,e1,e2,e3,e4]
theorem rY(a b c d e:Int)(w:World):(binOp .eql 22 (.agg #[.int .i64 a,.int .i64 b,.int .i64 c,.int .i64 d,.int .i64 e]) (.agg #[.int .i64 0,.int .i64 0,.int .i64 0,.int .i64 0,.int .i64 0])).run Tryz.prog w= .ok (.bool (Yo a b c d e)) w:=by
 have:=AbL a b c d e w 9998;have h2:(Op.equal 22 (.agg #[.int .i64 a,.int .i64 b,.int .i64 c,.int .i64 d,.int .i64 e]) (.agg #[.int .i64 0,.int .i64 0,.int .i64 0,.int .i64 0,.int .i64 0])).run Tryz.prog w= .ok (Yo a b c d e) w:=this;simp only[binOp,Sem.run_bind,h2,Result.andThen_ok,Sem.run_pure]
theorem T.bA[Inhabited (List Deferred)]{c1 c2:Code}{r:List Code}(S':World→Prop)(Kn:GZ)(h1:T (Exit.then (fun a w=>S' w∧ ∃g,IC a n (Kn++g)) Q) n [c1,c2] S e)(h2: ∀g,T Q n r S' (Kn++g)):T Q n (c1::c2::r) S e:=fun w a hS hF=>by
 refine wp_mono (h1 w a hS hF) ?_;intro ex a1 w1 hq;cases ex with
 |normal=>
  refine wp_mono hq ?_;intro ex a2 w2 hq2;cases ex with
  |normal=>
   obtain⟨h3,g,h4⟩:=hq2;exact h2 g w2 a2 h3 h4
  |exit id=>exact hq2
  |goto l=>exact hq2
  |ret=>exact hq2
  |panic ch=>exact hq2
  |outgrown=>exact hq2
 |exit id=>exact hq
 |goto l=>exact hq
 |ret=>exact hq
 |panic ch=>exact hq
 |outgrown=>exact hq
theorem T.As[Inhabited (List Deferred)]{S':World→Prop}{Kn:GZ}(h: ∀w,S w→S' w)(he:oU e Kn):T (Exit.then (fun a w=>S' w∧ ∃g,IC a n (Kn++g)) Q) n [] S e:=fun w a hS hF=>⟨h w hS,e,Q8 hF he⟩
section
variable{R:BB}
variable{lo:Nat→Bool}{d:Option Nat}{gd:Option (Nat×Bool)}{x:Operand}
theorem KW{off:Nat}{cs:List Value}(hc:OQ cs off n=vs)(hn:vs.length=n)(ho:Aq[i]?=some ⟨d,.load t x,ty,ps,af,gd⟩)(Dy:(ef i,BA Aq ⟨d,.load t x,ty,ps,af,gd⟩ e)=(false,true))(hx:EF e x=some (.pointer (some ⟨b,off,none⟩)))(h1:Bq t n=true)(hi:In b cs H)
  (h:X Tryz.prog Aq lo ef K r (Sy C w0 D0 l H R) (bif lo i then(i,.agg vs.toArray)::U else U) (Dz d (.agg vs.toArray) e)):X Tryz.prog Aq lo ef K (i::r) (Sy C w0 D0 l H R) U e:=by
 have⟨hef,hw⟩:=Fb Dy;subst hc;exact qx (yU ho Dy hx) h1 hi hn h
end
structure pE where
 j:Nat
 IV:List (List I4)
 Ir:List Value
 pv:Value
 PB:List Bk
 ds:List Nat
 v:Value
 m:Nat
structure pE.Ok (ad:Option Addr) (nb:Nat) (mu:Int) (x:pE):Prop where
 le:((x.j:Nat):Int)≤mu
 len:x.IV.length=x.j∧x.Ir.length=x.j
 sl:Ht 66 1 x.pv x.Ir.length x.Ir x.PB
 cells: ∀v∈x.Ir,BL v=true
 ok: ∀p∈x.IV,Xx p
 bv:BV ad nb x.v x.m
 fo:x.m≤nb
structure mZ where
 c:Fj
 IV:List (List I4)
 Ir:List Value
 LJ:List Value
 pb:Nat
 pc:Nat
 ks:List (Int×Int)
 kv:Value
 KB:List Bk
abbrev mZ.val(a:mZ):Value:= .agg (a.c.cells++[Dc a.pb a.Ir.length a.pc,a.kv]).toArray
structure mZ.Ok (nb:Nat) (a:mZ):Prop where
 ok:a.c.ok=true
 len:((a.IV.length:Nat):Int)=a.c.Ak∧a.Ir.length=a.IV.length
 Aq: ∀p∈a.IV,Xx p
 sl:Ht 38 2 a.kv a.ks.length (mY a.ks) a.KB
 ks:a.ks.length≤nb
def mZ.R(a:mZ):BB:=Az (⟨a.pb,66,a.Ir++a.LJ⟩::a.KB) (IW a.Ir a.IV)
theorem BV.le{ad:Option Addr}(h:BV ad n v m):m≤n:=by
 rcases h with⟨c,-,rfl⟩|⟨a,k,c,-,-,-,h⟩
 ·exact Nat.zero_le _
 rcases Nat.eq_zero_or_pos m with rfl|hm
 ·exact Nat.zero_le _
 have:=h hm;omega
theorem fq{lb b2 b0 Yc b1 q:Bk}{PB:List Bk}:Wk (Az ((lb::b2::b0::Yc::b1::PB)++[q]) F) (Az (b2::b0::Yc::q::b1::lb::PB) F):=by
 refine Jy ⟨_,?_,List.Sublist.refl _⟩;have h1:((lb::b2::b0::Yc::b1::PB)++[q]).Perm (q::(lb::b2::b0::Yc::b1::PB)):=List.perm_append_singleton q _;have h2:(b2::b0::Yc::q::b1::lb::PB).Perm (q::([b2,b0,Yc]++(b1::lb::PB))):=List.perm_middle (l₁:=[b2,b0,Yc]);have h3:([b2,b0,Yc]++(b1::lb::PB)).Perm (lb::([b2,b0,Yc,b1]++PB)):=List.perm_middle (l₁:=[b2,b0,Yc,b1]);exact(h2.trans (h3.cons q)).trans h1.symm
theorem ft{lv:Value}{Aq:List I4}{PB:List Bk}{ds:List Nat}(hl:Ir.length=IV.length):BG (Az [⟨lb,66,[lv]⟩] (fO lv Aq)) (Az PB (gI ds (IW Ir IV)))=Az (⟨lb,66,[lv]⟩::PB) (gI ds (IW (Ir++[lv]) (IV++[Aq]))):=by
 rw[EK,D9 (fO lv Aq),EK,jl,D9 (IW Ir IV),rX hl];rfl
theorem pH{b2 b0 Yc q rb:Bk}{Dd:Nat}{Aq:List I4}{PB:List Bk}{ds:List Nat}(hl:Ir.length=IV.length)(h:Sy C w0 D0 l [b2,b0,Yc,q,rb] (ob Dd ET (BG (YI lb Aq) (Az PB (gI ds (IW Ir IV))))) w):
  ∃lv,(∃p c,lv= .slice p Aq.length c)∧Sy C w0 D0 l (⟨lb,66,[lv]⟩::b2::b0::Yc::rb::PB) (gI (Dd::ds) (IW (Ir++[lv]) (IV++[Aq]))) w:=by
 have hF:CV (gI ds (IW Ir IV)):=Qv Hw ds;have hL: ∀lv,CV (ob Dd ET (BG (Az [⟨lb,66,[lv]⟩] (fO lv Aq)) (Az PB (gI ds (IW Ir IV))))):=fun lv=>JW (Ag (Ac kJ _) (Ac hF _))
 have h1:Sy C w0 D0 l [b2,b0,Yc,q,rb] (fun D w=> ∃lv,(∃p c,lv= .slice p Aq.length c)∧ob Dd ET (BG (Az [⟨lb,66,[lv]⟩] (fO lv Aq)) (Az PB (gI ds (IW Ir IV)))) D w) w:=h.wk (AQ fun lv=>Ba (hL lv)) (fun D w ⟨g1,D1,⟨E1,E2,hy,hx,k1,k2⟩,g3,g4⟩=>by
  obtain⟨lv,hlv,hp⟩:=YI.pg E1 w hy;exact⟨D,⟨lv,hlv,g1,D1,⟨E1,E2,hp,hx,k1,k2⟩,g3,g4⟩,fun _ hk=>hk⟩)
 obtain⟨lv,h2⟩:=h1.MU (fun lv=>Ba (hL lv));obtain⟨hlv,h3⟩:=h2.VS (hL lv);refine⟨lv,hlv,h3.Jc (Qv Hw _) ?_⟩;rw[ft hl];have k1:Wk (ob Dd ET (Az (⟨lb,66,[lv]⟩::PB) (gI ds (IW (Ir++[lv]) (IV++[Aq]))))) (Az (⟨lb,66,[lv]⟩::PB) (gI (Dd::ds) (IW (Ir++[lv]) (IV++[Aq])))):=Yb _;refine(Wk.Az k1 [b2,b0,Yc,q,rb]).trans ?_;exact Jy (A:=b2::b0::Yc::q::rb::⟨lb,66,[lv]⟩::PB) ⟨b2::b0::Yc::rb::⟨lb,66,[lv]⟩::PB,(List.perm_middle (l₁:=[b2,b0,Yc,rb])).symm,.cons_cons _ (.cons_cons _ (.cons_cons _ (.cons _ (List.Sublist.refl _))))⟩
theorem T.fv{ad:Option Addr}{p mW mX bk m0:Nat}{r:List Code}{g:Operand}{Ob Oc:Array Oper}{Al An:List Nat}{Bw Bx:Nat→Bool}{v0:Value}[i0:Inhabited (List Deferred)](hB:By w0 D0 ad nb)(hg:EF e g=some (.func (.func 100) #[] #[AX q]))(hf:Cm 100=true)(hbv:BV ad nb v0 m0)(hF:CV F)(hpn:p<n)
  (hdA:nZ Ob n=true) (hoA:List.range Ob.size=Al) (hdB:nZ Oc n=true) (hoB:List.range Oc.size=An)
  (hX: ∀(L fn Dd:Nat) (tmps:Array Value) (Dh:List I4) (o:I4) (lv:Value) (LB:List Bk) (w1:World) (D1:LV),Dh.length<64→Ht 65 4 lv Dh.length (Nk Dh) LB→
   X Tryz.prog Ob (fun _=>false) Bw (fun S1 e1=> ∃H1,S1=Sy C w1 D1 l H1 (ob L (Ph .ready fn Dd tmps #[p] (.region mW Ob false) (.block bk (.region mX Oc false))) (ob Dd ET Cj))∧
    X Tryz.prog Oc (fun _=>false) Bx (fun S2 e2=> ∃H2,S2=Sy C w1 D1 l H2 (ob L (Ph .busy fn Dd tmps #[p] (.region mW Ob false) (.block bk (.region mX Oc false))) (ob Dd ET Cj))∧Wk (Az H2 Cj) (YI lb (Dh++[o]))) An
     (Sy C w1 D1 l H1 (ob L (Ph .busy fn Dd tmps #[p] (.region mW Ob false) (.block bk (.region mX Oc false))) (ob Dd ET Cj))) [] e1) Al
    (Sy C w1 D1 l (⟨lb,66,[lv]⟩::LB) (ob L (Ph .ready fn Dd tmps #[p] (.region mW Ob false) (.block bk (.region mX Oc false))) (ob Dd ET Cj))) [] ((p,.agg (Fm o).toArray)::e))
  (h: ∀(Dd:Nat) (u:Value×Nat×List I4),(BV ad nb u.1 u.2.1∧u.2.2.length≤64∧ ∀o∈u.2.2,Np o)→ @T ⟨mark Dd::default⟩ Q n r (Sy C w0 D0 l (H1++[⟨q,139,[AX rb]⟩,⟨rb,141,[u.1]⟩]) (ob Dd ET (BG (YI lb u.2.2) F))) e):
  T Q n (.rangeFunc g #[p] (.region mW Ob false) (.block bk (.region mX Oc false))::r) (Sy C w0 D0 l (H1++[⟨q,139,[AX rb]⟩,⟨rb,141,[v0]⟩]) (Az [⟨lb,66,[.slice none 0 0]⟩] F)) e:=
 T.AbF (α:=Value×Nat×List I4) (cap:=[AX q]) (B:=fun u=>[⟨q,139,[AX rb]⟩,⟨rb,141,[u.1]⟩]) (R':=fun u=>BG (YI lb u.2.2) F) hB hg hf rfl (fun _=>Ag xP hF) (fun fn L Dd tmps hsz hat=>by
  have hc:=S0 (C:=C) (l:=l) (rb:=rb) (q:=q) (L:=L) (I:=fun Dh=>ob L (Ph .ready fn Dd tmps #[p] (.region mW Ob false) (.block bk (.region mX Oc false))) (ob Dd ET (YI lb Dh))) (fun _=>JW (JW xP)) hbv
   (fun Dh o hp ho=>YC.yi fun lv LB hlv=>YC.of (l:=l) hsz hat hpn xP hdA hoA hdB hoB fun w1 D1=>hX L fn Dd tmps Dh o lv LB w1 D1 hp hlv)
  have hc2:=Cb.FD hc hF;refine Cb.imp (Cb.Dh hc2 (fun D w hR=>?_)) (fun u D w hR=>?_)
  ·show BG (Az _ (ob _ _ (ob _ _ (YI lb [])))) F D w;rw[EK,ZM,ZM];have e1:Az [(⟨lb,66,[.slice none 0 0]⟩:Bk)] F=BG (Az [⟨lb,66,[.slice none 0 0]⟩] Cj) F:=by rw[EK,Gl]
   rw[e1] at hR;have hm: ∀D w,BG (Az [(⟨lb,66,[.slice none 0 0]⟩:Bk)] Cj) F D w→BG (YI lb []) F D w:=fun D w ⟨D1,D2,k1,k2,k3,k4⟩=>⟨D1,D2,YI.nil k1,k2,k3,k4⟩
   obtain⟨g1,E1,⟨g2,E2,⟨g3,E3,⟨g4,E4,k,j1,j2⟩,j3,j4⟩,j5,j6⟩,j7,j8⟩:=hR;exact⟨g1,E1,⟨g2,E2,⟨g3,E3,⟨g4,E4,hm _ _ k,j1,j2⟩,j3,j4⟩,j5,j6⟩,j7,j8⟩
  have hR:BG (Az [⟨q,139,[AX rb]⟩,⟨rb,141,[u.1]⟩] (ob L (Ph .ready fn Dd tmps #[p] (.region mW Ob false) (.block bk (.region mX Oc false))) (ob Dd ET (YI lb u.2.2)))) F D w:=hR;rw[EK,ZM,ZM] at hR;exact hR) h
theorem gK{a b:Value}(h1:BL a=true)(h2:BL b=true):(c.cells++[a,b]).all BL=true:=by
 show(true&&(true&&(true&&(true&&(true&&(true&&(true&&(true&&(true&&(true&&(true&&(true&&(BL a&&(BL b&&true))))))))))))))=true;rw[h1,h2];rfl
theorem S5{a b c d e:Int}(h:Yo a b c d e=false)(h0:0≤a)(h1:0≤b)(h2:0≤c)(h3:0≤d)(h4:0≤e):a+b+c+d+e≠0:=fun hs=>by
 obtain⟨rfl,rfl,rfl,rfl,rfl⟩:a=0∧b=0∧c=0∧d=0∧e=0:=by omega
 cases h
end Mp
theorem pL:Pm 147 0 0=true:=by kernel_rfl
theorem pN:Pm 147 1 1=true:=by kernel_rfl
theorem pP:Pm 147 2 2=true:=by kernel_rfl
theorem bB:Pm 49 1 12=true:=by kernel_rfl
theorem fx:Pm 49 2 13=true:=by kernel_rfl
theorem g68:Cm 68=true:=by kernel_rfl
theorem g70:Cm 70=true:=by kernel_rfl
theorem g71:Cm 71=true:=by kernel_rfl
theorem AbM:Jv 141 [(0,1)]=true:=by kernel_rfl
theorem AbN:Bq 147 3=true:=by kernel_rfl
theorem kY:Bq 49 14=true:=by kernel_rfl
theorem AbO:one 145=true:=by kernel_rfl
theorem o46:one 46=true:=by kernel_rfl
theorem o47:one 47=true:=by kernel_rfl
theorem rZ:Ec 142 (JU)=true:=by kernel_rfl
theorem AbP:LU 141=some [.slice none 0 0]:=by kernel_rfl
theorem tQ:LU 49=some [.int .i64 0,.int .i64 0,.int .i64 0,.int .i64 0,.int .i64 0,.int .i64 0,.int .i64 0,.int .i64 0,.int .i64 0,.int .i64 0,.int .i64 0,.int .i64 0,.slice none 0 0,.slice none 0 0]:=by kernel_rfl
namespace Mp
theorem gQ{ad:Option Addr}(hv:BV ad nb v nb)(hnb:nb≤100000):Cb (α:=mZ) C 39 [v] ad nb l Cj mZ.val (mZ.Ok nb) mZ.R:=by
 obtain⟨p00,c00,rfl⟩:=hv.len;refine Cb.ofM (vs:=[.slice p00 nb c00]) Tryz.func39 rfl Tryz.ntmps39 (by simp) Aa ?_;intro w0 D0 hB;refine AZ 2 [1] Z<|Hg Z tQ CE fun b0=>AP 4 [4] Z<|Fp Z AbM AbP Z<|F7 Z CE fun b1=>AP 4 [1] Z<|Hg Z tQ CE fun b2=>AP 5 [2] Z<|NW (H1:=[_,_,_]) (H2:=[]) (B:=fun(a:Value×List Bk)=>a.2) Z g68 Z (xO) (fun _=>Aa) JH fun a3 JK=>PZ JK Z Z Z rZ<|AY 2 [] Z<|T.block ?_
 obtain⟨nv,NBs⟩:=a3;obtain⟨Yc,Ib,nm,rfl,-,-,-,-,rfl⟩:=(show Ht 147 3 nv 12 (xM b2) NBs from JK).resolve_left (fun h=>absurd h.2.1 (by decide));refine T.Jc (H':=[_,_,_,_]) Aa (Wk.pick [0,2,3,1] (by decide))<|T.loop (fun(x:xQ) w=>x.Ok ad nb∧Sy C w0 D0 l [⟨b2,49,Dl x.cf++[.slice none 0 0,.slice none 0 0]⟩,⟨b0,49,[.int .i64 0,.int .i64 0,.int .i64 0,.int .i64 0,.int .i64 0,.int .i64 0,.int .i64 0,.int .i64 0,.int .i64 0,.int .i64 0,.int .i64 0,.int .i64 0,.slice none 0 0,.slice none 0 0]⟩,⟨Yc,147,xM b2++Ib⟩,⟨b1,141,[x.v]⟩] Cj w) (fun x=>[(15,.int .i64 ((x.i:Nat):Int)),(14,.int .i64 ((12:Nat):Int)),(13,Dc Yc 12 nm),(3,AX b1),(4,AX b2),(2,AX b0)]) (fun x=>12-x.i) ⟨0,List.replicate 12 0,.slice p00 nb c00,nb⟩ (fun w h=>⟨⟨Nat.zero_le _,List.length_replicate ..,fun _ h=>absurd h (Nat.not_lt_zero _),hv,Nat.le_refl _⟩,h⟩) ⟨Z,Z,Z,Z,Z,Z,trivial⟩ ?_;rintro⟨i,cf,v1,m1⟩ g;refine T.pure ?_;intro hx;have hl12:cf.length=12:=hx.len;have hile:i≤12:=hx.le;refine CW 5 [] Z<|T.cond Z ?_ ?_
 ·intro hb0;have kM:i<12:=by have:((i:Nat):Int)<((12:Nat):Int):=of_decide_eq_true hb0;omega
  refine CW 2 [] Z<|T.block<|AZ 2 [12] Z<|Jm Z WQ ⟨Int.natCast_nonneg _,by show((i:Nat):Int)<((12:Nat):Int);omega⟩<|KW (pB kM) Z Z Z Z AbN (.s (.s .z))<|Hg Z Qw CE fun b4=>AY 2 [] Z<|Br [0,1,2,3,4,6,7,5,8,9,10,11] 207 2080 (by kernel_rfl)<|AP 7 [] Z<|xJ (H1:=[_,_,_,_]) (H2:=[_]) (B:=fun(u:Int×Value)=>[⟨b1,141,[u.2]⟩]) hB Z Z Z Z tP Z (SQ hx.bv) (fun _=>Aa) (fun a5 Z2=>(BP Z o3 .z Z (Ed Z pP (BP Z o3 .z Z (Ed Z pN (BP Z AbO .z Z (Ed Z pL Aw))))))) fun a5 Z2=>Le (v:= .int .i64 (a5.1.tmod (aM.getD i 0))) Z Pg (fun w=>OA (by have:=xN kM;omega) w)<|BU (c:=(aL.getD i 0+a5.1.tmod (aM.getD i 0))) Z (by have h1:=xN kM;have h2:=WO Z2.1.1 h1.1;simp only[FC];exact IntWalk.i64_in _ (by omega))<|xnc Z<|KQ Z o3 Z (.s .z) (Kc (hl12.symm▸kM)) (.s .z) (Aj (by kernel_rfl) (Aj (by kernel_rfl) (Aj (by kernel_rfl) (Aj (by kernel_rfl) (Aj (by kernel_rfl) (Aj (by kernel_rfl) Aw)))))) ?_
  rw[Ao (hl12.symm▸kM)];exact X.nil<|T.Bj<|tx 2 nf Z<|BU (c:=((i+1:Nat):Int)) Z (by simp only[FC];rw[IntWalk.i64_in _ (by omega)];omega)<|AY 2 [] Z<|T.FT ⟨i+1,cf.set i (aL.getD i 0+a5.1.tmod (aM.getD i 0)),a5.2,m1-1⟩ (by show 12-(i+1)<12-i;omega) (fun w h=>⟨hx.step kM Z2.1.1 Z2.2,h.Jc Aa Wk.tail⟩) ⟨rfl,rfl,rfl,rfl,rfl,rfl,trivial⟩
 intro hb0;obtain rfl:i=12:=by have: ¬((i:Nat):Int)<((12:Nat):Int):=of_decide_eq_false hb0;omega
 obtain⟨k0,k1,k2,k3,k4,k5,k6,k7,k8,k9,k10,k11,rfl⟩:=pC hl12;have hr:=pD hx;refine T.exit<|TE.FQ<|TE.DC<|CW 2 [] Z<|T.bA (fun w=> ∃c:Fj,c.ok=true∧Sy C w0 D0 l [⟨b2,49,c.cells++[.slice none 0 0,.slice none 0 0]⟩,⟨b0,49,[.int .i64 0,.int .i64 0,.int .i64 0,.int .i64 0,.int .i64 0,.int .i64 0,.int .i64 0,.int .i64 0,.int .i64 0,.int .i64 0,.int .i64 0,.int .i64 0,.slice none 0 0,.slice none 0 0]⟩,⟨Yc,147,xM b2++Ib⟩,⟨b1,141,[v1]⟩] Cj w) ([(3,AX b1),(4,AX b2),(2,AX b0)]) ?_ ?_
 ·skip;rcases(show Yo k0 k1 k2 k3 k4=true∨Yo k0 k1 k2 k3 k4=false from by cases Yo k0 k1 k2 k3 k4<;>simp) with hz|hz
  ·skip;exact AZ 3 [] Z<|KW (vs:=[.int .i64 k0,.int .i64 k1,.int .i64 k2,.int .i64 k3,.int .i64 k4]) Z Z Z Z Z vc .z<|FB (v:= .agg #[.int .i64 0,.int .i64 0,.int .i64 0,.int .i64 0,.int .i64 0]) Z Z Z (fun w _=>by kernel_rfl)<|Le (v:= .bool true) Z (fun w=>by kernel_rfl) (fun w=>by rw[←hz];exact rY _ _ _ _ _ w)<|AP 5 [8] Z<|OU Z UW o3 (by decide)<|AY 2 [] Z<|T.As (fun w h=>⟨⟨1,k1,k2,k3,k4,k5,k6,k7,k8,k9,k10,k11⟩,Fj.NH.2 (by dsimp only;omega),h⟩) ⟨rfl,rfl,rfl,trivial⟩
  skip;exact AZ 3 [] Z<|KW (vs:=[.int .i64 k0,.int .i64 k1,.int .i64 k2,.int .i64 k3,.int .i64 k4]) Z Z Z Z Z vc .z<|FB (v:= .agg #[.int .i64 0,.int .i64 0,.int .i64 0,.int .i64 0,.int .i64 0]) Z Z Z (fun w _=>by kernel_rfl)<|Le (v:= .bool false) Z (fun w=>by kernel_rfl) (fun w=>by rw[←hz];exact rY _ _ _ _ _ w)<|AY 3 [] Z<|T.As (fun w h=>⟨⟨k0,k1,k2,k3,k4,k5,k6,k7,k8,k9,k10,k11⟩,Fj.NH.2 (by have:=S5 hz (by omega) (by omega) (by omega) (by omega) (by omega);dsimp only;omega),h⟩) ⟨rfl,rfl,rfl,trivial⟩
 intro g2;refine T.some ?_;intro c;refine T.pure ?_;intro hok;have hc:=Fj.Ok.of hok;have hmu:=hc.Ak;have hma:=hc.Ai;refine CW 8 [] Z<|T.block<|T.fh (Kn:=fun x=>[(42,.int .i64 ((x.j:Nat):Int)),(41,.int .i64 c.Ak),(3,AX b1),(4,AX b2),(2,AX b0)]) (fun(x:pE) w=>x.Ok ad nb c.Ak∧Sy C w0 D0 l (⟨b2,49,c.cells++[x.pv,.slice none 0 0]⟩::⟨b0,49,[.int .i64 0,.int .i64 0,.int .i64 0,.int .i64 0,.int .i64 0,.int .i64 0,.int .i64 0,.int .i64 0,.int .i64 0,.int .i64 0,.int .i64 0,.int .i64 0,.slice none 0 0,.slice none 0 0]⟩::⟨Yc,147,xM b2++Ib⟩::⟨b1,141,[x.v]⟩::x.PB) (gI x.ds (IW x.Ir x.IV)) w) (fun x=>x.ds.map mark) (fun x=>c.Ak.toNat-x.j) ⟨0,[],[],.slice none 0 0,[],[],v1,m1⟩ (fun w h=>⟨⟨by show((0:Nat):Int)≤c.Ak;omega,⟨rfl,rfl⟩,Ht.nil,fun _ h=>(by cases h),fun _ h=>(by cases h),hx.bv,hx.fo⟩,h⟩) Z ⟨Z,Z,Z,Z,Z,trivial⟩ ?_;rintro⟨j,IV,Ir,pv,PB,ds,v2,m2⟩ g3;show @T ⟨ds.map mark⟩ _ _ _ _ _;generalize hi1:Inhabited.mk (ds.map mark)=i1;refine T.pure ?_;intro hx2;have hjle:((j:Nat):Int)≤c.Ak:=hx2.le;have hpl:IV.length=j:=hx2.len.1;have fy:Ir.length=j:=hx2.len.2;have hsl:Ht 66 1 pv Ir.length Ir PB:=hx2.sl;have Uk:CV (gI ds (IW Ir IV)):=Qv Hw ds;refine CW 5 [] Z<|T.cond Z ?_ ?_
 ·intro hb2;have hj:((j:Nat):Int)<c.Ak:=of_decide_eq_true hb2;refine CW 2 [] Z<|T.block<|AZ 2 [1] Z<|Hg Z z66 CE fun b6=>AP 5 [2] Z<|NW (H1:=_) (H2:=[]) (B:=fun(q:Nat)=>[⟨q,139,[AX b1]⟩]) Z g70 (List.append_nil _) (Ce.Xz (H:=[]) oX Uk) (fun _=>Uk) JH fun q hq=>X.nil<|T.block<|T.Jc (H':=[_,_,_]++[_,_]) (R':=Az (⟨b6,66,[.slice none 0 0]⟩::PB) (gI ds (IW Ir IV))) (Ac Uk _) fq<|T.fv (Al:=[0,1]) (An:=[0,1,2,3,4]) (Bw:=(fun i=>[0,1].contains i)) (Bx:=(fun i=>[2,3,4].contains i)) (H1:=[_,_,_]) hB Z AbC hx2.bv (Ac Uk PB) (by decide) Z Z Z Z ?_ ?_
  ·intro L fn Dd tmps Dh o lv LB w1 D1 hpre hlv;refine Hg Z Bt CE fun b7=>H9 Z ax Z Z .z (Nat.le_of_ble_eq_true Z) .z Aw<|X.nil ⟨_,Z,?_⟩
   refine JY Z Mv (.s .z) Z<|qx Z ax .z Z<|Qc Z XK Bt (by decide) Z Z Z CE fun b8=>MG (n:=4) (news:=Fm o) (Ff:=[]) (Hr:=[_,_,_]) (cn:=Nk (Dh++[o])) (kn:=Dh.length+1) hlv Z Z Z XK Z .z Z (fun v h=>by simp[Fm] at h;rcases h with rfl|rfl|rfl|rfl<;>rfl) ⟨by omega,by omega,by omega,by omega⟩ (gJ Dh o).symm Z CE fun lv2 LB2 hlv2=>KQ Z Mv (Ht.TG hlv2) (.s (.s .z)) Z (.s (.s .z)) Aw<|X.nil ⟨_,Z,?_⟩
   exact(Wk.tail.trans Wk.tail).trans (Wk.of fun D w h=>⟨(lv2,LB2),⟨by rw[List.length_append];exact hlv2,fun h=>absurd h (by simp)⟩,h⟩)
  intro Dd u hu;generalize hi2:Inhabited.mk (mark Dd:: @default _ i1)=i2;refine T.Bj<|T.conv (fun w h=>pH (fy.trans hpl.symm) h)<|T.some ?_;intro lv;refine T.pure ?_;rintro⟨pl,cl,rfl⟩;refine tx 7 (ct [3,4,6]) Z<|uG Z bB<|JY Z o46 (.s .z) Z<|JY Z Mv .z Z<|Qc Z md z66 (by decide) Z Z Z CE fun b9=>MG (n:=1) (news:=[(Value.slice pl u.2.2.length cl)]) (Ff:=[]) (Hr:=[_,_,_,_,_,_]) (cn:=Ir++[(Value.slice pl u.2.2.length cl)]) (kn:=Ir.length+1) hsl Z Z Z md Z .z Z (fun v h=>by rw[List.mem_singleton.1 h];rfl) ⟨by omega,by omega,by omega,by omega⟩ Z Z CE fun pv2 PB2 hpv2=>uG Z bB<|KQ Z o46 (Ht.TG hpv2) (.s (.s .z)) Z (.s (.s .z)) Aw<|X.nil<|T.Bj<|tx 2 nf Z<|BU (c:=((j+1:Nat):Int)) Z (by simp only[FC];rw[IntWalk.i64_in _ (by omega)];omega)<|NC Z<|X.nil ?_
  exact T.S3 ⟨j+1,IV++[u.2.2],Ir++[(Value.slice pl u.2.2.length cl)],pv2,PB2,Dd::ds,u.1,u.2.1⟩ (by show c.Ak.toNat-(j+1)<c.Ak.toNat-j;omega) (fun w h=>⟨⟨by show((j+1:Nat):Int)≤c.Ak;omega,by constructor<;>(show List.length (_++[_])=_;rw[List.length_append];simp only[List.length_cons,List.length_nil];omega),by show Ht 66 1 pv2 (List.length (Ir++[_])) (Ir++[_]) PB2;rw[List.length_append];exact hpv2,fun v hv=>(List.mem_append.1 hv).elim (hx2.cells v) (fun h=>by rw[List.mem_singleton.1 h];rfl),fun p hp=>(List.mem_append.1 hp).elim (hx2.ok p) (fun h=>by rw[List.mem_singleton.1 h];exact hu.2),hu.1,hu.1.le⟩,h.Jc (Qv Hw _) (Wk.tail.trans Wk.tail)⟩) (by subst hi2;subst hi1;rfl) ⟨rfl,rfl,rfl,rfl,rfl,trivial⟩
 intro hb2;have hj: ¬((j:Nat):Int)<c.Ak:=of_decide_eq_false hb2;obtain⟨pb,LJ,pc,rfl,-,-,-,-,rfl⟩:=hsl.resolve_left (fun h=>by have:=h.2.1;omega);refine T.exit<|TE.Kb<|TE.DC<|T.seq<|Ey 15 0 20480 (by kernel_rfl)<|AP 10 [3] Z<|BU (c:=(c.Ai+c.Ak)) Z (by simp only[FC];exact IntWalk.i64_in _ (by omega))<|BU (c:=(c.Ai+c.Ak+1)) Z (by simp only[FC];exact IntWalk.i64_in _ (by omega))<|xJ (H1:=_) (H2:=[]) (B:=fun(u:Value×List Bk×List (Int×Int))=>u.2.1) hB Z Z Z Z g71 (List.append_nil _) (Cb.fr (H:=[]) (rW hx2.bv (Nat.le_trans hx2.fo hnb)) Uk) (fun _=>Uk) JH fun u2 hu2=>uG Z fx<|KQ Z o47 (Ht.TG hu2.1) .z Z .z Aw<|AP 3 [2] Z<|KW (vs:=c.cells++[Dc pb Ir.length pc,u2.1]) Z Z Z Z Z kY .z<|H9 Z kY Z (gK Z (Ht.TG hu2.1)) (.s .z) (Nat.le_of_ble_eq_true Z) (.s .z) Aw<|X.nil ?_
 subst hi1;refine T.fi Z Z kY (.s .z) Z Hw fun W D h=>?_
 obtain⟨D1,h1,h2⟩:=(Wk.tail.trans (Wk.tail.trans (Wk.tail.trans Wk.tail))) D W h;exact⟨D1,⟨⟨c,IV,Ir,LJ,pb,pc,u2.2.2,u2.1,u2.2.1⟩,rfl,⟨hok,⟨by show((IV.length:Nat):Int)=c.Ak;omega,fy.trans hpl.symm⟩,hx2.ok,hu2.1,Nat.le_trans hu2.2 hx2.fo⟩,rfl,h1⟩,h2⟩
end Mp
namespace Iv
variable{a v j b n p w:Int}{e:Ev}{f:Nat→Nat}{k:Nat}{t:yV}{L H P4 P5 hold H':List Int}{y:Mk}{F:Nat→List Int}{D:De}
open Go.Proofs.YtmpcfamcbaineaaGreat.Mo
def Wo.Fv(M:Bz)(W:Wo)(Di ER:Int):Wo×Ev:=if 0≤Di∧Di<W.FX then W.step M Di.toNat ER else(W,BH)
def Yd(e:Ev):Bool:=decide (8≤e.kind∧e.kind≤13)
def At(M:Bz):List (Int×Int)→Wo→Wo
 |[],W=>W
 |q::ps,W=>At M ps (Wo.Fv M W q.1 q.2).1
def Qx(M:Bz):List (Int×Int)→Wo→List Ev
 |[],_=>[]
 |q::ps,W=>if Yd (Wo.Fv M W q.1 q.2).2=true then(Wo.Fv M W q.1 q.2).2::Qx M ps (Wo.Fv M W q.1 q.2).1 else Qx M ps (Wo.Fv M W q.1 q.2).1
def QK(y v:Ev):Bool:=decide (y.kind=13∧y.b≥22∨v.kind=13∧v.b≥22)
def Pr.P8(p:Pr)(a:Int):Pr:={p with at_:=p.at_.set (p.P6 a) 0}
def JP(M:Bz)(me:Int)(x:List Ev):Nat→Nat→Wo→Pr→Pr→Bool
 |0,k,_,_,_=>decide (k=x.length)
 |f+1,k,U,p,q=>
  if k≥x.length then decide (k=x.length)
  else if Yd (U.step M me.toNat 0).2=false then JP M me x f k (U.step M me.toNat 0).1 p q
  else if QK (x.getD k BH) (U.step M me.toNat 0).2=true then true
  else if(U.step M me.toNat 0).2.kind≠(x.getD k BH).kind∨(U.step M me.toNat 0).2.b≠(x.getD k BH).b then false
  else if((if(U.step M me.toNat 0).2.kind=8 then p.P8 (x.getD k BH).a else p).take me (x.getD k BH)).ok=false∨(q.take me (U.step M me.toNat 0).2).ok=false∨
   ((if(U.step M me.toNat 0).2.kind=8 then p.P8 (x.getD k BH).a else p).take me (x.getD k BH)).g.rs 0≠(q.take me (U.step M me.toNat 0).2).g.rs 0 then false
  else JP M me x f (k+1) (U.step M me.toNat 0).1 ((if(U.step M me.toNat 0).2.kind=8 then p.P8 (x.getD k BH).a else p).take me (x.getD k BH)) (q.take me (U.step M me.toNat 0).2)
open Go.Proofs.YtmpcfamcbaineaaGreat.Mo
section
variable{U:Wo}{p q:Pr}{me:Int}{x:List Ev}
theorem WR: ∀(ps:List (Int×Int)) (W:Wo) (a:Int×Int),At M (ps++[a]) W=(Wo.Fv M (At M ps W) a.1 a.2).1
 |[],_,_=>rfl
 |b::ps,W,a=>WR ps (Wo.Fv M W b.1 b.2).1 a
theorem WS: ∀(ps:List (Int×Int)) (W:Wo) (a:Int×Int),Qx M (ps++[a]) W=Qx M ps W++(if Yd (Wo.Fv M (At M ps W) a.1 a.2).2=true then[(Wo.Fv M (At M ps W) a.1 a.2).2] else[])
 |[],W,a=>by
  show(if _ then _ else _)=[]++(if _ then _ else _);by_cases h:Yd (Wo.Fv M W a.1 a.2).2=true
  ·rw[if_pos h];show[_]=if Yd (Wo.Fv M W a.1 a.2).2=true then _ else _
   rw[if_pos h];rfl
  rw[if_neg h];show[]=if Yd (Wo.Fv M W a.1 a.2).2=true then _ else _
  rw[if_neg h]
 |b::ps,W,a=>by
  have ih:=WS ps (Wo.Fv M W b.1 b.2).1 a;show(if Yd (Wo.Fv M W b.1 b.2).2=true then _ else _)=(if Yd (Wo.Fv M W b.1 b.2).2=true then _ else _)++_;by_cases h:Yd (Wo.Fv M W b.1 b.2).2=true
  ·rw[if_pos h,if_pos h];exact congrArg _ ih
  rw[if_neg h,if_neg h];exact ih
theorem S6{f:Nat}(h:JP M me x (f+1) k U p q=true)(hk:k<x.length):
  (Yd (U.step M me.toNat 0).2=false∧JP M me x f k (U.step M me.toNat 0).1 p q=true)∨
  (Yd (U.step M me.toNat 0).2=true∧QK (x.getD k BH) (U.step M me.toNat 0).2=true)∨
  (Yd (U.step M me.toNat 0).2=true∧QK (x.getD k BH) (U.step M me.toNat 0).2=false∧(U.step M me.toNat 0).2.kind=(x.getD k BH).kind∧(U.step M me.toNat 0).2.b=(x.getD k BH).b∧
   ((if(U.step M me.toNat 0).2.kind=8 then p.P8 (x.getD k BH).a else p).take me (x.getD k BH)).ok=true∧(q.take me (U.step M me.toNat 0).2).ok=true∧
   ((if(U.step M me.toNat 0).2.kind=8 then p.P8 (x.getD k BH).a else p).take me (x.getD k BH)).g.rs 0=(q.take me (U.step M me.toNat 0).2).g.rs 0∧
   JP M me x f (k+1) (U.step M me.toNat 0).1 ((if(U.step M me.toNat 0).2.kind=8 then p.P8 (x.getD k BH).a else p).take me (x.getD k BH)) (q.take me (U.step M me.toNat 0).2)=true):=by
 unfold JP at h;rw[if_neg (by omega)] at h;by_cases h1:Yd (U.step M me.toNat 0).2=false
 ·rw[if_pos h1] at h;exact .inl ⟨h1,h⟩
 rw[if_neg h1] at h;have h1':Yd (U.step M me.toNat 0).2=true:=by simpa using h1
 by_cases h2:QK (x.getD k BH) (U.step M me.toNat 0).2=true
 ·exact .inr (.inl ⟨h1',h2⟩)
 rw[if_neg h2] at h;have h2':QK (x.getD k BH) (U.step M me.toNat 0).2=false:=by simpa using h2
 by_cases h3:(U.step M me.toNat 0).2.kind≠(x.getD k BH).kind∨(U.step M me.toNat 0).2.b≠(x.getD k BH).b
 ·rw[if_pos h3] at h;cases h
 rw[if_neg h3] at h;have h3':=not_or.1 h3;obtain⟨P',hP'⟩: ∃P',(if(U.step M me.toNat 0).2.kind=8 then p.P8 (x.getD k BH).a else p)=P':=⟨_,rfl⟩;rw[hP'] at h⊢
 split at h
 ·cases h
 rename_i h4;have h4':=not_or.1 h4;have h5':=not_or.1 h4'.2;exact .inr (.inr ⟨h1',h2',Decidable.not_not.1 h3'.1,Decidable.not_not.1 h3'.2,by simpa using h4'.1,by simpa using h5'.1,Decidable.not_not.1 h5'.2,h⟩)
theorem Kd{f:Nat}(h:JP M me x f k U p q=true)(hk: ¬(f≠0∧k<x.length)):k=x.length:=by
 cases f with
 |zero=>unfold JP at h;exact of_decide_eq_true h
 |succ f=>
  unfold JP at h;rw[if_pos (by omega)] at h;exact of_decide_eq_true h
theorem Vp:Yd e=true↔8≤e.kind∧e.kind≤13:=by unfold Yd;exact decide_eq_true_iff
theorem Ke{U:Wo}{w:Nat}{d:Int}(h:Yd (U.step M w d).2=true):(U.step M w d).2.Di=w:=by
 unfold Mo.Wo.step at h⊢
 split
 ·rename_i hk;rw[if_pos hk] at h;have h:Yd BH=true:=h;exact absurd h (by decide)
 rfl
theorem sD{p:Pr}:(p.P8 a).at_.length=p.at_.length∧(p.P8 a).g=p.g∧(p.P8 a).ok=p.ok:=⟨List.length_set ..,rfl,rfl⟩
end
end Iv
theorem xR{p:Nat}(h4:W.Ai.length≤4∧W.Ak.length≤4)(hw:Di<0):Cv C 8 [AX p,.agg #[.int .i64 Di,.int .i64 dr]] l (JZ C p W) (.agg BH.cells.toArray) l (JZ C p W):=by
 refine Ci 39 Tryz.func8 Z BF fun w0 D0=>AZ 2 [3] Z<|F7 Z CE fun b0=>Hg Z Ih CE fun b1=>AY 3 [] Z<|Ey 10 0 0 (by kernel_rfl)<|AP 2 [1] Z<|Du (c:=true) Z (decide_eq_true hw)<|AP 11 [2] Z<|Fp Z LW Ih Z<|AY 2 [] Z<|T.Io Z Z Xq .z Z fun W2 D h=>?_
 obtain⟨D1,h1,h2⟩:=(Wk.tail.trans Wk.tail) D W2 h;exact⟨D1,⟨rfl,rfl,h1⟩,h2⟩
theorem xU{p:Nat}(h4:W.Ai.length≤4∧W.Ak.length≤4)(h0: ¬Di<0)(hw:Di≥((W.FX:Nat):Int)):Cv C 8 [AX p,.agg #[.int .i64 Di,.int .i64 dr]] l (JZ C p W) (.agg BH.cells.toArray) l (JZ C p W):=by
 refine Ci 39 Tryz.func8 Z BF fun w0 D0=>AZ 2 [3] Z<|F7 Z CE fun b0=>Hg Z Ih CE fun b1=>AY 3 [] Z<|Ey 10 0 0 (by kernel_rfl)<|AP 2 [1] Z<|Du (c:=false) Z (decide_eq_false h0)<|AP 4 [1] Z<|CB Z g9 (Ue h4) BF<|Du (c:=true) Z (decide_eq_true hw)<|AP 5 [2] Z<|Fp Z LW Ih Z<|AY 2 [] Z<|T.Io Z Z Xq .z Z fun W2 D h=>?_
 obtain⟨D1,h1,h2⟩:=(Wk.tail.trans Wk.tail) D W2 h;exact⟨D1,⟨rfl,rfl,h1⟩,h2⟩
theorem xW{p:Nat}(hM:C.M.Ok)(hp:0≤C.M.parts∧C.M.parts≤100000)(hW:W.Ok C.M)(hl4:W.Ai.length≤4∧W.Ak.length≤4)(hll:W.Bl.length<900000):
  Cv C 8 [AX p,.agg #[.int .i64 Di,.int .i64 dr]] W.l (JZ C p W) (.agg (Iv.Wo.Fv C.M W Di dr).2.cells.toArray) (Iv.Wo.Fv C.M W Di dr).1.l (JZ C p (Iv.Wo.Fv C.M W Di dr).1):=by
 unfold Iv.Wo.Fv;by_cases h0:Di<0
 ·rw[if_neg (by omega)];exact xR hl4 h0
 by_cases h1:Di≥((W.FX:Nat):Int)
 ·rw[if_neg (by omega)];exact xU hl4 h0 h1
 rw[if_pos (by omega)];obtain⟨k,rfl⟩: ∃k:Nat,Di=(k:Int):=⟨Di.toNat,by omega⟩;rw[Int.toNat_natCast];exact WA (by omega) hM hp hW hl4 hll
namespace Mp
theorem Kf{A:List Bk}{P:BB}:Az (A++B) P=BG (Az A P) (Az B Cj):=by
 rw[J5,EK,D9 P,EK,Gl]
theorem Av{a:mZ}(h:a.Ok nb):Ce (α:=Mo.Cx×Nat) C 7 [.agg a.c.cells.toArray,Dc a.pb a.Ir.length a.pc] l a.R (fun x=> .tuple #[AX x.2,.int .i64 0]) l (fun x=>x.1.M=a.c.map) (fun x=>BG (wrap x.1 a.c.map.first (JZ x.1 x.2 (Wo.new a.c.map a.IV))) a.R):=by
 have h1:=qY (C:=C) (l:=l) (c:=a.c) (IV:=a.IV) (Ir:=a.Ir) (LJ:=a.LJ) (pb:=a.pb) (pc:=a.pc) h.ok h.len.1 h.len.2 h.Aq;have hK:CV (Az a.KB Cj):=Ac Aa _;have h2:=Ce.FD h1 hK;have e:a.R=BG (Az [⟨a.pb,66,a.Ir++a.LJ⟩] (IW a.Ir a.IV)) (Az a.KB Cj):=Kf (A:=[_]);have e2: ∀X:BB,BG (Az [⟨a.pb,66,a.Ir++a.LJ⟩] (BG X (IW a.Ir a.IV))) (Az a.KB Cj)=BG X (BG (Az [⟨a.pb,66,a.Ir++a.LJ⟩] (IW a.Ir a.IV)) (Az a.KB Cj)):=fun X=>by
  rw[D9 X (IW _ _),←EK,D9 _ X,CO]
 rw[←h.len.2] at h2;rw[e];simp only[e2] at h2;exact h2
section
variable{R:BB}{r:List Code}{Q:Value→Dk→BB}{a off k u v:Nat}{cs:List Value}
theorem TE.Vh(hr:fn.results= #[.cell a t,.tmp u,.tmp v])(ha:oC e a=some (.pointer (some ⟨b,off,none⟩)))(h1:Bq t k=true)(hi:In b cs H)(hn:(OQ cs off k).length=k)(hq: ∀w D,Az H R D w→ ∃D',Q (.tuple #[.agg (OQ cs off k).toArray,lk e u,lk e v]) l D' w∧ ∀k,D' k→D k):TE (bodyPost Tryz.prog fn (Tj C w0 D0 Q)) n .ret (Sy C w0 D0 l H R) e:=
 fun w a' hS hF=>⟨hF.defers,_,YP hr (by rw[hF.at_ a];exact Tv ha) (Na hS h1 hi hn),by rw[hF.at_ u,hF.at_ v];exact hS.QQ (hq w)⟩
end
abbrev My:=Option (mZ×Mo.Cx×Nat)
def mz:My→List Value
 |none=>[.int .i64 0,.int .i64 0,.int .i64 0,.int .i64 0,.int .i64 0,.int .i64 0,.int .i64 0,.int .i64 0,.int .i64 0,.int .i64 0,.int .i64 0,.int .i64 0,.slice none 0 0,.slice none 0 0]
 |some x=>x.1.c.cells++[Dc x.1.pb x.1.Ir.length x.1.pc,x.1.kv]
def bgW:My→Value
 |none=> .pointer none
 |some x=>AX x.2.2
def bgO:My→Bool
 |none=>false
 |some _=>true
def bgV(A:My):Value:= .tuple #[.agg (mz A).toArray,bgW A,.bool (bgO A)]
def bgP(nb:Nat):My→Prop
 |none=>True
 |some x=>x.1.Ok nb∧x.2.1.M=x.1.c.map∧nb≤2500
def bgR:My→BB
 |none=>Cj
 |some x=>BG (wrap x.2.1 x.1.c.map.first (JZ x.2.1 x.2.2 (Wo.new x.1.c.map x.1.IV))) x.1.R
theorem gU{a:Int}(w:World)(h:0≤a∧a≤255):(binOp .rem t (.int .u8 a) (.int .u8 13)).run Tryz.prog w= .ok (.int .u8 (a.tmod 13)) w:=by
 have ht:=WO (z:=a) (n:=13) h.1 (by decide);have hw:IntKind.u8.wrap (a.tmod 13)=a.tmod 13:=by
  show IntKind.wrap .u8 _=_;unfold IntKind.wrap;simp[IntKind.signed,IntKind.bits];omega
 simp[binOp,go_sem,hw]
structure pQ where
 k:Nat
 n:Int
structure pQ.Ok (nb:Nat) (x:pQ):Prop where
 le:x.k≤5∧x.k≤nb
 n:0≤x.n∧x.n≤12*x.k
end Mp
theorem g15:Cm 15=true:=by kernel_rfl
theorem g39:Cm 39=true:=by kernel_rfl
theorem l49:Jv 49 [(0,12),(12,1),(13,1)]=true:=by kernel_rfl
namespace Mp
theorem mZ.Vq(a:mZ):CV a.R:=Ac Hw _
theorem ZN{a:mZ}(h:a.Ok nb):Ce (α:=Mo.Cx×Nat) C 15 [a.val] l a.R (fun x=> .tuple #[AX x.2,.int .i64 0]) l (fun x=>x.1.M=a.c.map) (fun x=>BG (wrap x.1 a.c.map.first (JZ x.1 x.2 (Wo.new a.c.map a.IV))) a.R):=by
 refine Ci 11 Tryz.func15 Z a.Vq fun w0 D0=>AZ 2 [1] Z<|F7 Z CE fun b0=>AP 6 [16] Z<|KW (vs:=a.c.cells) Z Z Z Z Z u7 .z<|AP 2 [] Z<|kW Z Z Z Z g7 (Av h) (fun _=>Ag (Bo BF) a.Vq) JH fun x hx=>AY 5 [] Z<|T.YJ Z fun W D h=>?_
 obtain⟨D1,h1,h2⟩:=A8 h;exact⟨D1,⟨x,rfl,hx,rfl,h1⟩,h2⟩
theorem Kg{ad:Option Addr}(hv:BV ad nb v nb):Cb (α:=My) C 14 [v,.int .i64 2500] ad nb l Cj bgV (bgP nb) bgR:=by
 obtain⟨p00,c00,rfl⟩:=hv.len;refine Cb.of (vs:=[.slice p00 nb c00,.int .i64 2500]) Tryz.func14 rfl Tryz.ntmps14 (by simp) Aa ?_;intro w0 D0 hB;refine AZ 2 [1] Z<|Hg Z tQ CE fun b0=>AP 5 [6] Z<|Fp Z l49 tQ Z<|Hg Z tQ CE fun b1=>AY 4 [] Z ?_
 rcases Nat.lt_or_ge 2500 nb with hnb|hnb
 ·skip;refine AZ 4 [] Z<|Du (c:=true) Z (decide_eq_true (show((nb:Nat):Int)>2500 by omega))<|AY 9 [2,0,1] Z<|T.Vh Z Z kY (.s .z) Z fun W D h=>?_
  obtain⟨D1,h1,h2⟩:=(Wk.tail.trans Wk.tail) D W h;exact⟨D1,⟨none,rfl,trivial,rfl,h1⟩,h2⟩
 skip;refine AZ 4 [] Z<|Du (c:=false) Z (decide_eq_false (show¬((nb:Nat):Int)>2500 by omega))<|AY 12 [] Z<|T.block<|T.loop (fun(x:pQ) w=>x.Ok nb∧Sy C w0 D0 l [⟨b1,49,[.int .i64 0,.int .i64 0,.int .i64 0,.int .i64 0,.int .i64 0,.int .i64 0,.int .i64 0,.int .i64 0,.int .i64 0,.int .i64 0,.int .i64 0,.int .i64 0,.slice none 0 0,.slice none 0 0]⟩,⟨b0,49,[.int .i64 0,.int .i64 0,.int .i64 0,.int .i64 0,.int .i64 0,.int .i64 0,.int .i64 0,.int .i64 0,.int .i64 0,.int .i64 0,.int .i64 0,.int .i64 0,.slice none 0 0,.slice none 0 0]⟩] Cj w) (fun x=>[(9,.int .i64 ((x.k:Nat):Int)),(8,.int .i64 x.n),(0,.slice p00 nb c00),(7,AX b1),(4,AX b0)]) (fun x=>5-x.k) ⟨0,0⟩ (fun w h=>⟨⟨⟨Nat.zero_le _,Nat.zero_le _⟩,by decide⟩,h⟩) ⟨Z,Z,Z,Z,Z,trivial⟩ ?_;rintro⟨k,n⟩ g;refine T.pure ?_;intro hx;have hk:=hx.le;have hn:=hx.n;simp only at hk hn;refine CW 2 [] Z ?_;rcases(show(k<5∧k<nb)∨(k<5∧ ¬k<nb)∨ ¬k<5 by omega) with⟨hk5,hkn⟩|⟨hk5,hkn⟩|hk5
 ·obtain⟨a,kk,ha,rfl,hmc,BE⟩:=hv.some (by omega);obtain⟨-,-,hby⟩:=hB.at_ a ha;obtain⟨z,hz,hz1⟩:=hby k hkn;have ht:=WO (z:=z) (n:=13) hz1.1 (by decide);refine AZ 2 [] Z<|Du (c:=true) Z (decide_eq_true (show((k:Nat):Int)<5 by omega))<|AP 4 [] Z<|Du (c:=true) Z (decide_eq_true (show((k:Nat):Int)<((nb:Nat):Int) by omega))<|Hz Z<|AY 4 [] Z<|T.block<|AZ 5 [] Z<|J1 Z Z Z Z oT ⟨Int.natCast_nonneg _,Int.ofNat_lt.2 hkn⟩<|J2 (j:=k) hB ha (show(a.add kk).add (((k:Nat):Int).toNat*1)=a.add k by rw[MI];congr 1;omega) hz Z Z Z o5<|Le Z Pg (fun w=>gU w hz1)<|AY 2 [] Z<|T.cond Z ?_ ?_
  ·intro hb2;refine CW 7 [2,0,1] Z<|T.J8<|TE.CJ<|TE.TU<|TE.CJ<|TE.Vh rfl rfl kY (.s .z) rfl fun W D h=>?_
   obtain⟨D1,h1,h2⟩:=(Wk.tail.trans Wk.tail) D W h;exact⟨D1,⟨none,rfl,trivial,rfl,h1⟩,h2⟩
  intro hb2;refine AZ 5 [] Z<|J1 Z Z Z Z oT ⟨Int.natCast_nonneg _,Int.ofNat_lt.2 hkn⟩<|J2 (j:=k) hB ha (show(a.add kk).add (((k:Nat):Int).toNat*1)=a.add k by rw[MI];congr 1;omega) hz Z Z Z o5<|Le Z Pg (fun w=>gU w hz1)<|Ic Z DY Jz (IntWalk.i64_in (z.tmod 13) (by omega))<|BU (c:=(n+z.tmod 13)) Z (by simp only[FC];exact IntWalk.i64_in _ (by omega))<|AY 2 [] Z<|T.Bj<|AZ 2 [] Z<|BU (c:=((k+1:Nat):Int)) Z (by simp only[FC];rw[IntWalk.i64_in _ (by omega)];omega)<|AY 2 [] Z ?_;exact T.FT ⟨k+1,n+z.tmod 13⟩ (by show 5-(k+1)<5-k;omega) (fun w h=>⟨⟨⟨by show k+1≤5;omega,by show k+1≤nb;omega⟩,by show 0≤n+z.tmod 13∧n+z.tmod 13≤12*((k+1:Nat):Int);omega⟩,h⟩) ⟨rfl,rfl,rfl,rfl,rfl,trivial⟩
 ·skip;refine AZ 2 [] Z<|Du (c:=true) Z (decide_eq_true (show((k:Nat):Int)<5 by omega))<|AP 4 [] Z<|Du (c:=false) Z (decide_eq_false (show¬((k:Nat):Int)<((nb:Nat):Int) by omega))<|Hz Z<|AY 2 [] Z<|T.exit<|TE.FQ<|TE.DC<|CW 6 [] Z<|T.cond Z ?_ ?_
  ·intro hb2;refine CW 7 [2,0,1] Z<|T.Vh Z Z kY (.s .z) Z fun W D h=>?_
   obtain⟨D1,h1,h2⟩:=(Wk.tail.trans Wk.tail) D W h;exact⟨D1,⟨none,rfl,trivial,rfl,h1⟩,h2⟩
  intro hb2;refine AZ 4 [6] Z<|o1 hB Z Z Z Z g39 (gQ hv (Nat.le_trans hnb (by decide))) (fun a=>a.Vq) JH fun A hA=>H9 (vs:=A.c.cells++[Dc A.pb A.Ir.length A.pc,A.kv]) Z kY Z (gK Z (Ht.TG hA.sl)) .z (Nat.le_of_ble_eq_true Z) .z Aw<|AP 3 [2] Z<|KW (vs:=A.c.cells++[Dc A.pb A.Ir.length A.pc,A.kv]) Z Z Z Z Z kY .z<|kW Z Z Z Z g15 (ZN hA) (fun _=>Ag (Bo BF) A.Vq) JH fun x hx=>AP 8 [16] Z<|KW (vs:=A.c.cells++[Dc A.pb A.Ir.length A.pc,A.kv]) Z Z Z Z Z kY .z<|AP 3 [] Z<|H9 (vs:=A.c.cells++[Dc A.pb A.Ir.length A.pc,A.kv]) Z kY Z (gK Z (Ht.TG hA.sl)) (.s .z) (Nat.le_of_ble_eq_true Z) (.s .z) Aw<|AY 3 [] Z<|T.Vh Z Z kY (.s .z) Z fun W D h=>?_
  obtain⟨D1,h1,h2⟩:=(Wk.tail.trans Wk.tail) D W h;exact⟨D1,⟨some (A,x.1,x.2),rfl,⟨hA,hx,hnb⟩,rfl,h1⟩,h2⟩
 skip;refine AZ 2 [] Z<|Du (c:=false) Z (decide_eq_false (show¬((k:Nat):Int)<5 by omega))<|AP 5 [] Z<|Hz Z<|AY 2 [] Z<|T.exit<|TE.FQ<|TE.DC<|CW 6 [] Z<|T.cond Z ?_ ?_
 ·intro hb2;refine CW 7 [2,0,1] Z<|T.Vh Z Z kY (.s .z) Z fun W D h=>?_
  obtain⟨D1,h1,h2⟩:=(Wk.tail.trans Wk.tail) D W h;exact⟨D1,⟨none,rfl,trivial,rfl,h1⟩,h2⟩
 intro hb2;refine AZ 4 [6] Z<|o1 hB Z Z Z Z g39 (gQ hv (Nat.le_trans hnb (by decide))) (fun a=>a.Vq) JH fun A hA=>H9 (vs:=A.c.cells++[Dc A.pb A.Ir.length A.pc,A.kv]) Z kY Z (gK Z (Ht.TG hA.sl)) .z (Nat.le_of_ble_eq_true Z) .z Aw<|AP 3 [2] Z<|KW (vs:=A.c.cells++[Dc A.pb A.Ir.length A.pc,A.kv]) Z Z Z Z Z kY .z<|kW Z Z Z Z g15 (ZN hA) (fun _=>Ag (Bo BF) A.Vq) JH fun x hx=>AP 8 [16] Z<|KW (vs:=A.c.cells++[Dc A.pb A.Ir.length A.pc,A.kv]) Z Z Z Z Z kY .z<|AP 3 [] Z<|H9 (vs:=A.c.cells++[Dc A.pb A.Ir.length A.pc,A.kv]) Z kY Z (gK Z (Ht.TG hA.sl)) (.s .z) (Nat.le_of_ble_eq_true Z) (.s .z) Aw<|AY 3 [] Z<|T.Vh Z Z kY (.s .z) Z fun W D h=>?_
 obtain⟨D1,h1,h2⟩:=(Wk.tail.trans Wk.tail) D W h;exact⟨D1,⟨some (A,x.1,x.2),rfl,⟨hA,hx,hnb⟩,rfl,h1⟩,h2⟩
open Iv
theorem Wo.Go.Fv{k:Nat}(h:W.Go M A k)(hM:M.Ok)(Di dr:Int):(Wo.Fv M W Di dr).1.Go M A (k+1):=by
 unfold Wo.Fv;split
 ·exact h.step hM _ _
 exact h.mono (Nat.le_succ k)
theorem bE: ∀{ks:List (Int×Int)} {rest:List Value} {i:Nat},i<ks.length→OQ (mY ks++rest) (0+((i:Nat):Int).toNat*2) 2=[.int .i64 (ks.getD i (0,0)).1,.int .i64 (ks.getD i (0,0)).2]
 |[],_,_,h=>by simp at h
 |a::ks,rest,0,_=>rfl
 |a::ks,rest,i+1,h=>by
  have:=bE (ks:=ks) (rest:=rest) (i:=i) (by simpa using h);have e:0+((i+1:Nat):Int).toNat*2=(0+((i:Nat):Int).toNat*2)+2:=by omega
  rw[e];exact this
theorem Kh: ∀{xs:List Ev} {rest:List Value} {i:Nat},i<xs.length→OQ (PY xs++rest) (0+((i:Nat):Int).toNat*5) 5=(xs.getD i BH).cells
 |[],_,_,h=>by simp at h
 |a::xs,rest,0,_=>rfl
 |a::xs,rest,i+1,h=>by
  have:=Kh (xs:=xs) (rest:=rest) (i:=i) (by simpa using h);have e:0+((i+1:Nat):Int).toNat*5=(0+((i:Nat):Int).toNat*5)+5:=by omega
  rw[e];exact this
theorem Vr(h:i<ks.length):ks.take (i+1)=ks.take i++[ks.getD i (0,0)]:=by
 rw[List.take_add_one,List.getElem?_eq_getElem h,List.getD_eq_getElem?_getD,List.getElem?_eq_getElem h];rfl
theorem Ki: ∀{A:My},bgP nb A→(mz A).length=14∧(mz A).all BL=true
 |none,_=>⟨rfl,rfl⟩
 |some x,h=>⟨rfl,gK rfl (Ht.TG h.1.sl)⟩
theorem S7: ∀{A:My},CV (bgR A)
 |none=>Aa
 |some x=>Ag (Bo BF) x.1.Vq
theorem Kj(A:My):A=none∨(∃x,A=some x∧x.1.c.Ak≠1)∨ ∃x,A=some x∧x.1.c.Ak=1:=by
 cases A with
 |none=>exact .inl rfl
 |some x=>
  by_cases h:x.1.c.Ak=1
  ·exact .inr (.inr ⟨x,rfl,h⟩)
  exact .inr (.inl ⟨x,rfl,h⟩)
theorem Ce.frE{α:Type}{v:α→Value}{P:α→Prop}{R':α→BB}(h:Ce C f args l Cj v l' P R')(hF:CV F):Ce C f args l F v l' P (fun a=>BG (R' a) F):=by
 have:=Ce.FD h hF;rw[Gl] at this;exact this
theorem Kk{l0:Dk}{K:Mo.Cx}{p:Nat}{k:Nat}(hK:K.M=M)(hM:M.Ok)(hp:0≤M.parts∧M.parts≤100000)(hG:W.Go M A k)(hk:k<900000):
  Cv C0 8 [AX p,.agg #[.int .i64 Di,.int .i64 dr]] l0 (wrap K W.l (JZ K p W)) (.agg (Wo.Fv M W Di dr).2.cells.toArray) l0 (wrap K (Wo.Fv M W Di dr).1.l (JZ K p (Wo.Fv M W Di dr).1)):=by
 subst hK;exact Zy (xW hM hp hG.ok hG.Φ (by have:=hG.Bl;omega))
theorem S8{p:Pr}: ∀D w,BG (PR rv nv av p) F D w→ ∃a:Nat×Nat×List Value,(av=Dc a.1 p.at_.length a.2.1∧p.at_.length≤a.2.1∧a.2.1≤maxLen∧p.at_.length+a.2.2.length=a.2.1)∧Az [⟨a.1,3,Dl p.at_++a.2.2⟩] (BG (GR rv nv p.g) F) D w:=fun D w ⟨D1,D2,⟨a,ha,h1⟩,h2,h3,h4⟩=>by
 refine⟨a,ha,?_⟩;rw[←EK];exact⟨D1,D2,h1,h2,h3,h4⟩
theorem Kl{p:Pr}{ab am:Nat}(h:p.at_.length≤am∧am≤maxLen∧p.at_.length+GI.length=am): ∀D w,Az [⟨ab,3,Dl p.at_++GI⟩] (BG (GR rv nv p.g) F) D w→BG (PR rv nv (Dc ab p.at_.length am) p) F D w:=fun D w hb=>by
 rw[←EK] at hb;obtain⟨D1,D2,h1,h2,h3,h4⟩:=hb;exact⟨D1,D2,⟨(ab,am,GI),⟨rfl,h.1,h.2.1,h.2.2⟩,h1⟩,h2,h3,h4⟩
def nC(rb:Nat)(r0:Value)(RB:List Bk)(rv nv av:Value)(p:Pr):BB:=fun D w=>PR rv nv av p D w∧(∃FU,(⟨rb,41,[r0]++FU⟩:Bk).is w∧D rb)∧ ∀x∈RB,x.is w∧D x.b
theorem SS{p:Pr}:CV (nC rb r0 RB rv nv av p):=fun D w w' ⟨h1,⟨rr,h2,h3⟩,h4⟩ hk=>
 ⟨DT D w w' h1 hk,⟨rr,(hk rb h3).trans h2,h3⟩,fun x hx=>⟨(hk x.b (h4 x hx).2).trans (h4 x hx).1,(h4 x hx).2⟩⟩
structure Ta where
 rb:Nat
 rm:Nat
 r0:Value
 RB:List Bk
 r:List Int
structure Ta.Ok (y:Ta) (rv:Value) (p:Pr):Prop where
 rv:rv=Dc y.rb 1 y.rm
 rt:p.g.Af=[y.r]
 sl:Ht 3 1 y.r0 y.r.length (Dl y.r) y.RB
theorem fz{p:Pr}: ∀D w,PR rv nv av p D w→ ∃y:Ta,y.Ok rv p∧nC y.rb y.r0 y.RB rv nv av p D w:=fun D w h=>by
 have h0:=h;obtain⟨a,-,g1,D1,⟨⟨ga,r⟩,hg,hb⟩,g3,g4⟩:=h;have hin: ∀k,D1 k→D k:=fun k hk=>(g4 k).2 (.inr hk)
 refine⟨⟨ga.rb,ga.rm,ga.r0,ga.RB,r⟩,⟨hg.rv,hg.Af,hg.r0⟩,h0,⟨ga.FU,?_⟩,fun x hx=>?_⟩
 ·have:=F6 hb (List.mem_cons_self ..);exact⟨this.1,hin _ this.2⟩
 have:=F6 hb (x:=x) (by simp[hx]);exact⟨this.1,hin _ this.2⟩
section
variable{R:BB}
variable{lo:Nat→Bool}{d:Option Nat}{gd:Option (Nat×Bool)}{x:Operand}
theorem Sy.inR(h:Sy C w0 D0 l H R w): ∃D,R D w:=by
 obtain⟨D,h1,-⟩:=h.NK;obtain⟨D1,g1,-⟩:=MF h1;exact⟨D1,g1⟩
theorem xX{off:Nat}(hR: ∀D w,R D w→w.cell? ⟨b,off,none⟩=some v)(ho:Aq[i]?=some ⟨d,.load t x,ty,ps,af,gd⟩)(Dy:(ef i,BA Aq ⟨d,.load t x,ty,ps,af,gd⟩ e)=(false,true))(hx:EF e x=some (.pointer (some ⟨b,off,none⟩)))(h1:one t=true)
  (h:X Tryz.prog Aq lo ef K rr (Sy C w0 D0 l H R) (bif lo i then(i,v)::U else U) (Dz d v e)):X Tryz.prog Aq lo ef K (i::rr) (Sy C w0 D0 l H R) U e:=have⟨hef,hw⟩:=Fb Dy;
 FB ho hef hw (fun w hS=>N8 (m:=Instr.loadAt t (ev e x)) rfl (by
  obtain⟨D,hD⟩:=hS.inR
  rw[CY hx]
  exact GM h1 (hR D w hD))) h
end
theorem jo{x:Bk}{o:Nat}(h:x.is w)(hv:Qb x.cs o=some v):w.cell? ⟨x.b,o,none⟩=some v:=by
 unfold Bk.is at h;rw[FO] at hv;simp[World.cell?,h,hv]
section
variable{Qe Lc PQ:Value}{p q:Pr}{y z:Ta}
theorem Tb(h:BG (nC rb r0 RB rv nv av p) F D w):w.cell? ⟨rb,0+(0:Int).toNat*1,none⟩=some r0:=by
 obtain⟨D1,D2,⟨-,⟨rr,h1,-⟩,-⟩,-,-,-⟩:=h;exact jo h1 rfl
theorem gc{G:BB}(h:BG G (BG (nC rb r0 RB rv nv av p) F) D w):w.cell? ⟨rb,0+(0:Int).toNat*1,none⟩=some r0:=by
 obtain⟨D1,D2,-,h2,-,-⟩:=h;exact Tb h2
theorem bL{ib:Nat}{r:List Int}(hj:j<r.length)(h:BG (nC rb r0 [⟨ib,3,Dl r++QI⟩] rv nv av p) F D w):w.cell? ⟨ib,0+((j:Nat):Int).toNat*1,none⟩=some (.int .i64 (r.getD j 0)):=by
 obtain⟨D1,D2,⟨-,-,h1⟩,-,-,-⟩:=h;exact jo (h1 _ (List.mem_singleton.2 rfl)).1 (EL hj)
theorem gf{G:BB}{ib:Nat}{r:List Int}(hj:j<r.length)(h:BG G (BG (nC rb r0 [⟨ib,3,Dl r++QI⟩] rv nv av p) F) D w):w.cell? ⟨ib,0+((j:Nat):Int).toNat*1,none⟩=some (.int .i64 (r.getD j 0)):=by
 obtain⟨D1,D2,-,h2,-,-⟩:=h;exact bL hj h2
theorem gg: ∀D w,BG (PR rv nv av p) (BG (PR Qe Lc PQ q) F) D w→ ∃yz:Ta×Ta,(yz.1.Ok rv p∧yz.2.Ok Qe q)∧BG (nC yz.1.rb yz.1.r0 yz.1.RB rv nv av p) (BG (nC yz.2.rb yz.2.r0 yz.2.RB Qe Lc PQ q) F) D w:=fun D w ⟨D1,D2,h1,⟨E1,E2,h2,h3,k1,k2⟩,h4,h5⟩=>by
 obtain⟨y,hy,hx⟩:=fz _ _ h1;obtain⟨z,hz,hx2⟩:=fz _ _ h2;exact⟨(y,z),⟨hy,hz⟩,D1,D2,hx,⟨E1,E2,hx2,h3,k1,k2⟩,h4,h5⟩
theorem gh:Wk (BG (nC y.rb y.r0 y.RB rv nv av p) (BG (nC z.rb z.r0 z.RB Qe Lc PQ q) F)) (BG (PR rv nv av p) (BG (PR Qe Lc PQ q) F)):=Wk.of fun D w ⟨D1,D2,h1,⟨E1,E2,h2,h3,k1,k2⟩,h4,h5⟩=>⟨D1,D2,h1.1,⟨E1,E2,h2.1,h3,k1,k2⟩,h4,h5⟩
end
theorem Km{A B E:BB}:BG A (BG B E)=BG E (BG A B):=by rw[←CO,D9]
theorem Kp{g:Gr}{r:List Int}(h:g.Af=[r]):g.rs 0=r:=(Gr.XS h).1
theorem Te{p:Pr}{a:Int}(h:1≤p.at_.length):p.P6 a<p.at_.length:=by unfold Pr.P6;omega
theorem pS{A B E:BB}:BG A (BG B E)=BG B (BG A E):=by rw[←CO,D9 A,CO]
theorem pT{x y:Bk}{KB:List Bk}{A B P:BB}:Wk (Az [x] (BG (BG A (Az (y::KB) P)) B)) (Az (x::KB) (BG B A)):=by
 have h1:Wk (BG (BG A (Az (y::KB) P)) B) (BG (BG B A) (Az KB Cj)):=by
  rw[D9 _ B,←CO];exact Wk.BG (Wk.refl _) (Wk.tail.trans (Wk.Az (Wk.Cj P) KB))
 have e:BG (BG B A) (Az KB Cj)=Az KB (BG B A):=by rw[D9,EK,Gl]
 rw[e] at h1;exact Wk.Az h1 [x]
theorem pZ{b14 b13 sb:Bk}{KB XB:List Bk}{P Q A B:BB}:Wk (Az (b14::b13::sb::(KB++XB)) (BG Q (BG P (BG A B)))) (Az (b13::b14::XB) (BG P (BG Q B))):=by
 have h1:Wk (BG Q (BG P (BG A B))) (BG P (BG Q B)):=by
  rw[pS];exact Wk.BG (Wk.refl _) (Wk.BG (Wk.refl _) Wk.right)
 exact(Jy ⟨b14::b13::XB,List.Perm.swap _ _ _,.cons_cons _ (.cons_cons _ (.cons _ (List.sublist_append_right _ _)))⟩).trans (Wk.Az h1 _)
def Vs(c:Fj)(xs:List Ev)(A:Nat)(i k:Nat)(U:Wo)(p q:Pr)(rv nv av Qe Lc PQ:Value):Prop:=
 i≤4000∧k≤xs.length∧JP c.map c.Ai xs (4000-i) k U p q=true∧WG p.g (i+1)∧WG q.g (i+1)∧(p.ok=true∧q.ok=true)∧(1≤p.at_.length∧p.at_.length≤1000000)∧(1≤q.at_.length∧q.at_.length≤1000000)∧p.g.D5=c.Af∧q.g.D5=c.Af∧MH (rv,nv,av)∧MH (Qe,Lc,PQ)∧U.Go c.map A i
theorem sF{p:Pr}{me mo:Int}{e:Ev}(hmo:p.g.D5=mo)(kS:BL rv=true)(VK:BL nv=true)(hg:WG p.g n)(hn:n≤100000)(hat:p.at_.length≤1000000)(hok:p.ok=true)(he:8≤e.kind∧e.kind≤13)(hw:e.Di=me)(hto:(p.take me e).ok=true):Ce (α:=Value×Value×Value) C 18 [.agg #[rv,nv,.int .i64 mo,av,.bool true],.int .i64 me,.agg e.cells.toArray] l (PR rv nv av p) (fun u=> .agg #[u.1,u.2.1,.int .i64 mo,u.2.2,.bool true]) l MH (fun u=>PR u.1 u.2.1 u.2.2 (p.take me e)):=by
 subst hmo;exact SR kS VK hg hn hat hok he hw hto
theorem kZ(h:c.Ok):WG (WM c).g 1∧(1≤(WM c).at_.length∧(WM c).at_.length≤1000000):=by
 have hr:=h.Af;have hn:=h.nodes;have h1:=I7 h (v:=c.nodes) ⟨by omega,by omega⟩;refine⟨⟨⟨[1],rfl,by show((1:Nat):Int)≤c.Af;omega,fun v hv=>by rw[List.mem_singleton.1 hv];exact⟨by omega,by first|exact Int.le_refl 1|exact Int.natCast_nonneg _|omega⟩⟩,by show c.Af≤64;omega,fun l hl=>?_,⟨Nat.le_refl 1,Nat.le_refl 1⟩⟩,?_⟩
 ·have hl:l=List.replicate (c.map.CU c.nodes).toNat 0:=List.mem_singleton.1 hl;rw[hl];refine⟨by rw[List.length_replicate];omega,fun v hv=>?_⟩;rw[(List.mem_replicate.1 hv).2];exact⟨Int.le_refl 0,by first|exact Int.natCast_nonneg _|exact Int.le_refl 0|omega⟩
 show 1≤(List.set _ _ _).length∧(List.set _ _ _).length≤1000000;rw[List.length_set,List.length_replicate];omega
theorem Ks{me:Int}{xs:List Ev}{k:Nat}{U:Wo}{p q:Pr}(hs:JP M me xs (4000-i) k U p q=true)(hi:i≤4000)(hk:k≤xs.length):
  (¬i<4000∧k=xs.length)∨(i<4000∧ ¬k<xs.length∧k=xs.length)∨(i<4000∧k<xs.length∧ ∃U' E,(U.step M me.toNat 0).1=U'∧(U.step M me.toNat 0).2=E∧
   ((E.kind<8∧JP M me xs (4000-(i+1)) k U' p q=true)∨(¬E.kind<8∧E.kind>13∧JP M me xs (4000-(i+1)) k U' p q=true)∨((8≤E.kind∧E.kind≤13)∧QK (xs.getD k BH) E=true)∨
    ∃P1,(if E.kind=8 then p.P8 (xs.getD k BH).a else p)=P1∧(8≤E.kind∧E.kind≤13)∧E.Di=(me.toNat:Int)∧QK (xs.getD k BH) E=false∧E.kind=(xs.getD k BH).kind∧E.b=(xs.getD k BH).b∧(P1.take me (xs.getD k BH)).ok=true∧(q.take me E).ok=true∧(P1.take me (xs.getD k BH)).g.rs 0=(q.take me E).g.rs 0∧JP M me xs (4000-(i+1)) (k+1) U' (P1.take me (xs.getD k BH)) (q.take me E)=true)):=by
 by_cases hi4:i<4000
 ·by_cases hkl:k<xs.length
  ·refine .inr (.inr ⟨hi4,hkl,_,_,rfl,rfl,?_⟩);rw[show 4000-i=(4000-(i+1))+1 by omega] at hs;rcases S6 hs hkl with⟨h1,h2⟩|⟨h1,h2⟩|⟨h1,h2,h3,h4,h5,h6,h7,h8⟩
   ·have h1': ¬(8≤(U.step M me.toNat 0).2.kind∧(U.step M me.toNat 0).2.kind≤13):=fun h=>by rw[Vp.2 h] at h1;cases h1
    by_cases h9:(U.step M me.toNat 0).2.kind<8
    ·exact .inl ⟨h9,h2⟩
    exact .inr (.inl ⟨h9,by omega,h2⟩)
   ·exact .inr (.inr (.inl ⟨Vp.1 h1,h2⟩))
   exact .inr (.inr (.inr ⟨_,rfl,Vp.1 h1,Ke h1,h2,h3,h4,h5,h6,h7,h8⟩))
  exact .inr (.inl ⟨hi4,hkl,by omega⟩)
 refine .inl ⟨hi4,?_⟩;exact Kd hs (fun h=>h.1 (by omega))
theorem Kx{Y E:Ev}(h:QK Y E=true):(Y.kind=13∧Y.b≥22)∨(Y.kind=13∧ ¬Y.b≥22∧E.kind=13∧E.b≥22)∨(¬Y.kind=13∧E.kind=13∧E.b≥22):=by
 unfold QK at h;have h:=of_decide_eq_true h;omega
theorem Tg{Y E:Ev}(h:QK Y E=false)(hk:E.kind=Y.kind):(Y.kind=13∧ ¬Y.b≥22∧E.kind=13∧ ¬E.b≥22)∨(¬Y.kind=13∧ ¬E.kind=13):=by
 unfold QK at h;have h:=of_decide_eq_false h;omega
theorem Ye{p:Pr}{a:Int}:max (min a (((p.at_.length:Nat):Int)-1)) 0=((p.P6 a:Nat):Int):=by unfold Pr.P6;omega
theorem Tk{p:Pr}{ab am:Nat}{a:Int}(h:p.at_.length≤am∧am≤maxLen∧p.at_.length+GI.length=am): ∀D w,Az [⟨ab,3,Dl (p.at_.set (p.P6 a) 0)++GI⟩] (BG (GR rv nv p.g) F) D w→BG (PR rv nv (Dc ab p.at_.length am) (p.P8 a)) F D w:=fun D w hb=>by
 have e:(p.P8 a).at_.length=p.at_.length:=sD.1;have:=Kl (rv:=rv) (nv:=nv) (p:=p.P8 a) (F:=F) (ab:=ab) (am:=am) (GI:=GI) (by rw[e];exact h) D w hb;rw[e] at this;exact this
theorem sG{xs:List Ev}{k:Nat}(h:k<xs.length):xs.getD k BH∈xs:=by
 rw[List.getD_eq_getElem?_getD,List.getElem?_eq_getElem h];exact List.getElem_mem h
theorem KK{U:Wo}{me:Int}(h0:0≤me)(h1:me<U.FX):Wo.Fv M U me 0=U.step M me.toNat 0:=if_pos ⟨h0,h1⟩
structure TsA where
 i:Nat
 xv:Value
 XB:List Bk
 W:Wo
 E:List Ev
def XA(c:Fj)(ks:List (Int×Int))(W0:Wo)(A i:Nat)(xv:Value)(XB:List Bk)(W:Wo)(E:List Ev):Prop:=
 i≤ks.length∧Iv.At c.map (ks.take i) W0=W∧Iv.Qx c.map (ks.take i) W0=E∧Ht 33 5 xv E.length (PY E) XB∧W.Go c.map A i∧E.length≤i
theorem XA.no{W0 U:Wo}{xv:Value}{XB:List Bk}{E:List Ev}{e:Ev}(h:XA c ks W0 A i xv XB W E)(hM:c.map.Ok)(hi:i<ks.length)(hU:(Wo.Fv c.map W (ks.getD i (0,0)).1 (ks.getD i (0,0)).2).1=U)(hE:(Wo.Fv c.map W (ks.getD i (0,0)).1 (ks.getD i (0,0)).2).2=e)(hk: ¬(8≤e.kind∧e.kind≤13)):XA c ks W0 A (i+1) xv XB U E:=by
 obtain⟨h1,h2,h3,h4,h5,h6⟩:=h;refine⟨hi,?_,?_,h4,?_,by omega⟩
 ·rw[Vr hi,WR,h2];exact hU
 ·rw[Vr hi,WS,h2,h3,hE,if_neg (fun h=>hk (Vp.1 h)),List.append_nil]
 rw[←hU];exact Wo.Go.Fv h5 hM _ _
theorem XA.sY{W0 U:Wo}{xv nh:Value}{XB nj:List Bk}{E:List Ev}{e:Ev}(h:XA c ks W0 A i xv XB W E)(hM:c.map.Ok)(hi:i<ks.length)(hU:(Wo.Fv c.map W (ks.getD i (0,0)).1 (ks.getD i (0,0)).2).1=U)(hE:(Wo.Fv c.map W (ks.getD i (0,0)).1 (ks.getD i (0,0)).2).2=e)(hk:8≤e.kind∧e.kind≤13)(hv:Ht 33 5 nh (E.length+1) (PY (E++[e])) nj):XA c ks W0 A (i+1) nh nj U (E++[e]):=by
 obtain⟨h1,h2,h3,h4,h5,h6⟩:=h;refine⟨hi,?_,?_,?_,?_,?_⟩
 ·rw[Vr hi,WR,h2];exact hU
 ·rw[Vr hi,WS,h2,h3,hE,if_pos (Vp.2 hk)]
 ·rw[List.length_append];exact hv
 ·rw[←hU];exact Wo.Go.Fv h5 hM _ _
 rw[List.length_append];show E.length+1≤i+1;omega
theorem sH{l0:Dk}{K:Mo.Cx}{p:Nat}{U:Wo}{k:Nat}{e:Ev}(hK:K.M=M)(hM:M.Ok)(hp:0≤M.parts∧M.parts≤100000)(hG:W.Go M A k)(hk:k<900000)(hU:(Wo.Fv M W Di dr).1=U)(hE:(Wo.Fv M W Di dr).2=e)(hF:CV F):
  Cv C0 8 [AX p,.agg #[.int .i64 Di,.int .i64 dr]] l0 (BG (wrap K W.l (JZ K p W)) F) (.agg e.cells.toArray) l0 (BG (wrap K U.l (JZ K p U)) F):=by
 subst hU hE;exact Cv.FD (Kk hK hM hp hG hk) hF
theorem Wk.sJ{R:BB}(h:R=R'):Wk R R':=h▸Wk.refl _
theorem Tl{H0:List Bk}{p:Pr}{ab am:Nat}{a:Int}(h:p.at_.length≤am∧am≤maxLen∧p.at_.length+GI.length=am):Wk (Az (H0++[⟨ab,3,Dl (p.at_.set (p.P6 a) 0)++GI⟩]) (BG (GR rv nv p.g) F)) (Az H0 (BG (PR rv nv (Dc ab p.at_.length am) (p.P8 a)) F)):=by
 rw[J5];exact Wk.Az (Wk.of (Tk h)) _
section
variable{R:BB}{r:List Code}{Qe Lc PQ:Value}{p q:Pr}
theorem T.opn(hF:CV F)(h: ∀ab am GI,p.at_.length≤am∧am≤maxLen∧p.at_.length+List.length GI=am→av=Dc ab p.at_.length am→T Q n r (Sy C w0 D0 l (H++[⟨ab,3,Dl p.at_++GI⟩]) (BG (GR rv nv p.g) F)) e):T Q n r (Sy C w0 D0 l H (BG (PR rv nv av p) F)) e:=by
 refine T.Jc (H':=H) (R':=fun D w=> ∃a:Nat×Nat×List Value,(av=Dc a.1 p.at_.length a.2.1∧p.at_.length≤a.2.1∧a.2.1≤maxLen∧p.at_.length+a.2.2.length=a.2.1)∧Az [⟨a.1,3,Dl p.at_++a.2.2⟩] (BG (GR rv nv p.g) F) D w) (AQ fun _=>Ba (Ac (Ag C9 hF) _)) (Wk.Az (Wk.of S8) _) ?_;refine T.ex (fun _=>Ba (Ac (Ag C9 hF) _)) ?_;rintro⟨ab,am,GI⟩;refine T.and (fun _=>Ac (Ag C9 hF) _) ?_;rintro⟨h1,h2⟩;refine T.Og (Ag C9 hF) ?_;exact h ab am GI h2 h1
theorem T.aP(hF:CV F)(h: ∀y z:Ta,y.Ok rv p→z.Ok Qe q→T Q n r (Sy C w0 D0 l H (BG (nC y.rb y.r0 y.RB rv nv av p) (BG (nC z.rb z.r0 z.RB Qe Lc PQ q) F))) e):T Q n r (Sy C w0 D0 l H (BG (PR rv nv av p) (BG (PR Qe Lc PQ q) F))) e:=by
 refine T.Jc (H':=H) (R':=fun D w=> ∃yz:Ta×Ta,(yz.1.Ok rv p∧yz.2.Ok Qe q)∧BG (nC yz.1.rb yz.1.r0 yz.1.RB rv nv av p) (BG (nC yz.2.rb yz.2.r0 yz.2.RB Qe Lc PQ q) F) D w) (AQ fun _=>Ba (Ag SS (Ag SS hF))) (Wk.Az (Wk.of gg) _) ?_;refine T.ex (fun _=>Ba (Ag SS (Ag SS hF))) ?_;rintro⟨y,z⟩;refine T.and (fun _=>Ag SS (Ag SS hF)) ?_;rintro⟨h1,h2⟩;exact h y z h1 h2
end
theorem jq{b:Prop}[Decidable b]{p P:Pr}{a:Int}(h:(if b then p.P8 a else p)=P):P.at_.length=p.at_.length∧P.g=p.g∧P.ok=p.ok:=by
 subst h;split
 ·exact sD
 exact⟨rfl,rfl,rfl⟩
structure TsB where
 i:Nat
 k:Nat
 U:Wo
 p:Pr
 q:Pr
 rv:Value
 nv:Value
 av:Value
 Qe:Value
 Lc:Value
 PQ:Value
theorem Vs.no{xs:List Ev}{k:Nat}{U U':Wo}{p q:Pr}{Qe Lc PQ:Value}(h:Vs c xs A i k U p q rv nv av Qe Lc PQ)(hM:c.map.Ok)(hi:i<4000)(hU:(U.step c.map c.Ai.toNat 0).1=U')(hs:JP c.map c.Ai xs (4000-(i+1)) k U' p q=true):Vs c xs A (i+1) k U' p q rv nv av Qe Lc PQ:=by
 obtain⟨h1,h2,h3,h4,h5,h6,h7,h8,h9,h10,h11,h12,h13⟩:=h;exact⟨hi,h2,hs,h4.mono (Nat.le_succ _),h5.mono (Nat.le_succ _),h6,h7,h8,h9,h10,h11,h12,by rw[←hU];exact h13.step hM _ _⟩
theorem Vs.sY{xs:List Ev}{k:Nat}{U U':Wo}{p q P:Pr}{Qe Lc PQ:Value}{Y E:Ev}{u u':Value×Value×Value}(h:Vs c xs A i k U p q rv nv av Qe Lc PQ)(hM:c.map.Ok)(hi:i<4000)(hk:k<xs.length)(hU:(U.step c.map c.Ai.toNat 0).1=U')(hP:(if E.kind=8 then p.P8 Y.a else p)=P)(hE:8≤E.kind∧E.kind≤13)(hY:8≤Y.kind∧Y.kind≤13)(hEw:E.Di=c.Ai)(nk:Y.Di=c.Ai)(h1:(P.take c.Ai Y).ok=true)(h2:(q.take c.Ai E).ok=true)
  (hs:JP c.map c.Ai xs (4000-(i+1)) (k+1) U' (P.take c.Ai Y) (q.take c.Ai E)=true) (hu:MH u) (hu':MH u'):Vs c xs A (i+1) (k+1) U' (P.take c.Ai Y) (q.take c.Ai E) u.1 u.2.1 u.2.2 u'.1 u'.2.1 u'.2.2:=by
 obtain⟨g1,g2,g3,g4,g5,g6,g7,g8,g9,g10,mc,g12,g13⟩:=h;obtain⟨k1,k2,k3⟩:=jq hP;have ga:=WG.take (p:=P) (me:=c.Ai) (n:=i+1) (e:=Y) (by rw[k2];exact g4) (by rw[k3];exact g6.1) hY nk h1;have gb:=WG.take (p:=q) (me:=c.Ai) (n:=i+1) (e:=E) g5 g6.2 hE hEw h2;exact⟨hi,hk,hs,ga.1,gb.1,⟨h1,h2⟩,by rw[ga.2.1,k1];exact g7,by rw[gb.2.1];exact g8,by rw[ga.2.2,k2];exact g9,by rw[gb.2.2];exact g10,hu,hu',by rw[←hU];exact g13.step hM _ _⟩
theorem p5{c:Code}{Q:Value→Dk→BB}(w0:World)(hf:Tryz.prog.funcs[f]?=some fn)(hb:fn.body=some c)(hnt:fn.ntmps=n)(hn:vs.length≤n)
  (h:T (bodyPost Tryz.prog fn (Tj C w0 (fun _=>False) Q)) n [c] (Sy C w0 (fun _=>False) l [] Cj) (Bn 0 vs)):Calls Tryz.prog f vs.toArray w0 (Tj C w0 (fun _=>False) Q):=by
 subst hnt;refine calls_of_wp hf hb ?_;have:=h w0 _ ⟨⟨fun k hk=>hk.elim⟩,KE.refl _ _,⟨⟩,Aa,fun _=>False,fun _ h=>h,fun k hk=>hk.elim⟩ (Pz vs fn.ntmps hn);refine wp_mono this ?_;intro ex a' w' hq;cases ex<;>exact hq
theorem T.gi[Inhabited (List Deferred)]{c1:Code}{r:List Code}(S':World→Prop)(Kn:GZ)(h1:T (Exit.then (fun a w=>S' w∧ ∃g,IC a n (Kn++g)) Q) n [c1] S e)(h2: ∀g,T Q n r S' (Kn++g)):T Q n (c1::r) S e:=fun w a hS hF=>by
 refine wp_mono (h1 w a hS hF) ?_;intro ex a1 w1 hq;cases ex with
 |normal=>
  obtain⟨h3,g,h4⟩:=hq;exact h2 g w1 a1 h3 h4
 |exit id=>exact hq
 |goto l=>exact hq
 |ret=>exact hq
 |panic ch=>exact hq
 |outgrown=>exact hq
theorem ltc(h:i<n):TR .lss ((i:Nat):Int) (Int.ofNat n)=true:=decide_eq_true (Int.ofNat_lt.2 h)
theorem AbS(h: ¬i<n):TR .lss ((i:Nat):Int) (Int.ofNat n)=false:=decide_eq_false (fun h1=>h (Int.ofNat_lt.1 h1))
end Mp
theorem g14:Cm 14=true:=by kernel_rfl
theorem g16:Cm 16=true:=by kernel_rfl
theorem g17:Cm 17=true:=by kernel_rfl
theorem g18:Cm 18=true:=by kernel_rfl
theorem g5:Cm 5=true:=by kernel_rfl
theorem xY:Ec 47 (JU)=true:=by kernel_rfl
namespace Mp
open Iv
theorem To{l:Dk}{ad:Option Addr}(w0:World)(hv:BV ad nb v nb)(hB:By w0 (fun _=>False) ad nb)
  (hgood: ∀(c:Fj) (Aq:List I4) (ks:List (Int×Int)),c.ok=true→c.Ak=1→ks.length≤3000→JP c.map c.Ai (Qx c.map ks (Wo.new c.map [Aq])) 4000 0 (Wo.new c.map [Aq]) (WM c) (WM c)=true∧ ∀y∈Qx c.map ks (Wo.new c.map [Aq]),y.Di=c.Ai):
  Calls Tryz.prog 4 #[v] w0 (Tj C w0 (fun _=>False) (fun u _ _ _=>u= .bool true)):=by
 refine p5 (l:=l) (vs:=[v]) w0 Tryz.func4 rfl Tryz.ntmps4 (by simp) ?_;refine AZ 6 [] Z<|CB Z g5 (Cv.kH Aa Ω) Aa<|AP 13 [0,194] Z<|o1 hB Z Z Z Z g14 (Kg hv) (fun _=>S7) JH fun AA hAA=>AP 4 [] Z<|Hg Z tQ CE fun b0=>H9 (vs:=mz AA) Z kY (Ki hAA).1 (Ki hAA).2 .z (Nat.le_of_ble_eq_true Z) .z Aw<|AY 5 [] Z ?_
 rcases Kj AA with rfl|⟨x,rfl,hm1⟩|⟨⟨⟨c,IV,Ir,LJ,pb,pc,ks,kv,KB⟩,K,pw⟩,rfl,hm1⟩
 ·skip;exact CW 15 [] Z<|T.BC Z fun W D h=>⟨fun _=>False,rfl,fun _ h=>h.elim⟩
 ·skip;exact AZ 6 [] Z<|JY (v:= .int .i64 x.1.c.Ak) Z o3 .z Z<|Du (c:=true) Z (bne_iff_ne.2 hm1)<|AY 7 [] Z<|T.BC Z fun W D h=>⟨fun _=>False,rfl,fun _ h=>h.elim⟩
 skip;refine AZ 6 [] Z<|JY (v:= .int .i64 c.Ak) Z o3 .z Z<|Du (c:=false) Z (bne_eq_false_iff_eq.2 hm1)<|AY 5 [] Z ?_;obtain⟨Ax,AbU,hnb⟩:=hAA;have hKM:K.M=c.map:=AbU;have hok:c.ok=true:=Ax.ok;have hc:=Fj.Ok.of hok;have hm1:c.Ak=1:=hm1;have hmk:=hc.Ai;have bY:=Fj.VO hc;have hsl:Ht 38 2 kv ks.length (mY ks) KB:=Ax.sl;have AhK:ks.length≤2500:=Nat.le_trans Ax.ks hnb;have hnu:=(Fj.nums hc).2.1;have hp:0≤c.map.parts∧c.map.parts≤100000:=⟨hnu.1,Int.le_trans hnu.2 (by decide)⟩;obtain⟨Aq,hops⟩: ∃Aq,IV=[Aq]:=List.length_eq_one_iff.1 (by have:((IV.length:Nat):Int)=c.Ak:=Ax.len.1;omega);obtain⟨W0,hW0⟩: ∃W0,W0=Wo.new c.map IV:=⟨_,rfl⟩;obtain⟨A,hA⟩: ∃A,A=c.Ai.toNat+c.Ak.toNat+1:=⟨_,rfl⟩;have hG0:W0.Go c.map A 0:=by rw[hW0,hA];exact Wo.HW hc (fun p hp=>(Ax.Aq p hp).2)
 refine T.Jc (H':=[⟨b0,49,(c.cells++[Dc pb Ir.length pc,kv])⟩]) (R':=BG (mZ.R ⟨c,IV,Ir,LJ,pb,pc,ks,kv,KB⟩) (wrap K W0.l (JZ K pw W0))) (Ag (mZ.Vq _) (Bo BF)) (by rw[hW0];exact Wk.sJ (congrArg (Az [_]) (D9 _ _)))<|tx 7 (ct [1]) Z<|KW (vs:=(c.cells++[Dc pb Ir.length pc,kv])) Z Z Z Z Z kY .z<|kW Z Z Z Z g15 (Ce.FD (ZN Ax) (Bo BF)) (fun _=>Ag (Ag (Bo BF) (mZ.Vq _)) (Bo BF)) JH fun x hx=>AY 8 [] Z ?_
 obtain⟨Ku,pu⟩:=x;have hKu:Ku.M=c.map:=hx;refine CW 22 [] Z<|T.block<|T.Jc (H':=⟨b0,49,(c.cells++[Dc pb Ir.length pc,kv])⟩::KB) (R':=BG (wrap K W0.l (JZ K pw W0)) (wrap Ku W0.l (JZ Ku pu W0))) (Ag (Bo BF) (Bo BF)) (by rw[hW0];exact pT)<|T.loop (fun(x:TsA) w=>XA c ks W0 A x.i x.xv x.XB x.W x.E∧Sy C w0 (fun _=>False) l (⟨b0,49,(c.cells++[Dc pb Ir.length pc,kv])⟩::(KB++x.XB)) (BG (wrap K x.W.l (JZ K pw x.W)) (wrap Ku W0.l (JZ Ku pu W0))) w) (fun x=>[(11,.int .i64 ((x.i:Nat):Int)),(10,x.xv),(9,.int .i64 c.Ai),(7,AX pu),(5,AX pw),(4,AX b0)]) (fun x=>ks.length-x.i) ⟨0,.slice none 0 0,[],W0,[]⟩ (fun w h=>⟨⟨Nat.zero_le _,Z,Z,Ht.nil,hG0,Nat.le_refl _⟩,by show Sy _ _ _ _ (_::(KB++[])) _ w;rw[List.append_nil];exact h⟩) ⟨Z,Z,Z,Z,Z,Z,trivial⟩ ?_;rintro⟨i,xv,XB,WI,EI⟩ g1;refine T.pure ?_;intro hx0;have hxa:XA c ks W0 A i xv XB WI EI:=hx0;obtain⟨hile,-,hEx,p6,hGI,hEl⟩:=id hxa;refine AZ 6 [] Z<|PZ hsl Z Z Z xY<|AY 2 [] Z<|T.cond Z ?_ ?_
 ·intro hb1;have hi:i<ks.length:=by have:((i:Nat):Int)<((ks.length:Nat):Int):=of_decide_eq_true hb1;omega
  obtain⟨kb,gk,km,rfl,-,-,-,-,rfl⟩:=hsl.resolve_left (fun h=>by have:=h.2.1;omega);refine T.Jc (H':=⟨b0,49,(c.cells++[Dc pb Ir.length pc,Dc kb ks.length km])⟩::⟨kb,38,mY ks++gk⟩::XB) (R':=_) (Ag (Bo BF) (Bo BF)) (Wk.refl _) ?_;obtain⟨U1,nl⟩: ∃U1,(Wo.Fv c.map WI (ks.getD i (0,0)).1 (ks.getD i (0,0)).2).1=U1:=⟨_,rfl⟩;obtain⟨E1,hE1⟩: ∃E1,(Wo.Fv c.map WI (ks.getD i (0,0)).1 (ks.getD i (0,0)).2).2=E1:=⟨_,rfl⟩;refine CW 2 [] Z<|T.block<|AZ 6 [448] Z<|Jm Z fk ⟨Int.natCast_nonneg _,Int.ofNat_lt.2 hi⟩<|KW (bE hi) Z Z Z Z m38 (.s .z)<|Ls Z g8 (sH hKM bY hp hGI (by omega) nl hE1 (Bo BF)) (Ag (Bo BF) (Bo BF)) Aw<|Hg Z Ih CE fun b1=>AY 3 [] Z ?_
  rcases(show E1.kind<8∨(8≤E1.kind∧E1.kind≤13)∨(8≤E1.kind∧13<E1.kind) by omega) with hk|hk|hk
  ·skip;exact AZ 3 [] Z<|Du (c:=false) Z (decide_eq_false (by omega))<|AY 8 [] Z<|T.Bj<|AZ 2 [] Z<|BU (c:=((i+1:Nat):Int)) Z (by simp only[FC];rw[IntWalk.i64_in _ (by omega)];omega)<|AY 2 [] Z<|T.FT ⟨i+1,xv,XB,U1,EI⟩ (by show ks.length-(i+1)<ks.length-i;omega) (fun w h=>⟨hxa.no bY hi nl hE1 (by omega),h.Jc (Ag (Bo BF) (Bo BF)) Wk.tail⟩) ⟨rfl,rfl,rfl,rfl,rfl,rfl,trivial⟩
  ·skip;exact AZ 3 [] Z<|Du (c:=true) Z (decide_eq_true (by omega))<|AP 3 [] Z<|Du (c:=true) Z (decide_eq_true (by omega))<|AP 5 [12] Z<|KW (vs:=E1.cells) Z Z Z Z Z Xq .z<|Qc (cs:=E1.cells) Z Wl Ih (by decide) Z Z Z CE fun Yc=>MG (n:=5) (news:=E1.cells) (Ff:=[]) (Hr:=[_,_,_,_]) (cn:=PY (EI++[E1])) (kn:=EI.length+1) p6 Z Z Z Wl Z .z Z (fun v h=>List.all_eq_true.1 (show E1.cells.all BL=true from Z) v h) ⟨by omega,by omega,by omega,by omega⟩ (Vf EI E1) Z CE fun nh nj AbV=>AY 2 [] Z<|T.Bj<|AZ 2 [] Z<|BU (c:=((i+1:Nat):Int)) Z (by simp only[FC];rw[IntWalk.i64_in _ (by omega)];omega)<|AY 2 [] Z<|T.FT ⟨i+1,nh,nj,U1,EI++[E1]⟩ (by show ks.length-(i+1)<ks.length-i;omega) (fun w h=>⟨hxa.sY bY hi nl hE1 hk AbV,h.Jc (Ag (Bo BF) (Bo BF)) (Wk.tail.trans Wk.tail)⟩) ⟨rfl,rfl,rfl,rfl,rfl,rfl,trivial⟩
  skip;exact AZ 3 [] Z<|Du (c:=true) Z (decide_eq_true (by omega))<|AP 3 [] Z<|Du (c:=false) Z (decide_eq_false (by omega))<|AY 4 [] Z<|T.Bj<|AZ 2 [] Z<|BU (c:=((i+1:Nat):Int)) Z (by simp only[FC];rw[IntWalk.i64_in _ (by omega)];omega)<|AY 2 [] Z<|T.FT ⟨i+1,xv,XB,U1,EI⟩ (by show ks.length-(i+1)<ks.length-i;omega) (fun w h=>⟨hxa.no bY hi nl hE1 (by omega),h.Jc (Ag (Bo BF) (Bo BF)) Wk.tail⟩) ⟨rfl,rfl,rfl,rfl,rfl,rfl,trivial⟩
 intro hb1;have hi:i=ks.length:=by have: ¬((i:Nat):Int)<((ks.length:Nat):Int):=of_decide_eq_false hb1;omega
 have hEk:Qx c.map ks W0=EI:=by rw[←hEx,hi,List.take_of_length_le (Nat.le_refl _)]
 obtain⟨hsame,hwho⟩:=hgood c Aq ks hok hm1 (by omega);rw[←hops,←hW0,hEk] at hsame hwho;refine T.exit<|TE.FQ<|TE.DC<|AZ 3 [56] Z<|KW (vs:=c.cells) Z Z Z Z Z u7 .z<|CB Z g17 (Cv.kH (Ag (Bo BF) (Bo BF)) rG) (Ag (Bo BF) (Bo BF))<|kW Z Z Z Z g16 (Ce.frE (rQ hc hm1) (Ag (Bo BF) (Bo BF))) (fun _=>(Ag DT (Ag (Bo BF) (Bo BF)))) JH fun u hu=>Hg Z aT CE fun b2=>H9 (vs:=[u.1,u.2.1,.int .i64 c.Af,u.2.2,.bool true]) Z Um Z (bZ hu.1 hu.2.1 hu.2.2) .z (Nat.le_of_ble_eq_true Z) .z Aw<|AP 4 [56] Z<|KW (vs:=c.cells) Z Z Z Z Z u7 (.s .z)<|CB Z g17 (Cv.kH (Ag DT (Ag (Bo BF) (Bo BF))) rG) (Ag DT (Ag (Bo BF) (Bo BF)))<|kW Z Z Z Z g16 (Ce.frE (rQ hc hm1) (Ag DT (Ag (Bo BF) (Bo BF)))) (fun _=>(Ag DT (Ag DT (Ag (Bo BF) (Bo BF))))) JH fun u2 hu2=>Hg Z aT CE fun b3=>H9 (vs:=[u2.1,u2.2.1,.int .i64 c.Af,u2.2.2,.bool true]) Z Um Z (bZ hu2.1 hu2.2.1 hu2.2.2) .z (Nat.le_of_ble_eq_true Z) .z Aw<|AY 10 [] Z<|T.block ?_
 refine T.Jc (H':=⟨b2,58,[u.1,u.2.1,.int .i64 c.Af,u.2.2,.bool true]⟩::⟨b3,58,[u2.1,u2.2.1,.int .i64 c.Af,u2.2.2,.bool true]⟩::XB) (R':=BG (PR u.1 u.2.1 u.2.2 (WM c)) (BG (PR u2.1 u2.2.1 u2.2.2 (WM c)) (wrap Ku W0.l (JZ Ku pu W0)))) (Ag DT (Ag DT (Bo BF))) pZ<|T.loop (fun(x:TsB) w=>Vs c EI A x.i x.k x.U x.p x.q x.rv x.nv x.av x.Qe x.Lc x.PQ∧Sy C w0 (fun _=>False) l (⟨b2,58,[x.rv,x.nv,.int .i64 c.Af,x.av,.bool true]⟩::⟨b3,58,[x.Qe,x.Lc,.int .i64 c.Af,x.PQ,.bool true]⟩::XB) (BG (PR x.rv x.nv x.av x.p) (BG (PR x.Qe x.Lc x.PQ x.q) (wrap Ku x.U.l (JZ Ku pu x.U)))) w) (fun x=>[(16,.int .i64 ((x.i:Nat):Int)),(15,.int .i64 ((x.k:Nat):Int)),(14,AX b3),(13,AX b2),(10,xv),(9,.int .i64 c.Ai),(7,AX pu)]) (fun x=>4000-x.i) ⟨0,0,W0,WM c,WM c,u.1,u.2.1,u.2.2,u2.1,u2.2.1,u2.2.2⟩ (fun w h=>⟨⟨Nat.zero_le _,Nat.zero_le _,hsame,(kZ hc).1,(kZ hc).1,⟨Z,Z⟩,(kZ hc).2,(kZ hc).2,Z,Z,hu,hu2,hG0⟩,h⟩) ⟨Z,Z,Z,Z,Z,Z,Z,trivial⟩ ?_;rintro⟨i2,k,U,p,q,rv,nv,av,Qe,Lc,PQ⟩ g2;refine T.pure ?_;intro hy0;have hyb:Vs c EI A i2 k U p q rv nv av Qe Lc PQ:=hy0;obtain⟨hi4,hkx,hsm,hgp,hgq,hpq,hap,haq,hmp,hmq,hcp,hcq,hGU⟩:=id hyb;refine CW 2 [] Z ?_;rcases Ks hsm hi4 hkx with⟨hd1,hd2⟩|⟨hd0,hd1,hd2⟩|⟨p7,hkl,U2,E2,nt,hE2,hcs⟩
 ·skip;exact AZ 2 [] Z<|Du (c:=false) Z (AbS hd1)<|AY 8 [] Z<|T.exit<|TE.FQ<|TE.DC<|AZ 4 [] Z<|PZ p6 Z Z Z OC<|Du (c:=true) Z (beq_iff_eq.2 (show((k:Nat):Int)=((EI.length:Nat):Int) by omega))<|AY 2 [] Z<|T.BC Z fun W D h=>⟨fun _=>False,rfl,fun _ h=>h.elim⟩
 ·skip;exact AZ 2 [] Z<|Du (c:=true) Z (ltc (by omega))<|AP 3 [] Z<|PZ p6 Z Z Z OC<|Du (c:=false) Z (decide_eq_false (show¬((k:Nat):Int)<((EI.length:Nat):Int) by omega))<|AY 3 [] Z<|T.exit<|TE.FQ<|TE.DC<|AZ 4 [] Z<|PZ p6 Z Z Z OC<|Du (c:=true) Z (beq_iff_eq.2 (show((k:Nat):Int)=((EI.length:Nat):Int) by omega))<|AY 2 [] Z<|T.BC Z fun W D h=>⟨fun _=>False,rfl,fun _ h=>h.elim⟩
 skip;refine AZ 2 [] Z<|Du (c:=true) Z (ltc (by omega))<|AP 3 [] Z<|PZ p6 Z Z Z OC<|Du (c:=true) Z (decide_eq_true (show((k:Nat):Int)<((EI.length:Nat):Int) by omega))<|AY 5 [] Z<|T.block<|T.seq ?_;have hSt:Wo.Fv c.map U c.Ai 0=U.step c.map c.Ai.toNat 0:=KK (by omega) (by rw[hGU.tL,hA];omega);refine T.Jc (H':=_) (R':=BG (wrap Ku U.l (JZ Ku pu U)) (BG (PR rv nv av p) (PR Qe Lc PQ q))) (Ag (Bo BF) (Ag DT DT)) (Wk.sJ (congrArg (Az _) Km))<|AZ 3 [56] Z<|Fp Z tM Mx Z<|Ls Z g8 (sH hKu bY hp hGU (by omega) ((congrArg Prod.fst hSt).trans nt) ((congrArg Prod.snd hSt).trans hE2) (Ag DT DT)) (Ag (Bo BF) (Ag DT DT)) Aw<|Hg Z Ih CE fun b4=>AY 4 [] Z ?_
 rcases hcs with⟨hk8,hs2⟩|⟨hk8,AbW,hs2⟩|⟨hkk,hfl⟩|⟨P1,hP1,hkk,hEw,hfl,hkd,hbb,p8,gl,hrs,hs2⟩
 ·skip;exact T.Jc (H':=⟨b4,33,E2.cells⟩::_) (R':=BG (PR rv nv av p) (BG (PR Qe Lc PQ q) (wrap Ku U2.l (JZ Ku pu U2)))) (Ag DT (Ag DT (Bo BF))) (Wk.sJ (congrArg (Az _) Km.symm))<|AZ 3 [] Z<|Du (c:=true) Z (decide_eq_true hk8)<|AY 7 [] Z<|T.exit<|TE.DC<|AZ 2 [] Z<|BU (c:=((i2+1:Nat):Int)) Z (by simp only[FC];rw[IntWalk.i64_in _ (by omega)];omega)<|AY 2 [] Z<|T.FT ⟨i2+1,k,U2,p,q,rv,nv,av,Qe,Lc,PQ⟩ (by show 4000-(i2+1)<4000-i2;omega) (fun w h=>⟨hyb.no bY p7 nt hs2,h.Jc (Ag DT (Ag DT (Bo BF))) Wk.tail⟩) ⟨rfl,rfl,rfl,rfl,rfl,rfl,rfl,trivial⟩
 ·skip;exact T.Jc (H':=⟨b4,33,E2.cells⟩::_) (R':=BG (PR rv nv av p) (BG (PR Qe Lc PQ q) (wrap Ku U2.l (JZ Ku pu U2)))) (Ag DT (Ag DT (Bo BF))) (Wk.sJ (congrArg (Az _) Km.symm))<|AZ 3 [] Z<|Du (c:=false) Z (decide_eq_false hk8)<|AP 3 [] Z<|Du (c:=true) Z (decide_eq_true AbW)<|AY 3 [] Z<|T.exit<|TE.DC<|AZ 2 [] Z<|BU (c:=((i2+1:Nat):Int)) Z (by simp only[FC];rw[IntWalk.i64_in _ (by omega)];omega)<|AY 2 [] Z<|T.FT ⟨i2+1,k,U2,p,q,rv,nv,av,Qe,Lc,PQ⟩ (by show 4000-(i2+1)<4000-i2;omega) (fun w h=>⟨hyb.no bY p7 nt hs2,h.Jc (Ag DT (Ag DT (Bo BF))) Wk.tail⟩) ⟨rfl,rfl,rfl,rfl,rfl,rfl,rfl,trivial⟩
 ·obtain⟨Y,hY⟩: ∃Y,EI.getD k BH=Y:=⟨_,rfl⟩;rw[hY] at hfl;refine T.Jc (H':=⟨b4,33,E2.cells⟩::_) (R':=BG (PR rv nv av p) (BG (PR Qe Lc PQ q) (wrap Ku U2.l (JZ Ku pu U2)))) (Ag DT (Ag DT (Bo BF))) (Wk.sJ (congrArg (Az _) Km.symm))<|AZ 3 [] Z<|Du (c:=false) Z (decide_eq_false (by omega))<|AP 3 [] Z<|Du (c:=false) Z (decide_eq_false (by omega))<|AY 5 [] Z ?_;obtain⟨xb,Vl,xm,rfl,-,-,-,-,rfl⟩:=(show Ht 33 5 xv EI.length (PY EI) XB from p6).resolve_left (fun h=>by have:=h.2.1;omega);refine AZ 3 [48] Z<|Jm Z Wl ⟨Int.natCast_nonneg _,Int.ofNat_lt.2 hkl⟩<|KW (vs:=Y.cells) ((Kh hkl).trans (congrArg Ev.cells hY)) Z Z Z Z Xq (.s (.s (.s .z)))<|Hg Z Ih CE fun b5=>AP 5 [] Z<|BU (c:=((k+1:Nat):Int)) Z (by simp only[FC];rw[IntWalk.i64_in _ (by omega)];omega)<|AY 3 [] Z ?_
  rcases Kx hfl with hf|hf|hf
  ·skip;exact AZ 3 [] Z<|Du (c:=true) Z (beq_iff_eq.2 (by omega))<|AP 3 [] Z<|Du (c:=true) Z (decide_eq_true (by omega))<|AY 23 [] Z<|T.J8<|TE.CJ<|TE.TU<|TE.CJ<|TE.BC rfl fun W D h=>⟨fun _=>False,rfl,fun _ h=>h.elim⟩
  ·skip;exact AZ 3 [] Z<|Du (c:=true) Z (beq_iff_eq.2 (by omega))<|AP 3 [] Z<|Du (c:=false) Z (decide_eq_false (by omega))<|AP 4 [1] Z<|Du (c:=true) Z (beq_iff_eq.2 (by omega))<|AP 3 [1] Z<|Du (c:=true) Z (decide_eq_true (by omega))<|AY 14 [] Z<|T.J8<|TE.CJ<|TE.TU<|TE.CJ<|TE.BC rfl fun W D h=>⟨fun _=>False,rfl,fun _ h=>h.elim⟩
  skip;exact AZ 3 [] Z<|Du (c:=false) Z (beq_eq_false_iff_ne.2 (by omega))<|AP 8 [1] Z<|Du (c:=true) Z (beq_iff_eq.2 (by omega))<|AP 3 [1] Z<|Du (c:=true) Z (decide_eq_true (by omega))<|AY 14 [] Z<|T.J8<|TE.CJ<|TE.TU<|TE.CJ<|TE.BC rfl fun W D h=>⟨fun _=>False,rfl,fun _ h=>h.elim⟩
 obtain⟨Y,hY⟩: ∃Y,EI.getD k BH=Y:=⟨_,rfl⟩;rw[hY] at hP1 hfl hkd hbb p8 hrs hs2;refine T.Jc (H':=⟨b4,33,E2.cells⟩::_) (R':=BG (PR rv nv av p) (BG (PR Qe Lc PQ q) (wrap Ku U2.l (JZ Ku pu U2)))) (Ag DT (Ag DT (Bo BF))) (Wk.sJ (congrArg (Az _) Km.symm))<|AZ 3 [] Z<|Du (c:=false) Z (decide_eq_false (by omega))<|AP 3 [] Z<|Du (c:=false) Z (decide_eq_false (by omega))<|AY 5 [] Z ?_;obtain⟨xb,Vl,xm,rfl,-,-,-,-,rfl⟩:=(show Ht 33 5 xv EI.length (PY EI) XB from p6).resolve_left (fun h=>by have:=h.2.1;omega);refine AZ 3 [48] Z<|Jm Z Wl ⟨Int.natCast_nonneg _,Int.ofNat_lt.2 hkl⟩<|KW (vs:=Y.cells) ((Kh hkl).trans (congrArg Ev.cells hY)) Z Z Z Z Xq (.s (.s (.s .z)))<|Hg Z Ih CE fun b6=>AY 3 [] Z<|T.Jc (H':=[⟨b6,33,Y.cells⟩,⟨b4,33,E2.cells⟩,⟨b2,58,[rv,nv,.int .i64 c.Af,av,.bool true]⟩,⟨b3,58,[Qe,Lc,.int .i64 c.Af,PQ,.bool true]⟩,⟨xb,33,PY EI++Vl⟩]) (R':=BG (PR rv nv av p) (BG (PR Qe Lc PQ q) (wrap Ku U2.l (JZ Ku pu U2)))) (Ag DT (Ag DT (Bo BF))) (Wk.refl _)<|AZ 2 [] Z<|BU (c:=((k+1:Nat):Int)) Z (by simp only[FC];rw[IntWalk.i64_in _ (by omega)];omega)<|AY 3 [] Z<|T.gi (fun w=>Sy C w0 (fun _=>False) l [⟨b6,33,Y.cells⟩,⟨b4,33,E2.cells⟩,⟨b2,58,[rv,nv,.int .i64 c.Af,av,.bool true]⟩,⟨b3,58,[Qe,Lc,.int .i64 c.Af,PQ,.bool true]⟩,⟨xb,33,PY EI++Vl⟩] (BG (PR rv nv av p) (BG (PR Qe Lc PQ q) (wrap Ku U2.l (JZ Ku pu U2)))) w) ([(19,.bool false),(18,AX b6),(17,AX b4),(16,.int .i64 ((i2:Nat):Int)),(15,.int .i64 ((k+1:Nat):Int)),(14,AX b3),(13,AX b2),(10,Dc xb EI.length xm),(9,.int .i64 c.Ai),(7,AX pu)]) ?_ ?_
 ·skip;rcases Tg hfl hkd with hf|hf
  ·skip;exact AZ 3 [] Z<|Du (c:=true) Z (beq_iff_eq.2 (by omega))<|AP 3 [] Z<|Du (c:=false) Z (decide_eq_false (by omega))<|AP 4 [1] Z<|Du (c:=true) Z (beq_iff_eq.2 (by omega))<|AP 3 [1] Z<|Du (c:=false) Z (decide_eq_false (by omega))<|AY 4 [] Z<|T.As (fun w h=>h) ⟨rfl,rfl,rfl,rfl,rfl,rfl,rfl,rfl,rfl,rfl,trivial⟩
  skip;exact AZ 3 [] Z<|Du (c:=false) Z (beq_eq_false_iff_ne.2 (by omega))<|AP 8 [1] Z<|Du (c:=false) Z (beq_eq_false_iff_ne.2 (by omega))<|AY 8 [] Z<|T.As (fun w h=>h) ⟨rfl,rfl,rfl,rfl,rfl,rfl,rfl,rfl,rfl,rfl,trivial⟩
 intro g3;refine AZ 14 [0,0,1] Z<|Du (c:=false) Z (bne_eq_false_iff_eq.2 hkd)<|AP 5 [1] Z<|Du (c:=false) Z (bne_eq_false_iff_eq.2 hbb)<|AY 6 [] Z<|T.bA (fun w=>Sy C w0 (fun _=>False) l [⟨b6,33,Y.cells⟩,⟨b4,33,E2.cells⟩,⟨b2,58,[rv,nv,.int .i64 c.Af,av,.bool true]⟩,⟨b3,58,[Qe,Lc,.int .i64 c.Af,PQ,.bool true]⟩,⟨xb,33,PY EI++Vl⟩] (BG (PR rv nv av P1) (BG (PR Qe Lc PQ q) (wrap Ku U2.l (JZ Ku pu U2)))) w) ([(18,AX b6),(17,AX b4),(16,.int .i64 ((i2:Nat):Int)),(15,.int .i64 ((k+1:Nat):Int)),(14,AX b3),(13,AX b2),(10,Dc xb EI.length xm),(9,.int .i64 c.Ai),(7,AX pu)]) ?_ ?_
 ·skip;by_cases hk8:E2.kind=8
  ·rw[if_pos hk8] at hP1;subst hP1;refine AZ 3 [0,1] Z<|Du (c:=true) Z (beq_iff_eq.2 hk8)<|AY 2 [] Z<|T.opn (Ag DT (Bo BF)) ?_;intro ab am GI ham hav;subst hav;have hcl:=Te (a:=Y.a) hap.1;show T _ _ _ (Sy _ _ _ _ (_::_::_::_::_::_::[]) _) _;refine AZ 8 [2048,2,0,2] Z<|BU (c:=((p.at_.length:Nat):Int)-1) Z (by simp only[FC];exact IntWalk.i64_in _ (by omega))<|UG Z Z Z<|aW Z Z Z<|Jm (A9 Z Z Z (congrArg (fun z=>some (Value.int .i64 z)) (Ye (p:=p) (a:=Y.a)))) JV ⟨Int.natCast_nonneg _,Int.ofNat_lt.2 hcl⟩<|KQ Z o3 Z (.s (.s (.s (.s (.s .z))))) (EL hcl) (.s (.s (.s (.s (.s .z))))) Aw ?_;rw[ZI hcl];exact X.nil<|T.As (fun w h=>h.Jc (Ag DT (Ag DT (Bo BF))) (Tl (H0:=[_,_,_,_,_]) ham)) ⟨rfl,rfl,rfl,rfl,rfl,rfl,rfl,rfl,rfl,trivial⟩
  rw[if_neg hk8] at hP1;subst hP1;exact AZ 3 [0,1] Z<|Du (c:=false) Z (beq_eq_false_iff_ne.2 hk8)<|AY 3 [] Z<|T.As (fun w h=>h) ⟨rfl,rfl,rfl,rfl,rfl,rfl,rfl,rfl,rfl,trivial⟩
 intro g4;obtain⟨w1,w2,w3⟩:=jq hP1;have hgP:WG P1.g (i2+1):=by rw[w2];exact hgp
 have AbX:P1.at_.length≤1000000:=by rw[w1];exact hap.2
 have AbY:P1.ok=true:=by rw[w3];exact hpq.1
 have hmP:P1.g.D5=c.Af:=by rw[w2];exact hmp
 have hYk:8≤Y.kind∧Y.kind≤13:=by rw[←hkd];exact hkk
 have nk:Y.Di=c.Ai:=hwho Y (by rw[←hY];exact sG hkl);have gn:E2.Di=c.Ai:=by rw[hEw];omega
 refine AZ 2 [24] Z<|KW (vs:=[rv,nv,.int .i64 c.Af,av,.bool true]) Z Z Z Z Z Um (.s (.s .z))<|NC Z<|KW (vs:=Y.cells) Z Z Z Z Z Xq .z<|kW Z Z Z Z g18 (Ce.FD (sF hmP hcp.1 hcp.2.1 hgP (by omega) AbX AbY hYk nk p8) (Ag DT (Bo BF))) (fun _=>(Ag DT (Ag DT (Bo BF)))) JH fun u5 nw=>H9 (vs:=[u5.1,u5.2.1,.int .i64 c.Af,u5.2.2,.bool true]) Z Um Z (bZ nw.1 nw.2.1 nw.2.2) (.s (.s .z)) (Nat.le_of_ble_eq_true Z) (.s (.s .z)) Aw<|AY 2 [] Z ?_
 obtain⟨gv,Tp,Tr⟩:=u5;refine T.Jc (H':=[⟨b6,33,Y.cells⟩,⟨b4,33,E2.cells⟩,⟨b2,58,[gv,Tp,.int .i64 c.Af,Tr,.bool true]⟩,⟨b3,58,[Qe,Lc,.int .i64 c.Af,PQ,.bool true]⟩,⟨xb,33,PY EI++Vl⟩]) (R':=BG (PR Qe Lc PQ q) (BG (PR gv Tp Tr (P1.take c.Ai Y)) (wrap Ku U2.l (JZ Ku pu U2)))) (Ag DT (Ag DT (Bo BF))) (Wk.sJ (congrArg (Az _) pS))<|tx 5 (ct [3,4]) Z<|KW (vs:=[Qe,Lc,.int .i64 c.Af,PQ,.bool true]) Z Z Z Z Z Um (.s (.s (.s .z)))<|NC Z<|KW (vs:=E2.cells) Z Z Z Z Z Xq (.s .z)<|kW Z Z Z Z g18 (Ce.FD (sF hmq hcq.1 hcq.2.1 hgq (by omega) haq.2 hpq.2 hkk gn gl) (Ag DT (Bo BF))) (fun _=>(Ag DT (Ag DT (Bo BF)))) JH fun u6 oa=>H9 (vs:=[u6.1,u6.2.1,.int .i64 c.Af,u6.2.2,.bool true]) Z Um Z (bZ oa.1 oa.2.1 oa.2.2) (.s (.s (.s .z))) (Nat.le_of_ble_eq_true Z) (.s (.s (.s .z))) Aw<|AY 3 [] Z ?_
 obtain⟨rv6,p9,qD⟩:=u6;refine T.Jc (H':=[⟨b6,33,Y.cells⟩,⟨b4,33,E2.cells⟩,⟨b2,58,[gv,Tp,.int .i64 c.Af,Tr,.bool true]⟩,⟨b3,58,[rv6,p9,.int .i64 c.Af,qD,.bool true]⟩,⟨xb,33,PY EI++Vl⟩]) (R':=BG (PR gv Tp Tr (P1.take c.Ai Y)) (BG (PR rv6 p9 qD (q.take c.Ai E2)) (wrap Ku U2.l (JZ Ku pu U2)))) (Ag DT (Ag DT (Bo BF))) (Wk.sJ (congrArg (Az _) pS))<|T.aP (Bo BF) ?_;rintro⟨rb,rm,r0,RB,r⟩ ⟨Ts,qS,od,oi,r2⟩ ⟨hv1,hr1,hl1⟩ ⟨hv2,hr2,hl2⟩;have hv1:gv=Dc rb 1 rm:=hv1;have hv2:rv6=Dc Ts 1 qS:=hv2;have hl1:Ht 3 1 r0 r.length (Dl r) RB:=hl1;have hl2:Ht 3 1 od r2.length (Dl r2) oi:=hl2;have hr1:(P1.take c.Ai Y).g.Af=[r]:=hr1;have hr2:(q.take c.Ai E2).g.Af=[r2]:=hr2;subst hv1 hv2;have hrr:r=r2:=by rw[←Kp hr1,←Kp hr2];exact hrs
 subst hrr;show T _ _ _ (Sy _ _ _ _ _ (BG (nC rb r0 RB (Dc rb 1 rm) Tp Tr (P1.take c.Ai Y)) (BG (nC Ts od oi (Dc Ts 1 qS) p9 qD (q.take c.Ai E2)) (wrap Ku U2.l (JZ Ku pu U2))))) _;refine Ey 23 0 0 (by kernel_rfl)<|AP 12 [2,3,2] Z<|Jm Z WC (by decide)<|xX (fun D w h=>Tb h) Z Z Z XL<|PZ hl1 Z Z Z CX<|AP 3 [3] Z<|Jm Z WC (by decide)<|xX (fun D w h=>gc h) Z Z Z XL<|PZ hl2 Z Z Z CX<|Du (c:=false) Z (bne_eq_false_iff_eq.2 Z)<|AY 8 [] Z<|T.block<|T.loop (fun(x:Nat) w=>x≤r.length∧Sy C w0 (fun _=>False) l [⟨b6,33,Y.cells⟩,⟨b4,33,E2.cells⟩,⟨b2,58,[Dc rb 1 rm,Tp,.int .i64 c.Af,Tr,.bool true]⟩,⟨b3,58,[Dc Ts 1 qS,p9,.int .i64 c.Af,qD,.bool true]⟩,⟨xb,33,PY EI++Vl⟩] (BG (nC rb r0 RB (Dc rb 1 rm) Tp Tr (P1.take c.Ai Y)) (BG (nC Ts od oi (Dc Ts 1 qS) p9 qD (q.take c.Ai E2)) (wrap Ku U2.l (JZ Ku pu U2)))) w) (fun x=>[(20,.int .i64 ((x:Nat):Int)),(16,.int .i64 ((i2:Nat):Int)),(15,.int .i64 ((k+1:Nat):Int)),(14,AX b3),(13,AX b2),(10,Dc xb EI.length xm),(9,.int .i64 c.Ai),(7,AX pu)]) (fun x=>r.length-x) 0 (fun w h=>⟨Nat.zero_le _,h⟩) ⟨Z,Z,Z,Z,Z,Z,Z,Z,trivial⟩ ?_;rintro j g5;refine T.pure ?_;intro hjl;refine AZ 7 [0,2] Z<|Jm Z WC (by decide)<|xX (fun D w h=>Tb h) Z Z Z XL<|PZ hl1 Z Z Z CX<|AY 2 [] Z<|T.cond Z ?_ ?_
 ·intro hb6;have hj:j<r.length:=by have:((j:Nat):Int)<((r.length:Nat):Int):=of_decide_eq_true hb6;omega
  obtain⟨ib,QI,im,rfl,AhS,Ac0,-,-,rfl⟩:=hl1.resolve_left (fun h=>by have:=h.2.1;omega);have hml:maxLen=9223372036854775807:=by kernel_rfl
  rw[hml] at Ac0;obtain⟨ib2,Ac1,im2,rfl,-,-,-,-,rfl⟩:=hl2.resolve_left (fun h=>by have:=h.2.1;omega);exact CW 2 [] Z<|T.block<|T.seq<|Ey 17 0 0 (by kernel_rfl)<|AP 3 [2] Z<|Jm Z WC (by decide)<|xX (fun D w h=>Tb h) Z Z Z XL<|NC Z<|Jm Z JV ⟨Int.natCast_nonneg _,Int.ofNat_lt.2 hj⟩<|xX (fun D w h=>bL hj h) Z Z Z o3<|AP 3 [3] Z<|Jm Z WC (by decide)<|xX (fun D w h=>gc h) Z Z Z XL<|NC Z<|Jm Z JV ⟨Int.natCast_nonneg _,Int.ofNat_lt.2 hj⟩<|xX (fun D w h=>gf hj h) Z Z Z o3<|Du (c:=false) Z (bne_eq_false_iff_eq.2 Z)<|AY 3 [] Z<|T.Bj<|AZ 2 [] Z<|BU (c:=((j+1:Nat):Int)) Z (by simp only[FC];rw[IntWalk.i64_in _ (by omega)];omega)<|AY 2 [] Z<|T.FT (j+1) (by show r.length-(j+1)<r.length-j;omega) (fun w h=>⟨by show j+1≤r.length;omega,h⟩) ⟨rfl,rfl,rfl,rfl,rfl,rfl,rfl,rfl,trivial⟩
 intro hb6;exact T.exit<|TE.FQ<|TE.DC<|T.Bj<|AZ 2 [] Z<|BU (c:=((i2+1:Nat):Int)) Z (by simp only[FC];rw[IntWalk.i64_in _ (by omega)];omega)<|AY 2 [] Z<|T.FT ⟨i2+1,k+1,U2,P1.take c.Ai Y,q.take c.Ai E2,Dc rb 1 rm,Tp,Tr,Dc Ts 1 qS,p9,qD⟩ (by show 4000-(i2+1)<4000-i2;omega) (fun w h=>⟨Vs.sY (u:=(Dc rb 1 rm,Tp,Tr)) (u':=(Dc Ts 1 qS,p9,qD)) hyb bY p7 hkl nt hP1 hkk hYk gn nk p8 gl hs2 nw oa,h.Jc (Ag DT (Ag DT (Bo BF))) (Wk.tail.trans (Wk.tail.trans (Wk.Az (gh (y:=⟨rb,rm,r0,RB,r⟩) (z:=⟨Ts,qS,od,oi,r⟩)) _)))⟩) ⟨rfl,rfl,rfl,rfl,rfl,rfl,rfl,trivial⟩
end Mp
namespace Iv
variable{a v j b n p w:Int}{e:Ev}{f:Nat→Nat}{k:Nat}{t:yV}{L H P4 P5 hold H':List Int}{y:Mk}{F:Nat→List Int}{D:De}
open Go.Proofs.YtmpcfamcbaineaaGreat.Mo
theorem Hf(l:Dk)(a v:Int):(put l a v).length=l.length:=by
 unfold put;split
 ·rw[List.length_set]
 rfl
theorem lC:QS (put l a v) b↔QS l b:=by unfold QS;rw[Hf]
theorem xZ(h: ¬QS l a):ld l a=0:=if_neg h
theorem KM(h:QS l a):ld l a=l.getD a.toNat 0:=if_pos h
theorem Ei(h:QS l a):ld (put l a v) a=v:=by
 rw[KM (lC.2 h)];unfold put;rw[if_pos h,List.getD_eq_getElem?_getD,List.getElem?_set_self (by unfold QS at h;omega)];rfl
theorem Ay(h:a=b→a<0):ld (put l a v) b=ld l b:=by
 by_cases hb:QS l b
 ·rw[KM (lC.2 hb),KM hb];unfold put;split
  ·rename_i ha;have:a.toNat≠b.toNat:=by
    unfold QS at ha hb;intro e;have:=h (by omega);omega
   rw[List.getD_eq_getElem?_getD,List.getElem?_set_ne this,←List.getD_eq_getElem?_getD]
  rfl
 rw[xZ hb,xZ (fun g=>hb (lC.1 g))]
inductive Pl where
 |FW (a:Int)|Jq (i:Int)|head (k:Int)|NS (i:Int)|DJ (i:Int)|entry (i j:Int)|Bq (p:Int)|Cf (p:Int)|BN (p j:Int)
 |Ea (v:Int)|state (v:Int)|mark (v:Int)|next (v:Int)|En (v j:Int)
 deriving DecidableEq
def ad(M:Bz):Pl→Int
 | .FW a=>if 0≤a∧a<6 then a else -1
 | .Jq i=>M.O8 i
 | .head k=>M.Eg k
 | .NS i=>M.VM i
 | .DJ i=>M.IZ i
 | .entry i j=>M.IJ i j
 | .Bq p=>M.FZ p
 | .Cf p=>M.FI p
 | .BN p j=>M.Gp p j
 | .Ea v=>M.D7 v
 | .state v=>M.DK v
 | .mark v=>M.Mark v
 | .next v=>M.Next v
 | .En v j=>M.H8 v j
structure La (M:Bz):Prop where
 mks:1≤M.Ai∧M.Ai≤4
 mu:1≤M.Ak∧M.Ak≤4
 dq:2≤M.BK∧M.BK≤8
 ch:1≤M.EE∧M.EE≤16
 bu:1≤M.CQ∧M.CQ≤4
 nn:1≤M.nodes∧M.nodes≤60
 Jq:M.Jq=6
 head:M.head=6+M.Ak
 WT:M.Iu=M.head+5
 Bq:0≤M.Bq∧M.Bq≤2000
 Tw:0≤M.Ai*(2+M.BK)∧M.Ai*(2+M.BK)≤40
 Mz:M.Gi=M.Iu+M.Ai*(2+M.BK)
 DW:M.DW=M.Gi+M.Bq*6
 all:M.DW≤M.all∧M.all≤M.DW+1200
 BM: ∀v,1≤v→v≤M.nodes→1≤M.CU v∧M.CU v≤16
 node: ∀v j,1≤v→v≤M.nodes→0≤j→j<4+M.CU v→M.DW≤M.node v j∧M.node v j<M.all
 inj: ∀v j w k,1≤v→v≤M.nodes→0≤j→j<4+M.CU v→1≤w→w≤M.nodes→0≤k→k<4+M.CU w→M.node v j=M.node w k→v=w∧j=k
 first:M.first.length=M.all.toNat
section
theorem lD(h:0≤ad M (.FW a)):(0≤a∧a<6)∧ad M (.FW a)=a:=by
 simp only[ad] at h⊢
 split at h
 ·rename_i g;rw[if_pos g];exact⟨g,rfl⟩
 omega
theorem lF(h:0≤M.O8 a):(0≤a∧a<M.Ak)∧M.O8 a=M.Jq+a:=by
 unfold Bz.O8 at h⊢
 split at h
 ·omega
 rename_i g;rw[if_neg g];exact⟨by omega,rfl⟩
theorem ZO(h:0≤M.Eg a):(0≤a∧a<5)∧M.Eg a=M.head+a:=by
 unfold Bz.Eg at h⊢
 split at h
 ·omega
 rename_i g;rw[if_neg g];exact⟨by omega,rfl⟩
theorem lG{i:Int}(h:0≤M.Ja i j):0≤i∧i<M.Ai∧M.Ja i j=M.Iu+i*(2+M.BK)+j:=by
 unfold Bz.Ja at h⊢
 split at h
 ·omega
 rename_i hi;rw[if_neg hi];exact⟨by omega,by omega,rfl⟩
theorem ZP{i:Int}(hi:0≤i)(h:i<M.Ai):M.Ja i j=M.Iu+i*(2+M.BK)+j:=by
 unfold Bz.Ja;rw[if_neg (by omega)]
theorem lH(hL:La M){i:Int}(hj:0≤j∧j<2+M.BK)(h:0≤M.Ja i j):M.Iu≤M.Ja i j∧M.Ja i j<M.Gi:=by
 obtain⟨h1,h2,h3⟩:=lG h;have h4:i*(2+M.BK)≤(M.Ai-1)*(2+M.BK):=Int.mul_le_mul_of_nonneg_right (by omega) (by have:=hL.dq;omega);have h5:0≤i*(2+M.BK):=Int.mul_nonneg h1 (by have:=hL.dq;omega);rw[Int.sub_mul,Int.one_mul] at h4;have:=hL.Mz;omega
theorem Oe(hL:La M){i k m:Int}(hj:0≤j∧j<2+M.BK)(hm:0≤m∧m<2+M.BK)(h:0≤M.Ja i j)(e:M.Ja i j=M.Ja k m):i=k∧j=m:=by
 obtain⟨h1,h2,h3⟩:=lG h;obtain⟨h4,h5,h6⟩:=lG (e▸h);have h7:i*(2+M.BK)+j=k*(2+M.BK)+m:=by omega
 have hd:(2+M.BK)≠0:=by omega
 have e1:(i*(2+M.BK)+j)/(2+M.BK)=i:=by
  rw[Int.add_comm,Int.add_mul_ediv_right _ _ hd,Int.ediv_eq_zero_of_lt hj.1 hj.2];omega
 have e2:(k*(2+M.BK)+m)/(2+M.BK)=k:=by
  rw[Int.add_comm,Int.add_mul_ediv_right _ _ hd,Int.ediv_eq_zero_of_lt hm.1 hm.2];omega
 have:i=k:=by rw[←e1,←e2,h7]
 subst this;exact⟨rfl,by omega⟩
theorem P9{i:Int}(h:0≤M.IJ i j):(0≤j∧j<M.BK)∧M.IJ i j=M.Ja i (2+j):=by
 unfold Bz.IJ at h⊢
 split at h
 ·omega
 rename_i hj;rw[if_neg hj];exact⟨by omega,rfl⟩
theorem Fz(h:0≤M.BI p j):1≤p∧p≤M.Bq∧M.BI p j=M.Gi+(p-1)*6+j:=by
 unfold Bz.BI at h⊢
 split at h
 ·omega
 rename_i hi;rw[if_neg hi];exact⟨by omega,by omega,rfl⟩
theorem Ry(h:0≤M.Gp p j):(0≤j∧j<4)∧M.Gp p j=M.BI p (2+j):=by
 unfold Bz.Gp at h⊢
 split at h
 ·omega
 rename_i hj;rw[if_neg hj];exact⟨by omega,rfl⟩
theorem KS(hL:La M)(h:M.CU v≠0):1≤v∧v≤M.nodes:=by
 unfold Bz.CU at h;split at h
 ·exact absurd rfl h
 omega
theorem Vt(hL:La M)(h:0≤M.node v j):1≤v∧v≤M.nodes:=by
 unfold Bz.node at h;split at h
 ·omega
 rename_i hr;exact KS hL hr
theorem Vu(hL:La M)(h:0≤M.H8 v j):(0≤j∧j<M.CU v)∧M.H8 v j=M.node v (4+j):=by
 unfold Bz.H8 at h⊢
 split at h
 ·omega
 rename_i hj;rw[if_neg hj];exact⟨by omega,rfl⟩
def zn:Pl→Nat
 | .FW _=>0| .Jq _=>1| .head _=>2| .NS _=>3| .DJ _=>3| .entry _ _=>3| .Bq _=>4| .Cf _=>4| .BN _ _=>4|_=>5
theorem lI(hL:La M){p:Pl}(h:0≤ad M p):(zn p=0∧ad M p<6)∨(zn p=1∧6≤ad M p∧ad M p<M.head)∨(zn p=2∧M.head≤ad M p∧ad M p<M.Iu)∨
  (zn p=3∧M.Iu≤ad M p∧ad M p<M.Gi)∨(zn p=4∧M.Gi≤ad M p∧ad M p<M.DW)∨(zn p=5∧M.DW≤ad M p∧ad M p<M.all):=by
 have a1:=hL.Jq;have a2:=hL.head;have a3:=hL.WT;have a4:=hL.DW;have a5:=hL.mu;have a6:=hL.dq;have nd: ∀v j,0≤M.node v j→0≤j→j<4→M.DW≤M.node v j∧M.node v j<M.all:=fun v j h1 h2 h3=>by
  obtain⟨g1,g2⟩:=Vt hL h1;have:=hL.BM v g1 g2;exact hL.node v j g1 g2 h2 (by omega)
 cases p with
 |FW a=>have g:=lD h;exact .inl ⟨rfl,by omega⟩
 |Jq i=>have g:=lF (a:=i) h;exact .inr (.inl ⟨rfl,by simp only[ad];omega⟩)
 |head i=>have g:=ZO (a:=i) h;exact .inr (.inr (.inl ⟨rfl,by simp only[ad];omega⟩))
 |NS i=>exact .inr (.inr (.inr (.inl ⟨rfl,lH hL (by omega) h⟩)))
 |DJ i=>exact .inr (.inr (.inr (.inl ⟨rfl,lH hL (by omega) h⟩)))
 |entry i j=>
  obtain⟨h1,h2⟩:=P9 (i:=i) (j:=j) h;refine .inr (.inr (.inr (.inl ⟨rfl,?_⟩)));show M.Iu≤M.IJ i j∧M.IJ i j<M.Gi;rw[h2];exact lH hL (by omega) (by rw[←h2];exact h)
 |Bq p=>have:=Fz (p:=p) (j:=0) h;exact .inr (.inr (.inr (.inr (.inl ⟨rfl,by show M.Gi≤M.BI p 0∧M.BI p 0<M.DW;omega⟩))))
 |Cf p=>have:=Fz (p:=p) (j:=1) h;exact .inr (.inr (.inr (.inr (.inl ⟨rfl,by show M.Gi≤M.BI p 1∧M.BI p 1<M.DW;omega⟩))))
 |BN p j=>
  obtain⟨h1,h2⟩:=Ry (p:=p) (j:=j) h;have h3:0≤M.BI p (2+j):=by rw[←h2];exact h
  have:=Fz h3;exact .inr (.inr (.inr (.inr (.inl ⟨rfl,by show M.Gi≤M.Gp p j∧M.Gp p j<M.DW;omega⟩))))
 |Ea v=>exact .inr (.inr (.inr (.inr (.inr ⟨rfl,nd v 0 h (by omega) (by omega)⟩))))
 |state v=>exact .inr (.inr (.inr (.inr (.inr ⟨rfl,nd v 1 h (by omega) (by omega)⟩))))
 |mark v=>exact .inr (.inr (.inr (.inr (.inr ⟨rfl,nd v 2 h (by omega) (by omega)⟩))))
 |next v=>exact .inr (.inr (.inr (.inr (.inr ⟨rfl,nd v 3 h (by omega) (by omega)⟩))))
 |En v j=>
  obtain⟨h1,h2⟩:=Vu hL (v:=v) (j:=j) h;have h3:0≤M.node v (4+j):=by rw[←h2];exact h
  obtain⟨g1,g2⟩:=Vt hL h3;refine .inr (.inr (.inr (.inr (.inr ⟨rfl,?_⟩))));show M.DW≤M.H8 v j∧M.H8 v j<M.all;rw[h2];exact hL.node v _ g1 g2 (by omega) (by omega)
theorem KJ(hL:La M){p:Pl}(h:0≤ad M p):ad M p<M.all:=by
 have a1:=hL.Jq;have a2:=hL.head;have a3:=hL.WT;have a4:=hL.DW;have a5:=hL.mu;have a6:=hL.dq;have a7:=hL.all;have a8:=hL.Mz;have a9:=hL.Tw;have a0:=hL.Bq;have:=lI hL h;omega
def cO:Pl→Int×Int
 | .Ea v=>(v,0)| .state v=>(v,1)| .mark v=>(v,2)| .next v=>(v,3)| .En v j=>(v,4+j)|_=>(0,0)
theorem bN(hL:La M){p:Pl}(h:0≤ad M p)(hz:zn p=5):ad M p=M.node (cO p).1 (cO p).2∧1≤(cO p).1∧(cO p).1≤M.nodes∧0≤(cO p).2∧(cO p).2<4+M.CU (cO p).1:=by
 have nd: ∀v j,0≤M.node v j→j<4→1≤v∧v≤M.nodes∧j<4+M.CU v:=fun v j h1 h3=>by
  obtain⟨g1,g2⟩:=Vt hL h1;have:=hL.BM v g1 g2;exact⟨g1,g2,by omega⟩
 cases p with
 |Ea v=>obtain⟨h1,h2,h3⟩:=nd v 0 h (by omega);exact⟨rfl,h1,h2,by simp[cO],h3⟩
 |state v=>obtain⟨h1,h2,h3⟩:=nd v 1 h (by omega);exact⟨rfl,h1,h2,by simp[cO],h3⟩
 |mark v=>obtain⟨h1,h2,h3⟩:=nd v 2 h (by omega);exact⟨rfl,h1,h2,by simp[cO],h3⟩
 |next v=>obtain⟨h1,h2,h3⟩:=nd v 3 h (by omega);exact⟨rfl,h1,h2,by simp[cO],h3⟩
 |En v j=>
  obtain⟨h1,h2⟩:=Vu hL (v:=v) (j:=j) h;have h3:0≤M.node v (4+j):=by rw[←h2];exact h
  obtain⟨g1,g2⟩:=Vt hL h3;exact⟨h2,g1,g2,by simp only[cO];omega,by simp only[cO];omega⟩
 |_=>cases hz
theorem Tx{p q:Pl}(hp:zn p=5)(hq:zn q=5)(h:cO p=cO q)(p4: ∀v j,p= .En v j→0≤j)(q4: ∀v j,q= .En v j→0≤j):p=q:=by
 cases p<;>first|cases hp|skip
 all_goals cases q<;>first|cases hq|skip
 all_goals simp only[cO,Prod.mk.injEq] at h
 all_goals first
  |(obtain⟨rfl,-⟩:=h;rfl)
  |(exfalso;omega)
  |(exfalso;have:=p4 _ _ rfl;omega)
  |(exfalso;have:=q4 _ _ rfl;omega)
  |(obtain⟨rfl,h⟩:=h;congr 1;omega)
theorem qT(hL:La M){p q:Pl}(e:ad M p=ad M q)(h:0≤ad M p):p=q:=by
 have h':0≤ad M q:=e▸h;have z1:=lI hL h;have z2:=lI hL h';have a1:=hL.Jq;have a2:=hL.head;have a3:=hL.WT;have a4:=hL.DW;have a5:=hL.mu;have a6:=hL.dq;have a7:=hL.all;have a8:=hL.Mz;have a9:=hL.Tw;have a0:=hL.Bq;have hz:zn p=zn q:=by omega
 clear z1 z2;by_cases h5:zn p=5
 ·obtain⟨e1,b1,b2,b3,b4⟩:=bN hL h h5;obtain⟨e2,c1,c2,c3,c4⟩:=bN hL h' (hz▸h5);have:=hL.inj _ _ _ _ b1 b2 b3 b4 c1 c2 c3 c4 (by rw[←e1,←e2,e]);refine Tx h5 (hz▸h5) (Prod.ext this.1 this.2) ?_ ?_
  ·rintro v j rfl;exact(Vu hL (v:=v) (j:=j) h).1.1
  rintro v j rfl;exact(Vu hL (v:=v) (j:=j) h').1.1
 cases p with
 |FW a=>
  cases q<;>first|cases hz|skip
  have g1:=lD h;have g2:=lD h';congr 1;omega
 |Jq a=>
  cases q<;>first|cases hz|skip
  have g1:=lF h;have g2:=lF h';simp only[ad] at e;congr 1;omega
 |head a=>
  cases q<;>first|cases hz|skip
  have g1:=ZO h;have g2:=ZO h';simp only[ad] at e;congr 1;omega
 |NS i=>
  cases q<;>first|cases hz|skip
  ·have:=Oe hL (by omega) (by omega) h e;rw[this.1]
  ·have:=Oe hL (by omega) (by omega) h e;omega
  rename_i k j;obtain⟨g1,g2⟩:=P9 (i:=k) (j:=j) h';have:=Oe hL (by omega) (by omega) h (e.trans g2);omega
 |DJ i=>
  cases q<;>first|cases hz|skip
  ·have:=Oe hL (by omega) (by omega) h e;omega
  ·have:=Oe hL (by omega) (by omega) h e;rw[this.1]
  rename_i k j;obtain⟨g1,g2⟩:=P9 (i:=k) (j:=j) h';have:=Oe hL (by omega) (by omega) h (e.trans g2);omega
 |entry i m=>
  obtain⟨f1,f2⟩:=P9 (i:=i) (j:=m) h;have h2:0≤M.Ja i (2+m):=by rw[←f2];exact h
  have e2:M.Ja i (2+m)=_:=f2.symm.trans e;cases q<;>first|cases hz|skip
  ·have:=Oe hL (by omega) (by omega) h2 e2;omega
  ·have:=Oe hL (by omega) (by omega) h2 e2;omega
  rename_i k j;obtain⟨g1,g2⟩:=P9 (i:=k) (j:=j) h';have:=Oe hL (by omega) (by omega) h2 (e2.trans g2);rw[this.1];congr 1;omega
 |Bq i=>
  have k1:=Fz (p:=i) (j:=0) h;cases q<;>first|cases hz|skip
  ·rename_i k;have k2:=Fz (p:=k) (j:=0) h';simp only[ad,Bz.FZ] at e;congr 1;omega
  ·rename_i k;have k2:=Fz (p:=k) (j:=1) h';simp only[ad,Bz.FZ,Bz.FI] at e;omega
  rename_i k j;obtain⟨g1,g2⟩:=Ry (p:=k) (j:=j) h';have h3:0≤M.BI k (2+j):=by rw[←g2];exact h'
  have k2:=Fz h3;have e3:M.BI i 0=M.BI k (2+j):=e.trans g2;omega
 |Cf i=>
  have k1:=Fz (p:=i) (j:=1) h;cases q<;>first|cases hz|skip
  ·rename_i k;have k2:=Fz (p:=k) (j:=0) h';simp only[ad,Bz.FZ,Bz.FI] at e;omega
  ·rename_i k;have k2:=Fz (p:=k) (j:=1) h';simp only[ad,Bz.FI] at e;congr 1;omega
  rename_i k j;obtain⟨g1,g2⟩:=Ry (p:=k) (j:=j) h';have h3:0≤M.BI k (2+j):=by rw[←g2];exact h'
  have k2:=Fz h3;have e3:M.BI i 1=M.BI k (2+j):=e.trans g2;omega
 |BN i m=>
  obtain⟨f1,f2⟩:=Ry (p:=i) (j:=m) h;have h2:0≤M.BI i (2+m):=by rw[←f2];exact h
  have k1:=Fz h2;have e2:M.BI i (2+m)=_:=f2.symm.trans e;cases q<;>first|cases hz|skip
  ·rename_i k;have k2:=Fz (p:=k) (j:=0) h';simp only[ad,Bz.FZ] at e2;omega
  ·rename_i k;have k2:=Fz (p:=k) (j:=1) h';simp only[ad,Bz.FI] at e2;omega
  rename_i k j;obtain⟨g1,g2⟩:=Ry (p:=k) (j:=j) h';have h3:0≤M.BI k (2+j):=by rw[←g2];exact h'
  have k2:=Fz h3;have e3:=e2.trans g2;have:i=k:=by omega
  subst this;congr 1;omega
 |_=>exact absurd rfl h5
theorem DU(hL:La M){p q:Pl}(h:p≠q):ld (put l (ad M p) v) (ad M q)=ld l (ad M q):=
 Ay fun e=>Int.not_le.1 fun h0=>h (qT hL e h0)
end
open Go.Proofs.YtmpcfamcbaineaaGreat.Mo
section
variable{c bo ao:Int}
def bot(M:Bz)(l:Dk)(i:Int):Int:=ld l (M.IZ i)
theorem rA(h:a<0):ld l a=0:=xZ fun g=>by unfold Mo.QS at g;omega
theorem Qy{old:Int}(h:KX l a old=true):QS l a∧ld l a=old:=of_decide_eq_true h
theorem Ty(hL:La M)(h1:1≤p)(h2:p≤M.Bq)(h3:0≤j)(h4:j<4):0≤M.Gp p j:=by
 unfold Bz.Gp Bz.BI;rw[if_neg (by omega),if_neg (by omega)];have:=hL.Mz;have:=hL.Tw;have:=hL.WT;have:=hL.head;have:=hL.mu;omega
end
open Go.Proofs.YtmpcfamcbaineaaGreat.Mo
section
variable{c bo ao i:Int}
theorem IA{x:Int}(h:0≤x∧x<18446744073709551616):Hm x=x:=by unfold Hm;omega
theorem KV(h:0≤b∧b<1000000):Hm (Hm (b-1)+1)=b:=by unfold Hm;omega
theorem K1{t:Int}(hb:0≤b∧b<1000000)(ht:0≤t∧t<1000000)(h: ¬QN t (Hm (b-1))>0):t≤b-1:=by
 unfold QN Hm at h;split at h<;>omega
theorem K2{x t:Int}(hb:0≤b∧b<1000000)(ht:0≤t∧t<1000000)(hx:x=b∨x=Hm (b-1))(h: ¬QN x t≤0):t<b:=by
 unfold QN at h;unfold Hm at h hx;split at h<;>omega
theorem K3(hL:La M)(hi:0≤i)(hi':i<M.Ai):0≤ad M (.DJ i):=by
 show 0≤M.Ja i 1;rw[ZP hi hi'];have:=Int.mul_nonneg hi (show 0≤2+M.BK by have:=hL.dq;omega);have:=hL.WT;have:=hL.head;have:=hL.mu;omega
theorem Yf(hL:La M)(hi:0≤i)(hi':i<M.Ai)(b:Int):(M.CS i).at_ b=M.IJ i (b % M.BK):=by
 have:=hL.dq;have h0:0≤b % M.BK∧b % M.BK<M.BK:=⟨Int.emod_nonneg _ (by omega),Int.emod_lt_of_pos _ (by omega)⟩;unfold Bz.CS uC.at_;show M.IJ i 0+b % max M.BK 1=_;rw[show max M.BK 1=M.BK by omega];unfold Bz.IJ;rw[if_neg (by omega),if_neg (by omega),ZP hi hi',ZP hi hi'];omega
end
open Go.Proofs.YtmpcfamcbaineaaGreat.Mo
section
variable{c bo ao i:Int}
theorem sK(hL:La M)(hi:0≤i)(hi':i<M.Ai):0≤ad M (.entry i (b % M.BK)):=by
 have:=hL.dq;have h0:0≤b % M.BK∧b % M.BK<M.BK:=⟨Int.emod_nonneg _ (by omega),Int.emod_lt_of_pos _ (by omega)⟩;show 0≤M.IJ i (b % M.BK);unfold Bz.IJ;rw[if_neg (by omega),ZP hi hi'];have:=Int.mul_nonneg hi (show 0≤2+M.BK by have:=hL.dq;omega);have:=hL.WT;have:=hL.head;have:=hL.mu;omega
structure ol (M:Bz):Prop where
 En: ∀v j,ld M.first (M.H8 v j)=0
 state: ∀v,ld M.first (M.DK v)=1→v=M.nodes
end
open Go.Proofs.YtmpcfamcbaineaaGreat.Mo
section
variable{c bo ao i:Int}
theorem TV(hL:La M){i:Int}(h:JR M.Ai i dr≥0):0≤JR M.Ai i dr∧JR M.Ai i dr<M.Ai:=by
 unfold JR at h⊢
 split
 ·rename_i g;rw[if_pos g] at h;omega
 have h0:0<M.Ai:=by have:=hL.mks;omega
 have a1:=Int.emod_nonneg dr (show M.Ai≠0 by omega);have a2:=Int.emod_lt_of_pos dr h0;have a3:=Int.emod_nonneg (dr % M.Ai+1) (show M.Ai≠0 by omega);have a4:=Int.emod_lt_of_pos (dr % M.Ai+1) h0;split<;>omega
end
open Go.Proofs.YtmpcfamcbaineaaGreat.Mo
section
variable{c bo ao i:Int}
def ph(d:Nat):Int:=[0,1,1,2,2,3,3,4,4,4,4,4,5,5].getD d 0
theorem x8(d:Nat):0≤ph d∧ph d≤5:=by
 rcases(show d<14∨14≤d by omega) with h|h
 ·have:d=0∨d=1∨d=2∨d=3∨d=4∨d=5∨d=6∨d=7∨d=8∨d=9∨d=10∨d=11∨d=12∨d=13:=by omega
  rcases this with rfl|rfl|rfl|rfl|rfl|rfl|rfl|rfl|rfl|rfl|rfl|rfl|rfl|rfl<;>decide
 unfold ph;rw[List.getD_eq_getElem?_getD,List.getElem?_eq_none (by simpa using h)];decide
theorem K4(hd:d≤13):(ph d=1→d=1∨d=2)∧(ph d=2→d=3∨d=4)∧(ph d=3→d=5∨d=6)∧(ph d=5→d=12∨d=13):=by
 have:d=0∨d=1∨d=2∨d=3∨d=4∨d=5∨d=6∨d=7∨d=8∨d=9∨d=10∨d=11∨d=12∨d=13:=by omega
 rcases this with rfl|rfl|rfl|rfl|rfl|rfl|rfl|rfl|rfl|rfl|rfl|rfl|rfl|rfl<;>decide
end
open Go.Proofs.YtmpcfamcbaineaaGreat.Mo
section
variable{c bo ao i:Int}
theorem rB(hL:La M)(hi:0≤i)(hi':i<M.Ak):0≤ad M (.Jq i):=by
 show 0≤M.O8 i;unfold Bz.O8;rw[if_neg (by omega)];have:=hL.Jq;omega
end
open Go.Proofs.YtmpcfamcbaineaaGreat.Mo
section
variable{c bo ao i:Int}
theorem K5:ad M (.FW 0)=0:=rfl
theorem rI:ad M (.FW 2)=2:=rfl
theorem rK:ad M (.FW 3)=3:=rfl
end
open Go.Proofs.YtmpcfamcbaineaaGreat.Mo
section
variable{c bo ao i:Int}
end
open Go.Proofs.YtmpcfamcbaineaaGreat.Mo
theorem jr: ∀(l:List Int) (a:Int) (i k:Nat),(∀r∈l,1≤r∧r≤16)→i<k→k<l.length→(KY l a).getD i 0+(4+l.getD i 0)≤(KY l a).getD k 0
 |[],_,_,_,_,_,h=>by simp at h
 |x::l,a,0,k+1,h,_,hk=>by
  have:=Yp l (a+(4+x)) k (fun r hr=>h r (by simp[hr])) (by simpa using hk);simp only[KY,List.getD_cons_succ,List.getD_cons_zero];omega
 |x::l,a,i+1,k+1,h,hi,hk=>by
  have:=jr l (a+(4+x)) i k (fun r hr=>h r (by simp[hr])) (by omega) (by simpa using hk);simp only[KY,List.getD_cons_succ];omega
theorem La.of(h:c.Ok):La c.map:=by
 obtain⟨h1,h2,h3⟩:=Fj.nums h;have hr: ∀v,1≤v→v≤c.map.nodes→1≤c.map.CU v∧c.map.CU v≤16:=fun v g1 g2=>I7 h ⟨g1,g2⟩
 refine⟨h.Ai,h.Ak,h.BK,h.EE,h.CQ,h.nodes,rfl,rfl,rfl,h1,h3,rfl,rfl,iF h,hr,fun v j g1 g2 g3 g4=>Ur h ⟨g1,g2⟩ ⟨g3,g4⟩,?_,VQ⟩;intro v j w k v1 v2 j0 j1 w1 w2 k0 k1 e;rw[Yt h ⟨v1,v2⟩,Yt h ⟨w1,w2⟩] at e;rw[Py ⟨v1,v2⟩] at j1;rw[Py ⟨w1,w2⟩] at k1;have hl:c.BM.length=c.nodes.toNat:=Il c;have v2':v≤c.nodes:=v2;have w2':w≤c.nodes:=w2;have lt: ∀a b:Int,1≤a→a<b→b≤c.nodes→(KY c.BM c.DW).getD (a-1).toNat 0+(4+c.BM.getD (a-1).toNat 0)≤(KY c.BM c.DW).getD (b-1).toNat 0:=
  fun a b g1 g2 g3=>jr c.BM c.DW _ _ (RP h) (by omega) (by omega)
 rcases(show v<w∨v=w∨w<v by omega) with g|g|g
 ·have:=lt v w v1 g w2';omega
 ·subst g;exact⟨rfl,by omega⟩
 have:=lt w v w1 g v2';omega
section
variable{c bo ao i:Int}
theorem Qz(h:0≤a):l.set a.toNat v=put l a v:=by
 unfold put;split
 ·rfl
 rename_i g;exact List.set_eq_of_length_le (by unfold QS at g;omega)
theorem TH(h:0≤a):l.getD a.toNat 0=ld l a:=by
 unfold ld;split
 ·rfl
 rename_i g;rw[List.getD_eq_getElem?_getD,List.getElem?_eq_none (by unfold QS at g;omega)];rfl
theorem JJ(hL:La M)(h1:1≤v)(h2:v≤M.nodes)(h3:0≤j)(h4:j<4):0≤M.node v j:=by
 have:=hL.BM v h1 h2;have:=(hL.node v j h1 h2 h3 (by omega)).1;have:=hL.DW;have:=hL.Mz;have:=hL.Tw;have:=hL.WT;have:=hL.head;have:=hL.mu;have:=hL.Bq;omega
theorem Vx(hL:La M)(h1:1≤p)(h2:p≤M.Bq):0≤ad M (.Cf p):=by
 show 0≤M.BI p 1;unfold Bz.BI;rw[if_neg (by omega)];have:=hL.Mz;have:=hL.Tw;have:=hL.WT;have:=hL.head;have:=hL.mu;omega
theorem lJ(hL:La M){k:Int}(h1:0≤k)(h2:k<5):0≤ad M (.head k):=by
 show 0≤M.Eg k;unfold Bz.Eg;rw[if_neg (by omega)];have:=hL.head;have:=hL.mu;omega
theorem WU(hL:La M){p:Pl}(hp: ∀q,p≠ .Cf q): ∀(n k:Nat) (l:Dk),1≤k→(k:Int)+n≤M.Bq+1→ld (Mc M n k l) (ad M p)=ld l (ad M p)
 |0,_,_,_,_=>rfl
 |n+1,k,l,h1,h2=>by
  unfold Mo.Mc;rw[WU hL hp n (k+1) _ (by omega) (by omega),show M.FI k=ad M (.Cf k) from rfl,Qz (Vx hL (by omega) (by omega))];exact DU hL (fun e=>hp _ e.symm)
def x9(M:Bz):Prop:= ∀v,1≤v→v≤M.nodes→0≤M.Ew v∧M.Ew v<5
theorem ZQ(hL:La M)(hC:x9 M){v:Nat}(hv:(v:Int)+1≤M.nodes):
  (l.set (M.Next ((v:Int)+1)).toNat (l.getD (M.Eg (M.Ew ((v:Int)+1))).toNat 0)).set (M.Eg (M.Ew ((v:Int)+1))).toNat ((v:Int)+1)=put (put l (ad M (.next ((v:Int)+1))) (ld l (ad M (.head (M.Ew ((v:Int)+1)))))) (ad M (.head (M.Ew ((v:Int)+1)))) ((v:Int)+1):=by
 have hc:=hC _ (show 1≤(v:Int)+1 by omega) hv;have h1:0≤M.Eg (M.Ew ((v:Int)+1)):=lJ hL hc.1 hc.2;rw[TH h1,Qz h1,Qz (show 0≤M.Next ((v:Int)+1) from JJ hL (by omega) hv (by omega) (by omega))];rfl
theorem Oo(hL:La M)(hC:x9 M){p:Pl}(hp: ∀q,p≠ .next q)(hp': ∀q,p≠ .head q): ∀(v:Nat) (l:Dk),(v:Int)≤M.nodes→ld (NG M v l) (ad M p)=ld l (ad M p)
 |0,_,_=>rfl
 |v+1,l,h=>by
  unfold Mo.NG;rw[Oo hL hC hp hp' v _ (by omega),ZQ hL hC (by omega),DU hL (fun e=>hp' _ e.symm),DU hL (fun e=>hp _ e.symm)]
theorem K6:ld (List.replicate k 0) a=0:=by
 unfold ld;split
 ·rw[List.getD_eq_getElem?_getD,List.getElem?_replicate];split<;>rfl
 rfl
def DX(M:Bz):Dk:=put (put (Mc M (M.Bq-1).toNat 1 (put (List.replicate M.all.toNat 0) 5 1)) (M.DK M.nodes) 1) (M.D7 M.nodes) (M.CU M.nodes)
theorem MJ(hL:La M):M.first=NG M (M.nodes-1).toNat (DX M):=by
 unfold Bz.first DX;rw[show(List.replicate M.all.toNat (0:Int)).set 5 1=put (List.replicate M.all.toNat 0) 5 1 from Qz (a:=5) (by omega),Qz (show 0≤M.DK M.nodes from JJ hL hL.nn.1 (Int.le_refl _) (by omega) (by omega)),Qz (show 0≤M.D7 M.nodes from JJ hL hL.nn.1 (Int.le_refl _) (by omega) (by omega))]
theorem K8(hL:La M):(DX M).length=M.all.toNat:=by
 unfold DX;rw[Hf,Hf,Ox,Hf,List.length_replicate]
theorem TO:ad M (.FW 5)=5:=rfl
theorem jv(hL:La M)(hm:1≤M.Bq){p:Pl}(h1: ∀q,p≠ .Cf q)(h2:p≠ .FW 5)(h3:p≠ .state M.nodes)(h4:p≠ .Ea M.nodes):ld (DX M) (ad M p)=0:=by
 unfold DX;rw[show M.D7 M.nodes=ad M (.Ea M.nodes) from rfl,DU hL (fun e=>h4 e.symm),show M.DK M.nodes=ad M (.state M.nodes) from rfl,DU hL (fun e=>h3 e.symm),WU hL h1 _ _ _ (by omega) (by omega),←TO (M:=M),DU hL (fun e=>h2 e.symm)];exact K6
theorem ZR(hL:La M)(hC:x9 M)(hm:1≤M.Bq){p:Pl}(h1: ∀q,p≠ .Cf q)(h2:p≠ .FW 5)(h3:p≠ .state M.nodes)(h4:p≠ .Ea M.nodes)(h5: ∀q,p≠ .next q)(h6: ∀q,p≠ .head q):ld M.first (ad M p)=0:=by
 rw[MJ hL,Oo hL hC h5 h6 _ _ (by have:=hL.nn;omega)];exact jv hL hm h1 h2 h3 h4
theorem XC(hL:La M)(hC:x9 M):ld M.first (M.DK M.nodes)=1:=by
 rw[MJ hL,show M.DK M.nodes=ad M (.state M.nodes) from rfl,Oo hL hC (by simp) (by simp) _ _ (by have:=hL.nn;omega)];unfold DX;rw[show M.D7 M.nodes=ad M (.Ea M.nodes) from rfl,DU hL (by simp)];have h0:0≤ad M (.state M.nodes):=JJ hL hL.nn.1 (Int.le_refl _) (by omega) (by omega);refine Ei ⟨h0,?_⟩;rw[Ox,Hf,List.length_replicate];have:=KJ hL h0;show ad M (.state M.nodes)<_;omega
theorem ol.of(hL:La M)(hC:x9 M)(hm:1≤M.Bq):ol M:=by
 refine⟨fun v j=>ZR (p:= .En v j) hL hC hm (by simp) (by simp) (by simp) (by simp) (by simp) (by simp),fun v h=>?_⟩;by_cases e:v=M.nodes
 ·exact e
 have:=ZR (p:= .state v) hL hC hm (by simp) (by simp) (by simp[e]) (by simp) (by simp) (by simp);rw[show M.DK v=ad M (.state v) from rfl,this] at h;omega
end
open Go.Proofs.YtmpcfamcbaineaaGreat.Mo
section
def sN(M:Bz)(k:Int):Nat→Nat→List Int
 |0,_=>[]
 |m+1,v=>if M.Ew ((v:Int)+1)=k then((v:Int)+1)::sN M k m (v+1) else sN M k m (v+1)
theorem SV{k:Int}{u:Int}: ∀{m v:Nat},u∈sN M k m v↔(v:Int)<u∧u≤v+m∧M.Ew u=k
 |0,v=>by simp only[sN,List.not_mem_nil,false_iff];omega
 |m+1,v=>by
  have ih:=SV (k:=k) (u:=u) (m:=m) (v:=v+1);unfold sN;split
  ·rename_i hc;rw[List.mem_cons,ih];constructor
   ·rintro(rfl|h)
    ·exact⟨by omega,by omega,hc⟩
    exact⟨by omega,by omega,h.2.2⟩
   rintro⟨h1,h2,h3⟩;by_cases e:u=(v:Int)+1
   ·exact .inl e
   exact .inr ⟨by omega,by omega,h3⟩
  rename_i hc;rw[ih];constructor
  ·rintro⟨h1,h2,h3⟩;exact⟨by omega,by omega,h3⟩
  rintro⟨h1,h2,h3⟩;have:u≠(v:Int)+1:=fun e=>hc (e▸h3)
  exact⟨by omega,by omega,h3⟩
theorem WW{k:Int}: ∀{m v:Nat},(sN M k m v).Nodup
 |0,_=>List.nodup_nil
 |m+1,v=>by
  unfold sN;split
  ·refine List.nodup_cons.2 ⟨fun h=>?_,WW⟩;have:=(SV.1 h).1;omega
  exact WW
def bO(M:Bz)(l:Dk):Int→List Int→Prop
 |a,[]=>ld l a=0
 |a,u::us=>ld l a=u∧bO M l (M.Next u) us
theorem bO.move: ∀{L:List Int} {a a':Int},bO M l a L→ld l' a'=ld l a→(∀u∈L,ld l' (M.Next u)=ld l (M.Next u))→bO M l' a' L
 |[],a,a',h,e,_=>by
  show ld l' a'=0;rw[e];exact h
 |u::us,a,a',h,e,hn=>⟨by rw[e];exact h.1,h.2.move (hn u (List.mem_cons_self ..)) (fun x hx=>hn x (List.mem_cons_of_mem _ hx))⟩
theorem ZT(hL:La M)(hC:x9 M){n0:Nat}(h0:(n0:Int)<M.nodes): ∀(v:Nat) (l:Dk),v≤n0→l.length=M.all.toNat→(∀k,0≤k→k<5→bO M l (M.Eg k) (sN M k (n0-v) v))→ ∀k,0≤k→k<5→bO M (NG M v l) (M.Eg k) (sN M k n0 0)
 |0,l,_,_,h=>h
 |v+1,l,hv,hlen,h=>by
  unfold Mo.NG;intro k hk0 hk5;have hc:=hC ((v:Int)+1) (by omega) (by omega);refine ZT hL hC h0 v _ (by omega) (by simp only[List.length_set];exact hlen) (fun k k0 k5=>?_) k hk0 hk5;rw[ZQ hL hC (by omega)];have hin1:0≤ad M (.next ((v:Int)+1)):=JJ hL (by omega) (by omega) (by omega) (by omega);have hin2:0≤ad M (.head (M.Ew ((v:Int)+1))):=lJ hL hc.1 hc.2;have hr1:=KJ hL hin1;have hr2:=KJ hL hin2;have eN: ∀x:Int,x≠(v:Int)+1→ld (put (put l (ad M (.next ((v:Int)+1))) (ld l (ad M (.head (M.Ew ((v:Int)+1)))))) (ad M (.head (M.Ew ((v:Int)+1)))) ((v:Int)+1)) (M.Next x)=ld l (M.Next x):=fun x hx=>by
   rw[show M.Next x=ad M (.next x) from rfl,DU hL (by simp),DU hL (by simp;omega)]
  have hsplit:n0-v=(n0-(v+1))+1:=by omega
  rw[hsplit];unfold sN;have hne: ∀u∈sN M k (n0-(v+1)) (v+1),u≠(v:Int)+1:=fun u hu=>by
   have:=(SV.1 hu).1;omega
  split
  ·rename_i e;refine⟨?_,(h k k0 k5).move ?_ (fun u hu=>eN u (hne u hu))⟩
   ·rw[e];rw[e] at hin2 hr2;exact Ei ⟨hin2,by rw[Hf,hlen];omega⟩
   rw[show M.Next ((v:Int)+1)=ad M (.next ((v:Int)+1)) from rfl,DU hL (by simp),Ei ⟨hin1,by rw[hlen];omega⟩,e];rfl
  rename_i e;refine(h k k0 k5).move ?_ (fun u hu=>eN u (hne u hu));rw[show M.Eg k=ad M (.head k) from rfl,DU hL (by simp;exact e),DU hL (by simp)]
theorem AC(hL:La M)(hC:x9 M)(hm:1≤M.Bq){k:Int}(k0:0≤k)(k5:k<5):bO M M.first (M.Eg k) (sN M k (M.nodes-1).toNat 0):=by
 have hn:=hL.nn;rw[MJ hL];refine ZT hL hC (by omega) _ _ (Nat.le_refl _) (K8 hL) (fun j j0 j5=>?_) k k0 k5;rw[Nat.sub_self];exact jv (p:= .head j) hL hm (by simp) (by simp) (by simp) (by simp)
end
open Go.Proofs.YtmpcfamcbaineaaGreat.Mo
section
theorem Yg{h x:Int}(hx:0≤x∧x<4294967296):hi (pair h x)=h:=by unfold hi pair;omega
theorem Vy{h x:Int}(hx:0≤x∧x<4294967296):lo (pair h x)=x:=by unfold lo pair;omega
theorem KF(w:Int):0≤lo w∧lo w<4294967296:=by unfold lo;omega
theorem Kv(w:Int):0≤NR w∧NR w<4294967296:=by unfold NR;omega
theorem WX{x:Int}(h:0≤x∧x<4294967296):NR x=x:=by unfold NR;omega
theorem lK{x:Int}(hw:0≤hi w∧hi w<4294967295)(hx:0≤x∧x<4294967296):hi (Bg w x)=hi w+1:=by
 unfold Bg;rw[Yg hx,WX (by omega)]
theorem lL{x:Int}(hx:0≤x∧x<4294967296):lo (Bg w x)=x:=by unfold Bg;exact Vy hx
def lp(node:Bool)(q:Int):Pl:=if node=true then .next q else .Cf q
theorem gV{node:Bool}{q:Int}:ad M (lp node q)=M.Cf node q:=by
 unfold lp Bz.Cf;cases node<;>rfl
def Ch(M:Bz)(node:Bool)(l:Dk):Int→List Int→Prop
 |u,[]=>u=0
 |u,v::L=>u=v∧v≠0∧Ch M node l (NR (ld l (M.Cf node v))) L
theorem Ch.frame{node:Bool}: ∀{L:List Int} {u:Int},Ch M node l u L→(∀v∈L,ld l' (M.Cf node v)=ld l (M.Cf node v))→Ch M node l' u L
 |[],_,h,_=>h
 |v::L,u,h,e=>⟨h.1,h.2.1,by rw[e v (List.mem_cons_self ..)];exact h.2.2.frame fun x hx=>e x (List.mem_cons_of_mem _ hx)⟩
theorem Ch.TX{node:Bool}{u:Int}(h:Ch M node l u L):u=0↔L=[]:=by
 cases L with
 |nil=>exact⟨fun _=>rfl,fun _=>h⟩
 |cons v L=>exact⟨fun e=>absurd (h.1▸e) h.2.1,fun e=>by cases e⟩
theorem Ch.Yh{node:Bool}{u:Int}(h:Ch M node l u L)(hu:u≠0): ∃L',L=u::L'∧Ch M node l (NR (ld l (M.Cf node u))) L':=by
 cases L with
 |nil=>exact absurd h hu
 |cons v L=>obtain⟨rfl,h1,h2⟩:=h;exact⟨L,rfl,h2⟩
def LM(x:St):Prop:=x.next= .MS∨x.next= .MV∨x.next= .J4
def Nv(x:St):Prop:=x.next= .MO∨x.next= .OV∨x.next= .Hy
def MA(l:Dk)(a h:Int):Prop:=hi h≤hi (ld l a)∧(hi h=hi (ld l a)→h=ld l a)
def sI(M:Bz)(l:Dk)(x:St):Prop:=
 match x.next with
 | .MV=>x.Cf=lo x.h
 | .J4=>x.Cf=lo x.h∧ld l (M.Cf x.node x.BO)=x.Cf
 | .OV=>MA l x.head x.h∧x.BO=lo x.h∧x.BO≠0
 | .Hy=>MA l x.head x.h∧x.BO=lo x.h∧x.BO≠0∧(ld l x.head=x.h→x.Cf=NR (ld l (M.Cf x.node x.BO)))
 |_=>True
def Hd(l l':Dk)(a:Int):Prop:=ld l' a=ld l a∨hi (ld l a)<hi (ld l' a)
theorem MA.mono{h:Int}(ht:MA l a h)(hd:Hd l l' a):MA l' a h∧(ld l' a=h→ld l a=h∧ld l' a=ld l a):=by
 rcases hd with e|e
 ·unfold MA;rw[e];exact⟨ht,fun g=>⟨g,rfl⟩⟩
 refine⟨⟨by have:=ht.1;omega,fun g=>by have:=ht.1;omega⟩,fun g=>?_⟩;have:=ht.1;rw[g] at e;omega
theorem sI.mono{x:St}(h:sI M l x)(hc:Nv x→Ch M x.node l (lo (ld l x.head)) L)(hd:Hd l l' x.head)(hown:LM x→ld l' (M.Cf x.node x.BO)=ld l (M.Cf x.node x.BO))
  (hin:Nv x→ld l' x.head=ld l x.head→ ∀v∈L,ld l' (M.Cf x.node v)=ld l (M.Cf x.node v)):sI M l' x:=by
 unfold sI at h⊢
 cases hx:x.next<;>rw[hx] at h<;>simp only at h⊢
 ·exact h
 ·rw[hown (.inr (.inr hx))];exact h
 ·exact⟨(h.1.mono hd).1,h.2⟩
 obtain⟨h1,h2,h3,h4⟩:=h;refine⟨(h1.mono hd).1,h2,h3,fun g=>?_⟩;obtain⟨g1,g2⟩:=(h1.mono hd).2 g;have hp:Nv x:= .inr (.inr hx);have hcc:=hc hp;have hlo:lo (ld l x.head)=x.BO:=by rw[g1,h2]
 obtain⟨L',e,-⟩:=hcc.Yh (by rw[hlo];exact h3);rw[hin hp g2 x.BO (by rw[e,hlo];exact List.mem_cons_self ..)];exact h4 g1
theorem jw(hL:La M){x:St}{hd:Pl}(hp:LM x)(hI:sI M l x)(hh:ad M hd=x.head)(hne: ∀q,hd≠lp x.node q)(hin:QS l x.head)(hlin:QS l (M.Cf x.node x.BO))
  (hc:Ch M x.node l (lo (ld l x.head)) L) (hit:0<x.BO∧x.BO<4294967296) (hni:x.BO∉L) (ht:0≤hi (ld l x.head)∧hi (ld l x.head)≤n) (hn:n<900000) (hinj: ∀v∈L,v≠x.BO):
  (x.step M l).1.BO=x.BO∧(x.step M l).1.head=x.head∧(x.step M l).1.node=x.node∧Hd l (x.step M l).2 x.head∧hi (ld (x.step M l).2 x.head)≤n+1∧0≤hi (ld (x.step M l).2 x.head)∧
   (∀p,p≠hd→p≠lp x.node x.BO→ld (x.step M l).2 (ad M p)=ld l (ad M p))∧(x.step M l).2.length=l.length∧
   ((LM (x.step M l).1∧sI M (x.step M l).2 (x.step M l).1∧Ch M x.node (x.step M l).2 (lo (ld (x.step M l).2 x.head)) L)∨
    ((x.step M l).1.next= .nil∧Ch M x.node (x.step M l).2 (lo (ld (x.step M l).2 x.head)) (x.BO::L))):=by
 have JL: ∀y:St,y.BO=x.BO→y.head=x.head→y.node=x.node→LM y→sI M l y→
   y.BO=x.BO∧y.head=x.head∧y.node=x.node∧Hd l l x.head∧hi (ld l x.head)≤n+1∧0≤hi (ld l x.head)∧(∀p,p≠hd→p≠lp x.node x.BO→ld l (ad M p)=ld l (ad M p))∧l.length=l.length∧
   ((LM y∧sI M l y∧Ch M x.node l (lo (ld l x.head)) L)∨(y.next= .nil∧Ch M x.node l (lo (ld l x.head)) (x.BO::L))):=
  fun y a b c d e=>⟨a,b,c,.inl rfl,by omega,ht.1,fun _ _ _=>rfl,rfl,.inl ⟨d,e,hc⟩⟩
 unfold sI at hI;rcases hp with hx|hx|hx
 ·unfold Mo.St.step;rw[hx];exact JL _ rfl rfl rfl (.inr (.inl rfl)) rfl
 ·rw[hx] at hI;unfold Mo.St.step;rw[hx];simp only;have hI:x.Cf=lo x.h:=hI;have eh:ld (put l (M.Cf x.node x.BO) x.Cf) x.head=ld l x.head:=by rw[←hh,←gV];exact DU hL (fun e=>hne _ e.symm)
  refine⟨trivial,trivial,trivial,.inl eh,by rw[eh];omega,by rw[eh];exact ht.1,fun p h1 h2=>?_,Hf ..,.inl ⟨.inr (.inr rfl),⟨hI,Ei hlin⟩,?_⟩⟩
  ·rw[←gV];exact DU hL (fun e=>h2 e.symm)
  rw[eh];refine hc.frame fun v hv=>?_
  rw[←gV,←gV];refine DU hL fun e=>hinj v hv ?_
  unfold lp at e;cases hb:x.node<;>rw[hb] at e<;>simp at e<;>exact e.symm
 rw[hx] at hI;obtain⟨h1,h2⟩:=hI;unfold Mo.St.step;rw[hx];simp only;by_cases hcas:KX l x.head x.h=true
 ·have he:=(Qy hcas).2;rw[if_pos hcas,show KL l x.head x.h (Bg x.h x.BO)=put l x.head (Bg x.h x.BO) from if_pos hcas];have ew:ld (put l x.head (Bg x.h x.BO)) x.head=Bg x.h x.BO:=Ei hin;have hhi:hi (Bg x.h x.BO)=hi x.h+1:=lK (by rw[←he];omega) (by omega);refine⟨rfl,rfl,rfl,.inr (by rw[ew,hhi,he];omega),by rw[ew,hhi,←he];omega,by rw[ew,hhi,←he];omega,fun p h1 h2=>?_,Hf ..,.inr ⟨rfl,?_⟩⟩
  ·rw[←hh];exact DU hL (fun e=>h1 e.symm)
  rw[ew,lL (by omega)];have ln: ∀v,ld (put l x.head (Bg x.h x.BO)) (M.Cf x.node v)=ld l (M.Cf x.node v):=fun v=>by rw[←hh,←gV];exact DU hL (hne v)
  have e2:NR (ld (put l x.head (Bg x.h x.BO)) (M.Cf x.node x.BO))=lo (ld l x.head):=by rw[ln,h2,WX (by rw[h1];exact KF _),h1,he]
  refine⟨rfl,by omega,?_⟩;show Ch M x.node (put l x.head (Bg x.h x.BO)) (NR (ld (put l x.head (Bg x.h x.BO)) (M.Cf x.node x.BO))) L;rw[e2];exact hc.frame fun v _=>ln v
 rw[if_neg hcas,show KL l x.head x.h (Bg x.h x.BO)=l from if_neg hcas];exact JL _ rfl rfl rfl (.inl rfl) trivial
theorem rL(hL:La M){x:St}{hd:Pl}(hp:Nv x)(hI:sI M l x)(hh:ad M hd=x.head)(hne: ∀q,hd≠lp x.node q)(hin:QS l x.head)
  (hc:Ch M x.node l (lo (ld l x.head)) L) (ht:0≤hi (ld l x.head)∧hi (ld l x.head)≤n) (hn:n<900000):
  (x.step M l).1.head=x.head∧(x.step M l).1.node=x.node∧Hd l (x.step M l).2 x.head∧hi (ld (x.step M l).2 x.head)≤n+1∧0≤hi (ld (x.step M l).2 x.head)∧
   (∀p,p≠hd→ld (x.step M l).2 (ad M p)=ld l (ad M p))∧(x.step M l).2.length=l.length∧
   ((Nv (x.step M l).1∧sI M (x.step M l).2 (x.step M l).1∧Ch M x.node (x.step M l).2 (lo (ld (x.step M l).2 x.head)) L)∨
    ((x.step M l).1.next= .nil∧(x.step M l).1.BO=0∧(x.step M l).2=l∧L=[])∨
    ((x.step M l).1.next= .nil∧(x.step M l).1.BO≠0∧ ∃L',L=(x.step M l).1.BO::L'∧Ch M x.node (x.step M l).2 (lo (ld (x.step M l).2 x.head)) L')):=by
 have JL: ∀y:St,y.head=x.head→y.node=x.node→
   ((Nv y∧sI M l y∧Ch M x.node l (lo (ld l x.head)) L)∨(y.next= .nil∧y.BO=0∧l=l∧L=[])∨(y.next= .nil∧y.BO≠0∧ ∃L',L=y.BO::L'∧Ch M x.node l (lo (ld l x.head)) L'))→
   y.head=x.head∧y.node=x.node∧Hd l l x.head∧hi (ld l x.head)≤n+1∧0≤hi (ld l x.head)∧(∀p,p≠hd→ld l (ad M p)=ld l (ad M p))∧l.length=l.length∧
   ((Nv y∧sI M l y∧Ch M x.node l (lo (ld l x.head)) L)∨(y.next= .nil∧y.BO=0∧l=l∧L=[])∨(y.next= .nil∧y.BO≠0∧ ∃L',L=y.BO::L'∧Ch M x.node l (lo (ld l x.head)) L')):=
  fun y b c d=>⟨b,c,.inl rfl,by omega,ht.1,fun _ _=>rfl,rfl,d⟩
 unfold sI at hI;rcases hp with hx|hx|hx
 ·unfold Mo.St.step;rw[hx];simp only;by_cases h0:lo (ld l x.head)=0
  ·rw[if_pos h0];exact JL _ rfl rfl (.inr (.inl ⟨rfl,h0,rfl,hc.TX.1 h0⟩))
  rw[if_neg h0];exact JL _ rfl rfl (.inl ⟨.inr (.inl rfl),⟨⟨Int.le_refl _,fun _=>rfl⟩,rfl,h0⟩,hc⟩)
 ·rw[hx] at hI;obtain⟨h1,h2,h3⟩:=hI;unfold Mo.St.step;rw[hx];exact JL _ rfl rfl (.inl ⟨.inr (.inr rfl),⟨h1,h2,h3,fun _=>rfl⟩,hc⟩)
 rw[hx] at hI;obtain⟨h1,h2,h3,h4⟩:=hI;unfold Mo.St.step;rw[hx];simp only;by_cases hcas:KX l x.head x.h=true
 ·have he:=(Qy hcas).2;have hlk:=h4 he;rw[if_pos hcas,show KL l x.head x.h (Bg x.h x.Cf)=put l x.head (Bg x.h x.Cf) from if_pos hcas];have hlr:0≤x.Cf∧x.Cf<4294967296:=by rw[hlk];exact Kv _
  have ew:ld (put l x.head (Bg x.h x.Cf)) x.head=Bg x.h x.Cf:=Ei hin;have hhi:hi (Bg x.h x.Cf)=hi x.h+1:=lK (by rw[←he];omega) hlr;have hlo:lo (ld l x.head)=x.BO:=by rw[he,h2]
  obtain⟨L',e,hc'⟩:=hc.Yh (by rw[hlo];exact h3);rw[hlo] at e hc';refine⟨rfl,rfl,.inr (by rw[ew,hhi,he];omega),by rw[ew,hhi,←he];omega,by rw[ew,hhi,←he];omega,fun p h1=>?_,Hf ..,.inr (.inr ⟨rfl,h3,L',e,?_⟩)⟩
  ·rw[←hh];exact DU hL (fun e=>h1 e.symm)
  have key:Ch M x.node (put l x.head (Bg x.h x.Cf)) (NR (ld l (M.Cf x.node x.BO))) L':=hc'.frame fun v _=>by rw[←hh,←gV];exact DU hL (hne v)
  show Ch M x.node (put l x.head (Bg x.h x.Cf)) (lo (ld (put l x.head (Bg x.h x.Cf)) x.head)) L';rw[ew,lL hlr];rw[←hlk] at key;exact key
 rw[if_neg hcas,show KL l x.head x.h (Bg x.h x.Cf)=l from if_neg hcas];exact JL _ rfl rfl (.inl ⟨.inl rfl,trivial,hc⟩)
end
open Go.Proofs.YtmpcfamcbaineaaGreat.Mo
section
variable{i lim:Int}
def tp(M:Bz)(l:Dk)(i:Int):Int:=ld l (M.VM i)
def en(M:Bz)(l:Dk)(i k:Int):Int:=ld l (M.IJ i (k % M.BK))
def WY(M:Bz)(l:Dk)(i t:Int):Nat→List Int
 |0=>[]
 |m+1=>en M l i t::WY M l i (t+1) m
def NY(M:Bz)(l:Dk)(i lim:Int):List Int:=WY M l i (tp M l i) (lim-tp M l i).toNat
theorem WZ: ∀(m:Nat) (t:Int),WY M l i t (m+1)=WY M l i t m++[en M l i (t+m)]
 |0,t=>by simp[WY]
 |m+1,t=>by
  show en M l i t::WY M l i (t+1) (m+1)=en M l i t::WY M l i (t+1) m++[en M l i (t+((m+1:Nat):Int))];rw[WZ m (t+1),show t+1+(m:Int)=t+((m+1:Nat):Int) by omega];rfl
theorem OI: ∀(m:Nat) (t:Int),(∀k,t≤k→k<t+m→en M l' i k=en M l i k)→WY M l' i t m=WY M l i t m
 |0,_,_=>rfl
 |m+1,t,h=>by
  show en M l' i t::WY M l' i (t+1) m=en M l i t::WY M l i (t+1) m;rw[h t (by omega) (by omega),OI m (t+1) fun k h0 h1=>h k (by omega) (by omega)]
structure VL (M:Bz) (n:Int) (l:Dk) (i lim:Int):Prop where
 t0:0≤tp M l i
 tl:tp M l i≤lim
 ln:lim≤n
 rm:lim-tp M l i≤M.BK
 bw:bot M l i=lim∨bot M l i=Hm (lim-1)
structure QP (M:Bz) (l l':Dk) (i lim lim':Int):Prop where
 le:tp M l i≤tp M l' i
 liv:tp M l' i=tp M l i→tp M l i<lim→tp M l i<lim'∧en M l' i (tp M l i)=en M l i (tp M l i)
 ND: ∀p,p≠ .NS i→p≠ .DJ i→(∀k,p≠ .entry i k)→ld l' (ad M p)=ld l (ad M p)
 len:l'.length=l.length
theorem QP.refl:QP M l l i lim lim:=⟨Int.le_refl _,fun _ h=>⟨h,rfl⟩,fun _ _ _ _=>rfl,rfl⟩
theorem rN(hL:La M)(h1:a<b)(h2:b<a+M.BK):a % M.BK≠b % M.BK:=fun e=>by
 have h3:(b-a) % M.BK=0:=Int.emod_eq_emod_iff_emod_sub_eq_zero.1 e.symm;rw[Int.emod_eq_of_lt (by omega) (by omega)] at h3;omega
def sO(M:Bz)(l:Dk)(i:Int)(m:Dq)(lim:Int)(H:List Int):Prop:=
 m.e=M.CS i∧match m.next with
 | .Oq=>bot M l i=lim∧m.JO=false∧H=[]
 | .Qh=>bot M l i=lim∧m.b=Hm (lim-1)∧m.JO=false∧H=[]
 | .Qi=>bot M l i=Hm (lim-1)∧m.b=Hm (lim-1)∧m.JO=false∧H=[]
 | .Lm=>0≤m.t∧m.t≤tp M l i∧m.JO=false∧(bot M l i=lim-1∧m.b=lim-1∧m.t=lim-1∧H=[]∨bot M l i=lim∧m.b=lim∧m.t<lim∧H=[en M l i lim])
 | .Hy=>bot M l i=lim-1∧m.b=lim-1∧m.t=lim-1∧0≤m.t∧m.t≤tp M l i∧m.w=en M l i (lim-1)∧H=[]
 | .MN=>bot M l i=Hm (lim-1)∧m.b=Hm (lim-1)∧H=(if m.JO=true then[m.w] else[])
 | .nil=>bot M l i=lim∧H=(if m.out=1 then[m.w] else[])
 |_=>False
theorem W9(hL:La M)(hl:l.length=M.all.toNat)(hi:0≤i)(hi':i<M.Ai):bot M (put l (M.IZ i) v) i=v:=
 Ei (a:=ad M (.DJ i)) ⟨K3 hL hi hi',by rw[hl];have:=KJ hL (K3 hL hi hi');omega⟩
theorem lM(hL:La M)(hi:0≤i)(hi':i<M.Ai):0≤ad M (.NS i):=by
 show 0≤M.Ja i 0;rw[ZP hi hi'];have:=Int.mul_nonneg hi (show 0≤2+M.BK by have:=hL.dq;omega);have:=hL.WT;have:=hL.head;have:=hL.mu;omega
theorem TI(hL:La M)(hl:l.length=M.all.toNat)(hi:0≤i)(hi':i<M.Ai):tp M (put l (M.VM i) v) i=v:=
 Ei (a:=ad M (.NS i)) ⟨lM hL hi hi',by rw[hl];have:=KJ hL (lM hL hi hi');omega⟩
theorem OJ(hL:La M):tp M (put l (M.IZ i) v) i=tp M l i:=DU hL (p:= .DJ i) (q:= .NS i) (by simp)
theorem Yi(hL:La M):bot M (put l (M.VM i) v) i=bot M l i:=DU hL (p:= .NS i) (q:= .DJ i) (by simp)
theorem K9(hL:La M){k:Int}:en M (put l (M.IZ i) v) i k=en M l i k:=DU hL (p:= .DJ i) (q:= .entry i _) (by simp)
theorem Lb(hL:La M){k:Int}:en M (put l (M.VM i) v) i k=en M l i k:=DU hL (p:= .NS i) (q:= .entry i _) (by simp)
theorem gW(hL:La M){k:Int}:tp M (put l (M.IJ i k) v) i=tp M l i:=DU hL (p:= .entry i k) (q:= .NS i) (by simp)
theorem Lf(hL:La M){k:Int}:bot M (put l (M.IJ i k) v) i=bot M l i:=DU hL (p:= .entry i k) (q:= .DJ i) (by simp)
theorem lN(hL:La M):NY M (put l (M.IZ i) v) i lim=NY M l i lim:=by
 unfold NY;rw[OJ hL];exact OI _ _ fun k _ _=>K9 hL
theorem T0(hL:La M):WY M (put l (M.VM i) v) i a m=WY M l i a m:=OI _ _ fun k _ _=>Lb hL
theorem lQ(hL:La M){lim':Int}(h:tp M l i<lim→tp M l i<lim'):QP M l (put l (M.IZ i) v) i lim lim':=
 ⟨by rw[OJ hL];exact Int.le_refl _,fun _ g=>⟨h g,K9 hL⟩,fun p _ h2 _=>DU hL (p:= .DJ i) (fun e=>h2 e.symm),Hf ..⟩
theorem jy(hL:La M)(hl:l.length=M.all.toNat)(hi:0≤i)(hi':i<M.Ai):QP M l (put l (M.VM i) (tp M l i+1)) i lim lim:=
 ⟨by rw[TI hL hl hi hi'];omega,fun e=>by rw[TI hL hl hi hi'] at e;omega,fun p h1 _ _=>DU hL (p:= .NS i) (fun e=>h1 e.symm),Hf ..⟩
theorem ku(hL:La M)(hl:l.length=M.all.toNat)(hi:0≤i)(hi':i<M.Ai){t:Int}(h0:0≤t)(h1:t<1000000):
  (KX l (M.VM i) t=true∧tp M l i=t∧KL l (M.VM i) t (Hm (t+1))=put l (M.VM i) (tp M l i+1))∨(KX l (M.VM i) t=false∧tp M l i≠t∧KL l (M.VM i) t (Hm (t+1))=l):=by
 have hin:QS l (ad M (.NS i)):=⟨lM hL hi hi',by rw[hl];have:=KJ hL (lM hL hi hi');omega⟩;by_cases e:tp M l i=t
 ·have hc:KX l (M.VM i) t=true:=decide_eq_true ⟨hin,e⟩;refine .inl ⟨hc,e,?_⟩;rw[show KL l (M.VM i) t (Hm (t+1))=put l (M.VM i) (Hm (t+1)) from if_pos hc,IA (by omega),e]
 have hc:KX l (M.VM i) t=false:=decide_eq_false fun g=>e g.2
 exact .inr ⟨hc,e,if_neg (by rw[hc];simp)⟩
theorem rR(hL:La M)(hl:l.length=M.all.toNat)(hi:0≤i)(hi':i<M.Ai)(hn:n<900000){m:Dq}(hw:VL M n l i lim)(h:sO M l i m lim H):
  ∃lim' H',VL M (n+1) (m.step l).2 i lim'∧sO M (m.step l).2 i (m.step l).1 lim' H'∧List.Perm (NY M (m.step l).2 i lim'++H') (NY M l i lim++H)∧QP M l (m.step l).2 i lim lim':=by
 obtain⟨h1,h2⟩:=h;have t0:=hw.t0;have tl:=hw.tl;have ln:=hw.ln;have rm:=hw.rm;have JL: ∀y:Dq,sO M l i y lim H→ ∃lim' H',VL M (n+1) l i lim'∧sO M l i y lim' H'∧List.Perm (NY M l i lim'++H') (NY M l i lim++H)∧QP M l l i lim lim':=
  fun y hy=>⟨lim,H,⟨t0,tl,by omega,rm,hw.bw⟩,hy,.refl _,.refl⟩
 unfold Dq.step;split<;>rename_i hx<;>rw[hx] at h2<;>simp only at h2
 ·exact JL m ⟨h1,by simp only[hx];exact h2⟩
 ·obtain⟨a1,a2,a3⟩:=h2;refine JL _ ⟨h1,a1,?_,a2,a3⟩;show Hm (ld l m.e.DJ-1)=_;rw[h1];show Hm (bot M l i-1)=_;rw[a1]
 ·obtain⟨a1,a2,a3,a4⟩:=h2;have e:m.e.DJ=M.IZ i:=by rw[h1];rfl
  rw[e];refine⟨lim,H,⟨by rw[OJ hL];exact t0,by rw[OJ hL];exact tl,by omega,by rw[OJ hL];exact rm,.inr (by rw[W9 hL hl hi hi',a2])⟩,⟨h1,by rw[W9 hL hl hi hi',a2],a2,a3,a4⟩,by rw[lN hL],lQ hL id⟩
 ·obtain⟨a1,a2,a3,a4⟩:=h2;subst a4;have et:ld l m.e.NS=tp M l i:=by rw[h1];rfl
  rw[et,a2];split
  ·exact JL _ ⟨h1,a1,rfl,by rw[a3];rfl⟩
  rename_i hd;have hle:=K1 (b:=lim) ⟨by omega,by omega⟩ ⟨t0,by omega⟩ hd;have hb:Hm (lim-1)=lim-1:=IA (by omega);by_cases hs:tp M l i=lim-1
  ·exact JL _ ⟨h1,t0,Int.le_refl _,a3,.inl ⟨by rw[a1,hb],hb,hs,rfl⟩⟩
  refine⟨lim-1,[en M l i (lim-1)],⟨t0,by show tp M l i≤lim-1;omega,by omega,by show lim-1-tp M l i≤_;omega,.inl (by rw[a1,hb])⟩,⟨h1,t0,Int.le_refl _,a3,.inr ⟨by rw[a1,hb],hb,by show tp M l i<lim-1;omega,rfl⟩⟩,?_,⟨Int.le_refl _,fun _ g=>⟨by omega,rfl⟩,fun _ _ _ _=>rfl,rfl⟩⟩;have:NY M l i lim=NY M l i (lim-1)++[en M l i (lim-1)]:=by
   unfold NY;rw[show(lim-tp M l i).toNat=(lim-1-tp M l i).toNat+1 by omega,WZ];congr 3;omega
  rw[this,List.append_nil]
 ·obtain⟨g0,g1,g2,a⟩:=h2;rcases a with⟨a1,a2,a3,a4⟩|⟨a1,a2,a3,a4⟩
  ·have hd: ¬QN m.b m.t>0:=by rw[a2,a3];unfold QN Hm;split<;>omega
   rw[if_neg hd];refine JL _ ⟨h1,a1,a2,a3,g0,g1,?_,a4⟩;show ld l (m.e.at_ m.b)=_;rw[h1,Yf hL hi hi',a2];rfl
  have hd:QN m.b m.t>0:=by rw[a2];unfold QN Hm;split<;>omega
  rw[if_pos hd];refine JL _ ⟨h1,a1,?_⟩;rw[a4];show _=[ld l (m.e.at_ m.b)];rw[h1,Yf hL hi hi',a2];rfl
 ·obtain⟨a1,a2,a3,g0,g1,a4,a5⟩:=h2;subst a5;have e:m.e.NS=M.VM i:=by rw[h1];rfl
  rw[e];have hb:Hm (lim-1)=lim-1:=IA (by omega);rcases ku hL hl hi hi' (t:=m.t) g0 (by omega) with⟨c1,c2,c3⟩|⟨c1,c2,c3⟩
  ·rw[c3,c1];refine⟨lim,[m.w],⟨by rw[TI hL hl hi hi'];omega,by rw[TI hL hl hi hi'];omega,by omega,by rw[TI hL hl hi hi'];omega,.inr (by rw[Yi hL,a1,hb])⟩,⟨h1,by rw[Yi hL,a1,hb],by rw[hb];exact a2,rfl⟩,?_,jy hL hl hi hi'⟩;have e1:NY M (put l (M.VM i) (tp M l i+1)) i lim=[]:=by
    unfold NY;rw[TI hL hl hi hi',show(lim-(tp M l i+1)).toNat=0 by omega];rfl
   have e2:NY M l i lim=[m.w]:=by
    unfold NY;rw[show(lim-tp M l i).toNat=1 by omega,a4,show lim-1=tp M l i by omega];rfl
   rw[e1,e2];exact .refl _
  rw[c3,c1];exact JL _ ⟨h1,by rw[a1,hb],by rw[hb];exact a2,rfl⟩
 obtain⟨a1,a2,a3⟩:=h2;have e:m.e.DJ=M.IZ i:=by rw[h1];rfl
 have eb:Hm (m.b+1)=lim:=by rw[a2];exact KV (by omega)
 rw[e,eb];have QQ: ∀y:Dq,y.e=m.e→y.next= .nil→H=(if y.out=1 then[y.w] else[])→ ∃lim' H',VL M (n+1) (put l (M.IZ i) lim) i lim'∧sO M (put l (M.IZ i) lim) i y lim' H'∧List.Perm (NY M (put l (M.IZ i) lim) i lim'++H') (NY M l i lim++H)∧QP M l (put l (M.IZ i) lim) i lim lim':=fun y y1 y2 y3=>
  ⟨lim,H,⟨by rw[OJ hL];exact t0,by rw[OJ hL];exact tl,by omega,by rw[OJ hL];exact rm,.inl (W9 hL hl hi hi')⟩,⟨y1.trans h1,by rw[y2];exact⟨W9 hL hl hi hi',y3⟩⟩,by rw[lN hL],lQ hL id⟩
 split
 ·rename_i rS;exact QQ _ rfl rfl (by rw[a3,if_pos rS];rfl)
 rename_i rS;exact QQ _ rfl rfl (by rw[a3,if_neg rS];rfl)
def RD(M:Bz)(l:Dk)(v:Int)(m:Dq)(lim:Int):Prop:=
 m.e=M.CS v∧match m.next with
 | .Kz=>True
 | .Ij=>0≤m.t∧m.t≤tp M l v
 | .KA=>0≤m.t∧m.t≤tp M l v∧(tp M l v=m.t→m.t<lim)
 | .JC=>0≤m.t∧m.t≤tp M l v∧(tp M l v=m.t→m.t<lim∧m.w=en M l v m.t)
 | .nil=>True
 |_=>False
theorem Lg(hL:La M)(hl:l.length=M.all.toNat)(hi:0≤v)(hi':v<M.Ai)(hn:n<900000){m:Dq}(hw:VL M n l v lim)(h:RD M l v m lim)(hnn:m.next≠ .nil):
  VL M (n+1) (m.step l).2 v lim∧RD M (m.step l).2 v (m.step l).1 lim∧QP M l (m.step l).2 v lim lim∧bot M (m.step l).2 v=bot M l v∧(∀k,en M (m.step l).2 v k=en M l v k)∧
   (((m.step l).1.next= .nil→(m.step l).1.out≠1)∧NY M (m.step l).2 v lim=NY M l v lim∨(m.step l).1.next= .nil∧(m.step l).1.out=1∧NY M l v lim=(m.step l).1.w::NY M (m.step l).2 v lim):=by
 obtain⟨h1,h2⟩:=h;have t0:=hw.t0;have tl:=hw.tl;have ln:=hw.ln;have rm:=hw.rm;have JL: ∀y:Dq,RD M l v y lim→(y.next= .nil→y.out≠1)→VL M (n+1) l v lim∧RD M l v y lim∧QP M l l v lim lim∧bot M l v=bot M l v∧(∀k,en M l v k=en M l v k)∧
   ((y.next= .nil→y.out≠1)∧NY M l v lim=NY M l v lim∨y.next= .nil∧y.out=1∧NY M l v lim=y.w::NY M l v lim):=fun y a b=>⟨⟨t0,tl,by omega,rm,hw.bw⟩,a,.refl,rfl,fun _=>rfl,.inl ⟨b,rfl⟩⟩
 cases hx:m.next<;>rw[hx] at h2<;>simp only at h2
 ·exact absurd hx hnn
 ·unfold Dq.step;rw[hx];refine JL _ ⟨h1,?_⟩ (fun g=>by cases g);show 0≤ld l m.e.NS∧ld l m.e.NS≤_;rw[h1];exact⟨t0,Int.le_refl _⟩
 ·unfold Dq.step;rw[hx];simp only;split
  ·exact JL _ ⟨h1,trivial⟩ (fun _ g=>by cases g)
  rename_i hd;refine JL _ ⟨h1,h2.1,h2.2,fun g=>?_⟩ (fun g=>by cases g);rw[h1] at hd;exact K2 (b:=lim) ⟨by omega,by omega⟩ ⟨h2.1,by have:=h2.2;omega⟩ hw.bw hd
 ·unfold Dq.step;rw[hx];refine JL _ ⟨h1,h2.1,h2.2.1,fun g=>⟨h2.2.2 g,?_⟩⟩ (fun g=>by cases g);show ld l (m.e.at_ m.t)=_;rw[h1,Yf hL hi hi'];rfl
 obtain⟨a1,a2,a3⟩:=h2;have e:m.e.NS=M.VM v:=by rw[h1];rfl
 unfold Dq.step;rw[hx];simp only;rw[e];rcases ku hL hl hi hi' (t:=m.t) a1 (by omega) with⟨c1,c2,c3⟩|⟨c1,c2,c3⟩
 ·rw[c3,if_pos c1];have a4:=a3 c2;refine⟨⟨by rw[TI hL hl hi hi'];omega,by rw[TI hL hl hi hi'];omega,by omega,by rw[TI hL hl hi hi'];omega,by rw[Yi hL];exact hw.bw⟩,⟨h1,trivial⟩,jy hL hl hi hi',Yi hL,fun k=>Lb hL,.inr ⟨rfl,rfl,?_⟩⟩;show NY M l v lim=m.w::NY M (put l (M.VM v) (tp M l v+1)) v lim;unfold NY;rw[TI hL hl hi hi',show(lim-tp M l v).toNat=(lim-(tp M l v+1)).toNat+1 by omega,T0 hL,a4.2,←c2];rfl
 rw[c3,if_neg (by rw[c1];simp)];exact JL _ ⟨h1,trivial⟩ (fun _ g=>by cases g)
def ZU(M:Bz)(l:Dk)(i:Int)(m:Dq)(lim w:Int):Prop:=
 m.e=M.CS i∧bot M l i=lim∧match m.next with
 | .L6=>m.w=w
 | .N7=>m.w=w∧m.b=lim
 | .L8=>m.w=w∧m.b=lim∧lim-tp M l i<M.BK
 | .Qg=>m.b=lim∧lim-tp M l i<M.BK∧en M l i lim=w
 |_=>False
theorem AD{t r:Int}(hb:0≤b∧b<1000000)(ht:0≤t∧t≤b)(h: ¬QN b t≥r):b-t<r:=by
 unfold QN Hm at h;split at h<;>omega
theorem T1(hL:La M)(hl:l.length=M.all.toNat)(hi:0≤i)(hi':i<M.Ai)(hn:n<900000){m:Dq}(hw:VL M n l i lim)(h:ZU M l i m lim w):
  (VL M (n+1) (m.step l).2 i lim∧ZU M (m.step l).2 i (m.step l).1 lim w∧NY M (m.step l).2 i lim=NY M l i lim∧QP M l (m.step l).2 i lim lim)∨
  ((m.step l).1.next= .nil∧(m.step l).1.out=2∧(m.step l).2=l)∨
  ((m.step l).1.next= .nil∧(m.step l).1.out≠2∧VL M (n+1) (m.step l).2 i (lim+1)∧bot M (m.step l).2 i=lim+1∧NY M (m.step l).2 i (lim+1)=NY M l i lim++[w]∧QP M l (m.step l).2 i lim (lim+1)):=by
 obtain⟨h1,h3,h2⟩:=h;have t0:=hw.t0;have tl:=hw.tl;have ln:=hw.ln;have rm:=hw.rm;have JL: ∀y:Dq,ZU M l i y lim w→VL M (n+1) l i lim∧ZU M l i y lim w∧NY M l i lim=NY M l i lim∧QP M l l i lim lim:=fun y hy=>⟨⟨t0,tl,by omega,rm,hw.bw⟩,hy,rfl,.refl⟩
 unfold Dq.step;split<;>rename_i hx<;>rw[hx] at h2<;>simp only at h2
 ·exact .inl (JL _ ⟨h1,h3,h2,by show ld l m.e.DJ=_;rw[h1];exact h3⟩)
 ·split
  ·exact .inr (.inl ⟨rfl,rfl,rfl⟩)
  rename_i hd;refine .inl (JL _ ⟨h1,h3,h2.1,h2.2,?_⟩);rw[h1,h2.2,show max (M.CS i).BM 1=M.BK by show max M.BK 1=_;have:=hL.dq;omega] at hd;exact AD ⟨by omega,by omega⟩ ⟨t0,tl⟩ hd
 ·obtain⟨a1,a2,a3⟩:=h2;have e:m.e.at_ m.b=M.IJ i (lim % M.BK):=by rw[h1,Yf hL hi hi',a2]
  rw[e];have hne: ∀k,k<lim→lim<k+M.BK→en M (put l (M.IJ i (lim % M.BK)) m.w) i k=en M l i k:=fun k k1 k2=>DU hL (p:= .entry i (lim % M.BK)) (q:= .entry i (k % M.BK)) (by
   have:=rN hL k1 k2;simp only[ne_eq,Pl.entry.injEq,true_and];exact fun g=>this g.symm)
  refine .inl ⟨⟨by rw[gW hL];exact t0,by rw[gW hL];exact tl,by omega,by rw[gW hL];exact rm,by rw[Lf hL];exact hw.bw⟩,⟨h1,by rw[Lf hL];exact h3,a2,by rw[gW hL];exact a3,?_⟩,?_,⟨by rw[gW hL];exact Int.le_refl _,fun _ g=>⟨g,hne _ g (by omega)⟩,fun p _ _ h=>DU hL (p:= .entry i (lim % M.BK)) (fun e=>h _ e.symm),Hf ..⟩⟩
  ·have:=Ei (l:=l) (a:=ad M (.entry i (lim % M.BK))) (v:=m.w) ⟨sK hL hi hi',by rw[hl];have:=KJ hL (sK hL hi hi' (b:=lim));omega⟩;rw[←a1];exact this
  show NY M (put l (M.IJ i (lim % M.BK)) m.w) i lim=_;unfold NY;rw[gW hL];exact OI _ _ fun k k1 k2=>hne k (by omega) (by omega)
 obtain⟨a1,a2,a3⟩:=h2;have e:m.e.DJ=M.IZ i:=by rw[h1];rfl
 have eb:Hm (m.b+1)=lim+1:=by rw[a1];exact IA (by omega)
 rw[e,eb];refine .inr (.inr ⟨rfl,by simp,⟨by rw[OJ hL];exact t0,by rw[OJ hL];omega,by omega,by rw[OJ hL];omega,.inl (W9 hL hl hi hi')⟩,W9 hL hl hi hi',?_,lQ hL (fun g=>by omega)⟩);show NY M (put l (M.IZ i) (lim+1)) i (lim+1)=_;rw[lN hL];unfold NY;rw[show(lim+1-tp M l i).toNat=(lim-tp M l i).toNat+1 by omega,WZ,show tp M l i+(((lim-tp M l i).toNat:Nat):Int)=lim by omega,a3]
end
open Go.Proofs.YtmpcfamcbaineaaGreat.Mo
section
def OL(M:Bz)(l:Dk)(p:Int):List Int:=(List.range (ld l (M.FZ p)).toNat).map fun(j:Nat)=>ld l (M.Gp p j)
structure Jp (M:Bz) (n:Int) (l:Dk) (P4 P5:List Int):Prop where
 c4:Ch M false l (lo (ld l 4)) P4
 c5:Ch M false l (lo (ld l 5)) P5
 t4:0≤hi (ld l 4)∧hi (ld l 4)≤n
 t5:0≤hi (ld l 5)∧hi (ld l 5)≤n
 mn: ∀p∈P4,1≤ld l (M.FZ p)∧ld l (M.FZ p)≤4
structure NZ (M:Bz) (l l':Dk) (hold:List Int):Prop where
 h4:Hd l l' 4
 h5:Hd l l' 5
 bR: ∀q,q∉hold→ld l' (M.FI q)=ld l (M.FI q)
 Tt: ∀q,q∉hold→(∀j,ld l' (M.Gp q j)=ld l (M.Gp q j))∧ld l' (M.FZ q)=ld l (M.FZ q)
 ND: ∀p:Pl,p≠ .FW 4→p≠ .FW 5→(∀q,p≠ .Cf q)→(∀q j,p≠ .BN q j)→(∀q,p≠ .Bq q)→ld l' (ad M p)=ld l (ad M p)
 len:l'.length=l.length
structure Ug (x:St) (a:Int):Prop where
 nd:x.node=false
 hd:x.head=a
 a:a=4∨a=5
theorem Li(hL:La M)(hl:l.length=M.all.toNat)(h:a=4∨a=5):QS l a:=by
 refine⟨by omega,?_⟩;rw[hl];have:=hL.all;have:=hL.DW;have:=hL.Mz;have:=hL.Tw;have:=hL.WT;have:=hL.head;have:=hL.mu;have:=hL.Bq;omega
theorem T2(hL:La M)(hl:l.length=M.all.toNat){q:Int}(h:1≤q∧q≤M.Bq):QS l (M.FI q):=by
 have h0:=Vx hL h.1 h.2;exact⟨h0,by rw[hl];have:=KJ hL h0;show ad M (.Cf q)<_;omega⟩
theorem sQ(hL:La M)(hl:l.length=M.all.toNat){x:St}{P Q:List Int}(ha:Ug x a)(hab:a=4∧b=5∨a=5∧b=4)(hp:LM x)(hI:sI M l x)(hc:Ch M false l (lo (ld l a)) P)(hcb:Ch M false l (lo (ld l b)) Q)
  (ht:0≤hi (ld l a)∧hi (ld l a)≤n) (hq:1≤x.BO∧x.BO≤M.Bq) (hn:n<900000) (h4:x.BO∉P) (h5:x.BO∉Q):
  NZ M l (x.step M l).2 [x.BO]∧(∀q,(∀j,ld (x.step M l).2 (M.Gp q j)=ld l (M.Gp q j))∧ld (x.step M l).2 (M.FZ q)=ld l (M.FZ q))∧(x.step M l).1.BO=x.BO∧Ug (x.step M l).1 a∧
   ld (x.step M l).2 b=ld l b∧(0≤hi (ld (x.step M l).2 a)∧hi (ld (x.step M l).2 a)≤n+1)∧Ch M false (x.step M l).2 (lo (ld (x.step M l).2 b)) Q∧
   ((LM (x.step M l).1∧sI M (x.step M l).2 (x.step M l).1∧Ch M false (x.step M l).2 (lo (ld (x.step M l).2 a)) P)∨
    ((x.step M l).1.next= .nil∧Ch M false (x.step M l).2 (lo (ld (x.step M l).2 a)) (x.BO::P))):=by
 have hm:=hL.Bq;obtain⟨nd,hd,ha'⟩:=ha;have rT:ad M (.FW a)=x.head:=by rw[hd];rcases ha' with rfl|rfl<;>rfl
 have hs:=jw hL (hd:= .FW a) (L:=P) (n:=n) hp hI rT (fun q=>by rw[nd];simp[lp]) (by rw[hd];exact Li hL hl ha') (by rw[nd];exact T2 hL hl hq) (by rw[nd,hd];exact hc) (by omega) h4 (by rw[hd];exact ht) hn (fun v hv e=>h4 (e▸hv));rw[nd,hd] at hs;obtain⟨s1,s2,s3,s4,s5,s6,s7,s8,s9⟩:=hs;have hlp: ∀p:Pl,p≠ .FW a→p≠ .Cf x.BO→ld (x.step M l).2 (ad M p)=ld l (ad M p):=fun p g1 g2=>s7 p g1 (by simpa[lp] using g2)
 have hoth:ld (x.step M l).2 b=ld l b:=by
  have:ad M (.FW b)=b:=by rcases hab with⟨-,rfl⟩|⟨-,rfl⟩<;>rfl
  rw[←this];exact hlp (.FW b) (by simp;omega) (by simp)
 have htk: ∀q,(∀j,ld (x.step M l).2 (M.Gp q j)=ld l (M.Gp q j))∧ld (x.step M l).2 (M.FZ q)=ld l (M.FZ q):=fun q=>⟨fun j=>hlp (.BN q j) (by simp) (by simp),hlp (.Bq q) (by simp) (by simp)⟩
 have hlk: ∀q,q≠x.BO→ld (x.step M l).2 (M.FI q)=ld l (M.FI q):=fun q h=>hlp (.Cf q) (by simp) (by simp;exact h)
 refine⟨⟨?_,?_,fun q h=>hlk q (fun e=>h (by rw[e];exact List.mem_singleton.2 rfl)),fun q _=>htk q,fun p g1 g2 g3 _ _=>hlp p (by rcases ha' with rfl|rfl;exact g1;exact g2) (g3 _),s8⟩,htk,s1,⟨s3,s2,ha'⟩,hoth,⟨s6,s5⟩,?_,s9⟩
 ·rcases hab with⟨rfl,rfl⟩|⟨rfl,rfl⟩
  ·exact s4
  exact .inl hoth
 ·rcases hab with⟨rfl,rfl⟩|⟨rfl,rfl⟩
  ·exact .inl hoth
  exact s4
 rw[hoth];exact hcb.frame fun v hv=>hlk v (fun e=>h5 (e▸hv))
theorem kz(hL:La M)(hl:l.length=M.all.toNat){x:St}(ha:Ug x a)(hp:LM x)(hI:sI M l x)(hP:Jp M n l P4 P5)(hq:1≤x.BO∧x.BO≤M.Bq)(hn:n<900000)
  (h4:x.BO∉P4) (h5:x.BO∉P5) (hmn:a=4→1≤ld l (M.FZ x.BO)∧ld l (M.FZ x.BO)≤4):
  NZ M l (x.step M l).2 [x.BO]∧(∀q,(∀j,ld (x.step M l).2 (M.Gp q j)=ld l (M.Gp q j))∧ld (x.step M l).2 (M.FZ q)=ld l (M.FZ q))∧(x.step M l).1.BO=x.BO∧Ug (x.step M l).1 a∧
   ((LM (x.step M l).1∧sI M (x.step M l).2 (x.step M l).1∧Jp M (n+1) (x.step M l).2 P4 P5)∨
    ((x.step M l).1.next= .nil∧(a=4→Jp M (n+1) (x.step M l).2 (x.BO::P4) P5)∧(a=5→Jp M (n+1) (x.step M l).2 P4 (x.BO::P5)))):=by
 have t4:=hP.t4;have t5:=hP.t5;rcases ha.a with rfl|rfl
 ·obtain⟨r1,r2,r3,r4,r5,r6,r7,r8⟩:=sQ hL hl ha (.inl ⟨rfl,rfl⟩) hp hI hP.c4 hP.c5 t4 hq hn h4 h5;have hmn:=hmn rfl;refine⟨r1,r2,r3,r4,?_⟩;rcases r8 with⟨g1,g2,g3⟩|⟨g1,g2⟩
  ·exact .inl ⟨g1,g2,g3,r7,r6,by rw[r5];omega,fun p hp=>by rw[(r2 p).2];exact hP.mn p hp⟩
  refine .inr ⟨g1,fun _=>⟨g2,r7,r6,by rw[r5];omega,fun p hp=>?_⟩,fun e=>by omega⟩;rw[(r2 p).2];rcases List.mem_cons.1 hp with rfl|hp
  ·exact hmn
  exact hP.mn p hp
 obtain⟨r1,r2,r3,r4,r5,r6,r7,r8⟩:=sQ hL hl ha (.inr ⟨rfl,rfl⟩) hp hI hP.c5 hP.c4 t5 hq hn h5 h4;refine⟨r1,r2,r3,r4,?_⟩;rcases r8 with⟨g1,g2,g3⟩|⟨g1,g2⟩
 ·exact .inl ⟨g1,g2,r7,g3,by rw[r5];omega,r6,fun p hp=>by rw[(r2 p).2];exact hP.mn p hp⟩
 exact .inr ⟨g1,fun e=>by omega,fun _=>⟨r7,g2,by rw[r5];omega,r6,fun p hp=>by rw[(r2 p).2];exact hP.mn p hp⟩⟩
theorem lh(hL:La M)(hl:l.length=M.all.toNat){x:St}{P Q:List Int}(ha:Ug x a)(hab:a=4∧b=5∨a=5∧b=4)(hp:Nv x)(hI:sI M l x)(hc:Ch M false l (lo (ld l a)) P)(hcb:Ch M false l (lo (ld l b)) Q)
  (ht:0≤hi (ld l a)∧hi (ld l a)≤n) (hn:n<900000):
  NZ M l (x.step M l).2 []∧Ug (x.step M l).1 a∧
   ld (x.step M l).2 b=ld l b∧(0≤hi (ld (x.step M l).2 a)∧hi (ld (x.step M l).2 a)≤n+1)∧Ch M false (x.step M l).2 (lo (ld (x.step M l).2 b)) Q∧
   ((Nv (x.step M l).1∧sI M (x.step M l).2 (x.step M l).1∧Ch M false (x.step M l).2 (lo (ld (x.step M l).2 a)) P)∨
    ((x.step M l).1.next= .nil∧(x.step M l).1.BO=0∧(x.step M l).2=l)∨
    ((x.step M l).1.next= .nil∧(x.step M l).1.BO≠0∧ ∃P',P=(x.step M l).1.BO::P'∧Ch M false (x.step M l).2 (lo (ld (x.step M l).2 a)) P')):=by
 obtain⟨nd,hd,ha'⟩:=ha;have rT:ad M (.FW a)=x.head:=by rw[hd];rcases ha' with rfl|rfl<;>rfl
 have hs:=rL hL (hd:= .FW a) (L:=P) (n:=n) hp hI rT (fun q=>by rw[nd];simp[lp]) (by rw[hd];exact Li hL hl ha') (by rw[nd,hd];exact hc) (by rw[hd];exact ht) hn;rw[nd,hd] at hs;obtain⟨s2,s3,s4,s5,s6,s7,s8,s9⟩:=hs;have hoth:ld (x.step M l).2 b=ld l b:=by
  have:ad M (.FW b)=b:=by rcases hab with⟨-,rfl⟩|⟨-,rfl⟩<;>rfl
  rw[←this];exact s7 (.FW b) (by simp;omega)
 refine⟨⟨?_,?_,fun q _=>s7 (.Cf q) (by simp),fun q _=>⟨fun j=>s7 (.BN q j) (by simp),s7 (.Bq q) (by simp)⟩,fun p g1 g2 _ _ _=>s7 p (by rcases ha' with rfl|rfl;exact g1;exact g2),s8⟩,⟨s3,s2,ha'⟩,hoth,⟨s6,s5⟩,?_,?_⟩
 ·rcases hab with⟨rfl,rfl⟩|⟨rfl,rfl⟩
  ·exact s4
  exact .inl hoth
 ·rcases hab with⟨rfl,rfl⟩|⟨rfl,rfl⟩
  ·exact .inl hoth
  exact s4
 ·rw[hoth];exact hcb.frame fun v _=>s7 (.Cf v) (by simp)
 rcases s9 with g|⟨g1,g2,g3,-⟩|g
 ·exact .inl g
 ·exact .inr (.inl ⟨g1,g2,g3⟩)
 exact .inr (.inr g)
theorem Ln(hL:La M)(hl:l.length=M.all.toNat){x:St}(ha:Ug x a)(hp:Nv x)(hI:sI M l x)(hP:Jp M n l P4 P5)(hn:n<900000):
  NZ M l (x.step M l).2 []∧Ug (x.step M l).1 a∧
   ((Nv (x.step M l).1∧sI M (x.step M l).2 (x.step M l).1∧Jp M (n+1) (x.step M l).2 P4 P5)∨
    ((x.step M l).1.next= .nil∧(x.step M l).1.BO=0∧Jp M (n+1) (x.step M l).2 P4 P5)∨
    ((x.step M l).1.next= .nil∧(x.step M l).1.BO≠0∧(a=4→ ∃P',P4=(x.step M l).1.BO::P'∧Jp M (n+1) (x.step M l).2 P' P5)∧(a=5→ ∃P',P5=(x.step M l).1.BO::P'∧Jp M (n+1) (x.step M l).2 P4 P'))):=by
 have t4:=hP.t4;have t5:=hP.t5;have LK:Jp M (n+1) l P4 P5:=⟨hP.c4,hP.c5,by omega,by omega,hP.mn⟩;rcases ha.a with rfl|rfl
 ·obtain⟨r1,r4,r5,r6,r7,r8⟩:=lh hL hl ha (.inl ⟨rfl,rfl⟩) hp hI hP.c4 hP.c5 t4 hn;have r2: ∀q,ld (x.step M l).2 (M.FZ q)=ld l (M.FZ q):=fun q=>(r1.Tt q (by simp)).2
  refine⟨r1,r4,?_⟩;rcases r8 with⟨g1,g2,g3⟩|⟨g1,g2,g3⟩|⟨g1,g2,P',e,g3⟩
  ·exact .inl ⟨g1,g2,g3,r7,r6,by rw[r5];omega,fun p hp=>by rw[r2 p];exact hP.mn p hp⟩
  ·exact .inr (.inl ⟨g1,g2,by rw[g3];exact LK⟩)
  exact .inr (.inr ⟨g1,g2,fun _=>⟨P',e,g3,r7,r6,by rw[r5];omega,fun p hp=>by rw[r2 p];exact hP.mn p (by rw[e];exact List.mem_cons_of_mem _ hp)⟩,fun e=>by omega⟩)
 obtain⟨r1,r4,r5,r6,r7,r8⟩:=lh hL hl ha (.inr ⟨rfl,rfl⟩) hp hI hP.c5 hP.c4 t5 hn;have r2: ∀q,ld (x.step M l).2 (M.FZ q)=ld l (M.FZ q):=fun q=>(r1.Tt q (by simp)).2
 refine⟨r1,r4,?_⟩;rcases r8 with⟨g1,g2,g3⟩|⟨g1,g2,g3⟩|⟨g1,g2,P',e,g3⟩
 ·exact .inl ⟨g1,g2,r7,g3,by rw[r5];omega,r6,fun p hp=>by rw[r2 p];exact hP.mn p hp⟩
 ·exact .inr (.inl ⟨g1,g2,by rw[g3];exact LK⟩)
 exact .inr (.inr ⟨g1,g2,fun e=>by omega,fun _=>⟨P',e,r7,g3,by rw[r5];omega,r6,fun p hp=>by rw[r2 p];exact hP.mn p hp⟩⟩)
end
open Go.Proofs.YtmpcfamcbaineaaGreat.Mo
section
def XP(M:Bz)(l:Dk)(x:Pk)(ts hold:List Int):Prop:=
 x.Ar=ts∧ts≠[]∧ts.length≤4∧match x.next with
 | .Po=>Ug x.Dp 5∧Nv x.Dp∧sI M l x.Dp∧x.j=0∧hold=[]
 | .fill=>hold=[x.p]∧x.j<ts.length∧ ∀j:Nat,j<x.j→ld l (M.Gp x.p j)=ts.getD j 0
 | .Bq=>hold=[x.p]∧ ∀j:Nat,j<ts.length→ld l (M.Gp x.p j)=ts.getD j 0
 | .DV=>Ug x.Dp 4∧LM x.Dp∧sI M l x.Dp∧hold=[x.Dp.BO]∧ld l (M.FZ x.Dp.BO)=ts.length∧ ∀j:Nat,j<ts.length→ld l (M.Gp x.Dp.BO j)=ts.getD j 0
 | .nil=>False
def lq(M:Bz)(l:Dk)(x:Pk):Prop:=x.next= .DV∧Ug x.Dp 4∧Nv x.Dp∧sI M l x.Dp
def lu(M:Bz)(l:Dk)(x:Pk)(q:Int):Prop:=x.next= .DV∧Ug x.Dp 5∧LM x.Dp∧sI M l x.Dp∧x.Dp.BO=q
theorem Lo(h1:ld l (M.FZ p)=ts.length)(h2: ∀j:Nat,j<ts.length→ld l (M.Gp p j)=ts.getD j 0):OL M l p=ts:=by
 unfold OL;rw[h1,Int.toNat_natCast];refine List.ext_getElem? fun j=>?_
 rcases(show j<ts.length∨ts.length≤j by omega) with hj|hj
 ·rw[List.getElem?_map,List.getElem?_range hj];have:=h2 j hj;rw[List.getD_eq_getElem?_getD,List.getElem?_eq_getElem hj] at this;rw[List.getElem?_eq_getElem hj];simp only[Option.getD_some] at this;simp[this]
 rw[List.getElem?_eq_none (by simpa using hj),List.getElem?_eq_none hj]
theorem yA(hr:NZ M l l' hold)(hp:p∉hold):OL M l' p=OL M l p:=by
 unfold OL;rw[(hr.Tt p hp).2];exact List.map_congr_left fun j _=>(hr.Tt p hp).1 j
theorem Uh(hL:La M):NZ M l (put l (M.Gp p j) v) [p]:=
 ⟨.inl (DU hL (p:= .BN p j) (q:= .FW 4) (by simp)),.inl (DU hL (p:= .BN p j) (q:= .FW 5) (by simp)),fun q _=>DU hL (p:= .BN p j) (q:= .Cf q) (by simp),fun q hq=>⟨fun k=>DU hL (p:= .BN p j) (q:= .BN q k) (by simp at hq;simp;intro e;exact absurd e.symm hq),DU hL (p:= .BN p j) (q:= .Bq q) (by simp)⟩,fun r _ _ _ h _=>DU hL (p:= .BN p j) (fun e=>h _ _ e.symm),Hf ..⟩
theorem ZV(hL:La M):NZ M l (put l (M.FZ p) v) [p]:=
 ⟨.inl (DU hL (p:= .Bq p) (q:= .FW 4) (by simp)),.inl (DU hL (p:= .Bq p) (q:= .FW 5) (by simp)),fun q _=>DU hL (p:= .Bq p) (q:= .Cf q) (by simp),fun q hq=>⟨fun k=>DU hL (p:= .Bq p) (q:= .BN q k) (by simp),DU hL (p:= .Bq p) (q:= .Bq q) (by simp at hq;simp;exact fun e=>hq e.symm)⟩,fun r _ _ _ _ h=>DU hL (p:= .Bq p) (fun e=>h _ e.symm),Hf ..⟩
theorem Jp.mono(hP:Jp M n l P4 P5)(hr:NZ M l l' hold)(e4:ld l' 4=ld l 4)(e5:ld l' 5=ld l 5)(hd: ∀p∈P4++P5,p∉hold):Jp M (n+1) l' P4 P5:=by
 have t4:=hP.t4;have t5:=hP.t5;refine⟨?_,?_,by rw[e4];omega,by rw[e5];omega,fun p hp=>by rw[(hr.Tt p (hd p (List.mem_append_left _ hp))).2];exact hP.mn p hp⟩
 ·rw[e4];exact hP.c4.frame fun v hv=>hr.bR v (hd v (List.mem_append_left _ hv))
 rw[e5];exact hP.c5.frame fun v hv=>hr.bR v (hd v (List.mem_append_right _ hv))
theorem T3(hL:La M)(hl:l.length=M.all.toNat)(h:1≤p∧p≤M.Bq)(h0:0≤j)(h4:j<4):QS l (ad M (.BN p j)):=by
 have:=Ty hL h.1 h.2 h0 h4;exact⟨this,by rw[hl];have:=KJ hL (p:= .BN p j) this;omega⟩
theorem T4(hL:La M)(hl:l.length=M.all.toNat)(h:1≤p∧p≤M.Bq):QS l (ad M (.Bq p)):=by
 have h0:0≤ad M (.Bq p):=by
  show 0≤M.BI p 0;unfold Bz.BI;rw[if_neg (by omega)];have:=hL.Mz;have:=hL.Tw;have:=hL.WT;have:=hL.head;have:=hL.mu;omega
 exact⟨h0,by rw[hl];have:=KJ hL h0;omega⟩
theorem yB(hL:La M)(hl:l.length=M.all.toNat){x:Pk}(h:XP M l x ts hold)(hP:Jp M n l P4 P5)(hnd:(P4++P5++hold).Nodup)(hrg: ∀p∈P4++P5++hold,1≤p∧p≤M.Bq)(hn:n<900000):
  ∃QL SX hold',NZ M l (x.step M l).2 hold∧Jp M (n+1) (x.step M l).2 QL SX∧List.Perm (QL++SX++hold') (P4++P5++hold)∧
   (XP M (x.step M l).2 (x.step M l).1 ts hold'∧QL=P4∨(x.step M l).1.next= .nil∧hold'=[]∧ ∃p,QL=p::P4∧OL M (x.step M l).2 p=ts):=by
 obtain⟨h1,h2,h3,h4⟩:=h;unfold Mo.Pk.step;split<;>rename_i hx<;>rw[hx] at h4<;>simp only at h4
 ·obtain⟨a,b,c,d,rfl⟩:=h4;obtain⟨r1,r2,r3⟩:=Ln hL hl a b c hP hn;rcases r3 with⟨g1,g2,g3⟩|⟨g1,g2,g3⟩|⟨g1,g2,-,g3⟩
  ·rw[if_neg (by rcases g1 with g|g|g<;>rw[g]<;>simp)];refine⟨P4,P5,[],r1,g3,.refl _,.inl ⟨⟨h1,h2,h3,?_⟩,rfl⟩⟩;simp only[hx];exact⟨r2,g1,g2,d,trivial⟩
  ·rw[if_pos g1,if_pos g2];exact⟨P4,P5,[],r1,g3,.refl _,.inl ⟨⟨h1,h2,h3,⟨rfl,rfl,.inr rfl⟩,.inl rfl,trivial,d,rfl⟩,rfl⟩⟩
  rw[if_pos g1,if_neg g2];obtain⟨P',e,g4⟩:=g3 rfl;refine⟨P4,P',[(x.Dp.step M l).1.BO],r1,g4,?_,.inl ⟨⟨h1,h2,h3,rfl,?_,fun j hj=>?_⟩,rfl⟩⟩
  ·rw[e,List.append_nil,List.append_assoc];exact List.Perm.append_left _ (List.perm_append_singleton ..)
  ·show x.j<_;rw[d];exact List.length_pos_iff.2 h2
  exfalso;have hj':j<x.j:=hj;omega
 ·obtain⟨rfl,b,c⟩:=h4;have hq:=hrg x.p (by simp);have hP':Jp M (n+1) (Mo.put l (M.Gp x.p x.j) (x.Ar.getD x.j 0)) P4 P5:=hP.mono (Uh hL) (DU hL (p:= .BN x.p x.j) (q:= .FW 4) (by simp)) (DU hL (p:= .BN x.p x.j) (q:= .FW 5) (by simp)) (fun p hp hm=>by
   rw[List.nodup_append] at hnd;exact hnd.2.2 p hp p hm rfl)
  have key: ∀j:Nat,j<x.j+1→ld (Mo.put l (M.Gp x.p x.j) (x.Ar.getD x.j 0)) (M.Gp x.p j)=ts.getD j 0:=fun j hj=>by
   by_cases e:j=x.j
   ·subst e;rw[show M.Gp x.p x.j=ad M (.BN x.p x.j) from rfl,Ei (T3 hL hl hq (by omega) (by omega)),h1]
   rw[show ld (Mo.put l (M.Gp x.p x.j) (x.Ar.getD x.j 0)) (M.Gp x.p j)=ld l (M.Gp x.p j) from DU hL (p:= .BN x.p x.j) (q:= .BN x.p j) (by simp;omega)];exact c j (by omega)
  split
  ·rename_i e;refine⟨P4,P5,[x.p],Uh hL,hP',.refl _,.inl ⟨⟨h1,h2,h3,rfl,fun j hj=>key j (by rw[h1] at e;omega)⟩,rfl⟩⟩
  rename_i e;refine⟨P4,P5,[x.p],Uh hL,hP',.refl _,.inl ⟨⟨h1,h2,h3,?_⟩,rfl⟩⟩;simp only[hx];exact⟨trivial,by rw[h1] at e;omega,key⟩
 ·obtain⟨rfl,c⟩:=h4;have hq:=hrg x.p (by simp);have hP':Jp M (n+1) (Mo.put l (M.FZ x.p) x.Ar.length) P4 P5:=hP.mono (ZV hL) (DU hL (p:= .Bq x.p) (q:= .FW 4) (by simp)) (DU hL (p:= .Bq x.p) (q:= .FW 5) (by simp)) (fun p hp hm=>by
   rw[List.nodup_append] at hnd;exact hnd.2.2 p hp p hm rfl)
  refine⟨P4,P5,[x.p],ZV hL,hP',.refl _,.inl ⟨⟨h1,h2,h3,⟨rfl,rfl,.inl rfl⟩,.inl rfl,trivial,rfl,?_,fun j hj=>?_⟩,rfl⟩⟩
  ·show ld (Mo.put l (M.FZ x.p) x.Ar.length) (M.FZ x.p)=_;rw[show M.FZ x.p=ad M (.Bq x.p) from rfl,Ei (T4 hL hl hq),h1]
  show ld (Mo.put l (M.FZ x.p) x.Ar.length) (M.Gp x.p j)=_;rw[show ld (Mo.put l (M.FZ x.p) x.Ar.length) (M.Gp x.p j)=ld l (M.Gp x.p j) from DU hL (p:= .Bq x.p) (q:= .BN x.p j) (by simp)];exact c j hj
 obtain⟨a,b,c,rfl,e,f⟩:=h4;have hq:=hrg x.Dp.BO (by simp);rw[List.nodup_append] at hnd;have n4:x.Dp.BO∉P4:=fun hm=>hnd.2.2 _ (List.mem_append_left _ hm) _ (by simp) rfl
 have n5:x.Dp.BO∉P5:=fun hm=>hnd.2.2 _ (List.mem_append_right _ hm) _ (by simp) rfl
 have hlen:1≤ts.length:=List.length_pos_iff.2 h2;obtain⟨r1,r2,r3,r4,r5⟩:=kz hL hl a b c hP hq hn n4 n5 (fun _=>by rw[e];omega);rcases r5 with⟨g1,g2,g3⟩|⟨g1,g2,-⟩
 ·rw[if_neg (by rcases g1 with g|g|g<;>rw[g]<;>simp)];refine⟨P4,P5,[x.Dp.BO],r1,g3,.refl _,.inl ⟨⟨h1,h2,h3,?_⟩,rfl⟩⟩;simp only[hx];exact⟨r4,g1,g2,by rw[r3],by rw[r3,(r2 _).2];exact e,fun j hj=>by rw[r3,(r2 _).1];exact f j hj⟩
 rw[if_pos g1];refine⟨x.Dp.BO::P4,P5,[],r1,g2 rfl,?_,.inr ⟨rfl,rfl,x.Dp.BO,rfl,?_⟩⟩
 ·simp only[List.append_nil];exact(List.perm_append_singleton ..).symm
 exact Lo (by rw[(r2 _).2];exact e) (fun j hj=>by rw[(r2 _).1];exact f j hj)
theorem T5(hL:La M)(hl:l.length=M.all.toNat){x:Pk}(h:lq M l x)(hP:Jp M n l P4 P5)(hn:n<900000):
  NZ M l (x.step M l).2 []∧((lq M (x.step M l).2 (x.step M l).1∧Jp M (n+1) (x.step M l).2 P4 P5)∨((x.step M l).1.next= .nil∧(x.step M l).1.p=0∧Jp M (n+1) (x.step M l).2 P4 P5)∨
   ((x.step M l).1.next= .nil∧(x.step M l).1.p≠0∧ ∃P',P4=(x.step M l).1.p::P'∧Jp M (n+1) (x.step M l).2 P' P5)):=by
 obtain⟨hx,a,b,c⟩:=h;unfold Mo.Pk.step;rw[hx];simp only;obtain⟨r1,r2,r3⟩:=Ln hL hl a b c hP hn;rcases r3 with⟨g1,g2,g3⟩|⟨g1,g2,g3⟩|⟨g1,g2,g3,-⟩
 ·rw[if_neg (by rcases g1 with g|g|g<;>rw[g]<;>simp)];exact⟨r1,.inl ⟨⟨rfl,r2,g1,g2⟩,g3⟩⟩
 ·rw[if_pos g1];exact⟨r1,.inr (.inl ⟨rfl,g2,g3⟩)⟩
 rw[if_pos g1];exact⟨r1,.inr (.inr ⟨rfl,g2,g3 rfl⟩)⟩
theorem T6(hL:La M)(hl:l.length=M.all.toNat){x:Pk}{q:Int}(h:lu M l x q)(hP:Jp M n l P4 P5)(hn:n<900000)(hq:1≤q∧q≤M.Bq)(h4:q∉P4)(h5:q∉P5):
  NZ M l (x.step M l).2 [q]∧((lu M (x.step M l).2 (x.step M l).1 q∧Jp M (n+1) (x.step M l).2 P4 P5)∨((x.step M l).1.next= .nil∧Jp M (n+1) (x.step M l).2 P4 (q::P5))):=by
 obtain⟨hx,a,b,c,rfl⟩:=h;unfold Mo.Pk.step;rw[hx];simp only;obtain⟨r1,r2,r3,r4,r5⟩:=kz hL hl a b c hP hq hn h4 h5 (fun e=>by omega);rcases r5 with⟨g1,g2,g3⟩|⟨g1,-,g2⟩
 ·rw[if_neg (by rcases g1 with g|g|g<;>rw[g]<;>simp)];exact⟨r1,.inl ⟨⟨rfl,r4,g1,g2,r3⟩,g3⟩⟩
 rw[if_pos g1];exact⟨r1,.inr ⟨rfl,g2 rfl⟩⟩
theorem lS(h:ts≠[])(h4:ts.length≤4):XP M l (.put ts) ts []:=by
 unfold Mo.Pk.put;rw[if_neg h];exact⟨rfl,h,h4,⟨rfl,rfl,.inr rfl⟩,.inl rfl,trivial,rfl,rfl⟩
theorem sS:lq M l .take:=⟨rfl,⟨rfl,rfl,.inl rfl⟩,.inl rfl,trivial⟩
theorem Lq(hL:La M)(h:1≤p∧p≤M.Bq):lu M l (.Jr M p) p:=by
 unfold Mo.Pk.Jr;rw[if_pos (show M.FI p≥0 from Vx hL h.1 h.2)];exact⟨rfl,⟨rfl,rfl,.inr rfl⟩,.inl rfl,trivial,rfl⟩
end
end Iv
end Go.Proofs.YtmpcfamcbaineaaGreat.Mo
