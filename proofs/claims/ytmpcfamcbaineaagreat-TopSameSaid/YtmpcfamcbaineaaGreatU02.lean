/- Part 2 of the proof of the row of the law TopSame: contracts of what it reaches, and the plain law. No condition. -/
import Derived.Test.YtmpcfamcbaineaaGreatU01
set_option linter.all false
set_option maxHeartbeats 8000000
set_option maxRecDepth 100000
open Go.RowKit
namespace Go.Proofs.YtmpcfamcbaineaaGreat.Mo
variable{b d n i j t id f:Nat}{w w' w0:World}{v u:Value}{o:Oper}{C:Cx}{l:Dk}{P:Program}{ρ:Operand→Value}{Q:Exit→Act→World→Prop}{Aq:Array Oper}{ef:Nat→Bool}{ord r:List Nat}{S:World→Prop}{L:Array Bool}{V:List (Nat×Value)}
abbrev GZ:=List (Nat×Value)
def lk:GZ→Nat→Value
 |[],_=>undef
 |(d,v)::e,t=>bif Nat.beq d t then v else lk e t
def ev(e:GZ):Operand→Value
 | .tmp t=>lk e t
 | .const v=>v
 | .global g=> .pointer (some ⟨g,0,none⟩)
 | .func f=> .func (.func f) #[] #[]
def Dz(d:Option Tmp)(v:Value)(e:GZ):GZ:=
 match d with
 |some t=>(t,v)::e
 |none=>e
theorem RQ(d:Nat)(v:Value)(e:GZ)(t:Nat):lk ((d,v)::e) t=if d=t then v else lk e t:=by
 show(bif Nat.beq d t then v else lk e t)=_;by_cases h:d=t
 ·subst h;rw[if_pos rfl,show Nat.beq d d=true from Nat.beq_refl d];rfl
 rw[if_neg h,show Nat.beq d t=false from Bool.eq_false_iff.2 (fun e=>h (Nat.eq_of_beq_eq_true e))];rfl
def Pj(P:Program)(o:Oper)(ρ:Operand→Value)(w:World)(K:Value→World→Prop):Prop:=
 match (execOp ρ o).run P w with
 | .ok (.value v) w'=>K v w'
 | .ok .skip w'=>K undef w'
 | .ok (.enter f args) w'=>Calls P f args w' fun e w''=> ∃v,e= .returned v∧K v w''
 | .ok (.round l f tmps assign body) w'=>RoundIn Fence.wide 0 P l f tmps assign body w' fun e w''=> ∃v,e= .returned v∧K v w''
 |_=>False
theorem nU{K K':Value→World→Prop}(h:Pj P o ρ w K)(hk: ∀v w',K v w'→K' v w'):Pj P o ρ w K':=by
 unfold Pj at*
 split at h
 ·exact hk _ _ h
 ·exact hk _ _ h
 ·exact Calls.mono h (fun e w'' he=>by obtain⟨v,h1,h2⟩:=he;exact⟨v,h1,hk _ _ h2⟩)
 ·exact RoundIn.mono h (fun e w'' he=>by obtain⟨v,h1,h2⟩:=he;exact⟨v,h1,hk _ _ h2⟩)
 exact h
theorem qp{K:Value→World→Prop}(h:Pj P o ρ w K): ∀c,o.op≠ .defer c:=fun c hc=>by
 unfold Pj execOp at h;rw[hc] at h;simp only[Sem.run_bind] at h;cases hr:(resolve ρ c o.type).run P w with
 |ok d w'=>rw[hr] at h;exact h
 |halt x w'=>rw[hr] at h;exact h
abbrev Fr(ro:Option Nat):Fence:={fn:=fun _=>True,depth:=none,alive:=false,round:=ro}
theorem KP{a:Act}{ro:Option Nat}{K:Value→World→Prop}{K':Act→World→Prop}(h:Pj P o a.eval w K)(hk: ∀v w',K v w'→K' (a.put o.dst v) w'):o.wpIn (Fr ro) 0 P a w K' Q:=by
 refine⟨fun _ _=>trivial,?_⟩;rw[Oper.semAt_eq _ _ _ (qp h)];unfold Pj at h;split at h
 ·rename_i heq;rw[heq];exact hk _ _ h
 ·rename_i heq;rw[heq];exact hk _ _ h
 ·rename_i f args w' heq;rw[heq];exact⟨fun h=>(by cases h),(callsIn_wide (n:=0)).2 (Calls.mono h (fun e w'' he=>by obtain⟨v,rfl,h2⟩:=he;exact hk _ _ h2))⟩
 ·rename_i l f tmps assign body w' heq;rw[heq];exact⟨fun h=>(by cases h),RoundIn.mono h (fun e w'' he=>by obtain⟨v,rfl,h2⟩:=he;exact hk _ _ h2)⟩
 exact h.elim
def yE(Aq:Array Oper)(e:GZ)(j:Nat):Option Bool:=
 match (Aq[j]?).bind (·.dst) with
 |some t=>match lk e t with
  | .bool b=>some b
  |_=>none
 |none=>none
def BA(Aq:Array Oper)(o:Oper)(e:GZ):Bool:=Region.wanted o (yE Aq e)
def YE(P:Program)(Aq:Array Oper)(S:World→Prop)(o:Oper)(v:Value)(e:GZ):Prop:=
 (BA Aq o e=true∧ ∀w,S w→Pj P o (ev e) w fun u w'=>u=v∧S w')∨(BA Aq o e=false∧v=undef)
def desc(Aq:Array Oper):Nat→Nat→Nat→Bool
 |0,_,_=>false
 |f+1,i,j=>match Aq[j]? with
  |some oj=>oj.after.any fun e=>Region.binds .any e&&(e.on==i||desc Aq f i e.on)
  |none=>false
def X(P:Program)(Aq:Array Oper)(lo ef:Nat→Bool)(K:(World→Prop)→GZ→Prop):List Nat→(World→Prop)→List (Nat×Value)→GZ→Prop
 |[],S,_,e=>K S e
 |i::r,S,U,e=> ∃o,Aq[i]?=some o∧
   (bif ef i then BA Aq o e=true∧ ∀w,S w→Pj P o (ev e) w fun v w'=> ∃S':World→Prop,S' w'∧
     (∀x∈U,desc Aq Aq.size x.1 i=false→ ∃ox,Aq[x.1]?=some ox∧YE P Aq S' ox x.2 e)∧X P Aq lo ef K r S' U (Dz o.dst v e)
    else∃v,YE P Aq S o v e∧X P Aq lo ef K r S (bif lo i then(i,v)::U else U) (Dz o.dst v e))
section
variable[Inhabited (List Deferred)]
structure IC (a:Act) (n:Nat) (e:GZ):Prop where
 defers:a.defers=default
 size:a.tmps.size=n
 at_: ∀t,a.tmps.getD t undef=lk e t
theorem IC.put{a:Act}{e:GZ}(h:IC a n e)(d:Option Tmp)(v:Value)(hd: ∀t,d=some t→t<n):IC (a.put d v) n (Dz d v e):=by
 cases d with
 |none=>exact h
 |some t=>
  have ht:=hd t rfl;refine⟨h.defers,by simp[Act.put,h.size],fun u=>?_⟩;show _=lk ((t,v)::e) u;rw[RQ];have hs:=h.size;by_cases he:t=u
  ·subst he;rw[if_pos rfl];simp[Act.put,hs,ht]
  rw[if_neg he,←h.at_ u];simp[Act.put,Array.getElem?_setIfInBounds_ne he]
theorem IC.eval{a:Act}{e:GZ}(h:IC a n e):a.eval=ev e:=by
 funext x;cases x with
 |tmp t=>exact h.at_ t
 |_=>rfl
end
theorem uX{a:Act}{e:GZ}(h: ∀t,(Aq[j]?).bind (·.dst)=some t→a.tmps.getD t undef=lk e t):yielded Aq a.tmps j=yE Aq e j:=by
 unfold yielded yE;cases hd:(Aq[j]?).bind (·.dst) with
 |none=>rfl
 |some t=>
  have:=h t hd;simp only[Option.bind_some];rw[←this];cases hg:a.tmps[t]? with
  |none=>simp[Array.getD_eq_getD_getElem?,hg,undef]
  |some v=>
   simp only[Array.getD_eq_getD_getElem?,hg,Option.getD_some];cases v<;>rfl
theorem dE{a:Act}{e:GZ}(h: ∀j want,o.guard=some (j,want)→ ∀t,(Aq[j]?).bind (·.dst)=some t→a.tmps.getD t undef=lk e t):Region.wanted o (yielded Aq a.tmps)=BA Aq o e:=by
 unfold BA Region.wanted;split
 ·rfl
 rename_i j want hg;rw[uX (h j want hg)]
section
variable[Inhabited (List Deferred)]
theorem nV{ro:Option Nat}{P:Program}{Aq:Array Oper}{n:Nat}{ef:Nat→Bool}{K:(World→Prop)→GZ→Prop}{Q:Exit→Act→World→Prop}(hd: ∀(i:Nat) (o:Oper),Aq[i]?=some o→ ∀t,o.dst=some t→t<n)
  (hK: ∀S e,K S e→ ∀w a,S w→IC a n e→Q .normal a w): ∀(r:List Nat) (S:World→Prop) (U:List (Nat×Value)) (e:GZ),X P Aq (fun _=>false) ef K r S U e→ ∀w a,S w→IC a n e→wpOpsIn (Fr ro) 0 P Aq Q r a w
 |[],S,U,e,h,w,a,hS,hF=>hK S e h w a hS hF
 |i::r,S,U,e,h,w,a,hS,hF=>by
  obtain⟨o,ho,hx⟩:=h;have hw:=dE (Aq:=Aq) (o:=o) (a:=a) (e:=e) (fun _ _ _ t _=>hF.at_ t);rw[wpOpsIn_cons];unfold wpOpIn;rw[ho];show if Region.wanted o (yielded Aq a.tmps) then _ else _
  cases hef:ef i with
  |true=>
   rw[hef] at hx;obtain⟨Yz,hx⟩:=hx;rw[hw,Yz,if_pos rfl];refine(KP (K:=_) (by rw[hF.eval];exact hx w hS) ?_);rintro v w' ⟨S',h1,-,h2⟩;exact nV hd hK r S' _ _ h2 w' _ h1 (hF.put _ _ (hd i o ho))
  |false=>
   rw[hef] at hx;obtain⟨v,hy,hx⟩:=hx;rcases hy with⟨Yz,hy⟩|⟨Yz,rfl⟩
   ·rw[hw,Yz,if_pos rfl];refine(KP (by rw[hF.eval];exact hy w hS) ?_);rintro u w' ⟨rfl,h1⟩;exact nV hd hK r S _ _ hx w' _ h1 (hF.put _ _ (hd i o ho))
   rw[hw,Yz];refine⟨fun _ _=>trivial,?_⟩;exact nV hd hK r S _ _ hx w _ hS (hF.put _ _ (hd i o ho))
end
def waits(Aq:Array Oper)(j i:Nat):Bool:=
 match Aq[j]? with
 |some oj=>oj.after.any fun e=>Region.binds .any e&&e.on==i
 |none=>false
def pos(ord:List Nat)(i:Nat):Nat:=ord.idxOf i
def Bm(Aq:Array Oper)(n:Nat)(ord:List Nat)(lo ef:Nat→Bool):Bool:=
 Region.noSelect Aq&&ord.length==Aq.size&&decide ord.Nodup&&ord.all (fun i=>decide (i<Aq.size))&&
 (List.range Aq.size).all (fun i=>ord.contains i&&match Aq[i]? with
  |none=>false
  |some o=>(match o.dst with|some t=>decide (t<n)|none=>true)&&
   o.after.all (fun e=>!Region.binds .any e||(decide (pos ord e.on<pos ord i)&&decide (e.on<Aq.size)))&&
   (List.range Aq.size).all (fun j=>match Aq[j]? with
    |none=>false
    |some p=>(match p.dst with
     |some d=>!(o.looksAt Aq).contains d||(i !=j&&waits Aq i j)||(ef j&&desc Aq Aq.size i j)
     |none=>true)&&
     (i==j||match o.dst,p.dst with|some c,some d=>c !=d|_,_=>true)&&
     (!(ef i)||!(decide (pos ord i<pos ord j))||desc Aq Aq.size i j)&&
     (!(ef j)||ef i||lo i||!(decide (pos ord i<pos ord j))||desc Aq Aq.size i j)))
structure uY (Aq:Array Oper) (n:Nat) (ord:List Nat) (lo ef:Nat→Bool):Prop where
 sX:Region.noSelect Aq=true
 len:ord.length=Aq.size
 nodup:ord.Nodup
 mem: ∀i,i<Aq.size→i∈ord
 lt: ∀i∈ord,i<Aq.size
 dst: ∀(i:Nat) (o:Oper),Aq[i]?=some o→ ∀t,o.dst=some t→t<n
 ext: ∀(i:Nat) (o:Oper),Aq[i]?=some o→ ∀e∈o.after,Region.binds .any e=true→pos ord e.on<pos ord i∧e.on<Aq.size
 Xi: ∀(i:Nat) (o:Oper) (j:Nat) (p:Oper),Aq[i]?=some o→Aq[j]?=some p→ ∀d,p.dst=some d→d∈o.looksAt Aq→(i≠j∧waits Aq i j=true)∨(ef j=true∧desc Aq Aq.size i j=true)
 apart: ∀(i:Nat) (o:Oper) (j:Nat) (p:Oper),Aq[i]?=some o→Aq[j]?=some p→i≠j→ ∀d,o.dst=some d→p.dst≠some d
 qw: ∀i j,i<Aq.size→j<Aq.size→ef i=true→pos ord i<pos ord j→desc Aq Aq.size i j=true
 cY: ∀i j,i<Aq.size→j<Aq.size→ef j=true→ef i=false→lo i=false→pos ord i<pos ord j→desc Aq Aq.size i j=true
theorem YA{lo:Nat→Bool}(h:Bm Aq n ord lo ef=true):uY Aq n ord lo ef:=by
 unfold Bm at h;simp only[Bool.and_eq_true,beq_iff_eq,decide_eq_true_eq,List.all_eq_true,List.mem_range] at h;obtain⟨⟨⟨⟨h1,h2⟩,h3⟩,h3b⟩,h4⟩:=h;have at_: ∀(i:Nat) (o:Oper),Aq[i]?=some o→i<Aq.size:=fun i o ho=>(Array.getElem?_eq_some_iff.1 ho).1
 have get: ∀i:Nat,i<Aq.size→ ∃o,Aq[i]?=some o:=fun i hi=>⟨_,Array.getElem?_eq_getElem hi⟩
 refine⟨h1,h2,h3,?_,h3b,?_,?_,?_,?_,?_,?_⟩
 ·intro i hi;simpa using(h4 i hi).1
 ·intro i o ho t ht;have:=(h4 i (at_ i o ho)).2;rw[ho] at this;simp only[Bool.and_eq_true,ht,decide_eq_true_eq] at this;exact this.1.1
 ·intro i o ho e he hb;have:=(h4 i (at_ i o ho)).2;rw[ho] at this;simp only[Bool.and_eq_true] at this;have h5:=Array.all_eq_true_iff_forall_mem.1 this.1.2 e he;simpa[hb] using h5
 ·intro i o j p ho hp d hd hm;have:=(h4 i (at_ i o ho)).2;rw[ho] at this;simp only[Bool.and_eq_true,List.all_eq_true,List.mem_range] at this;have h5:=this.2 j (at_ j p hp);rw[hp] at h5;simp only[Bool.and_eq_true,hd] at h5;have h6:=h5.1.1.1;have hm':(o.looksAt Aq).contains d=true:=by simpa using hm
  rw[hm'] at h6;simpa using h6
 ·intro i o j p ho hp hij d hd hp';have:=(h4 i (at_ i o ho)).2;rw[ho] at this;simp only[Bool.and_eq_true,List.all_eq_true,List.mem_range] at this;have h5:=this.2 j (at_ j p hp);rw[hp] at h5;simp only[Bool.and_eq_true,hd,hp'] at h5;have h6:=h5.1.1.2;simp[hij] at h6
 ·intro i j hi hj he hpos;obtain⟨o,ho⟩:=get i hi;obtain⟨p,hp⟩:=get j hj;have:=(h4 i hi).2;rw[ho] at this;simp only[Bool.and_eq_true,List.all_eq_true,List.mem_range] at this;have h5:=this.2 j hj;rw[hp] at h5;simp only[Bool.and_eq_true] at h5;simpa[he,hpos] using h5.1.2
 intro i j hi hj he hi' hlo hpos;obtain⟨o,ho⟩:=get i hi;obtain⟨p,hp⟩:=get j hj;have:=(h4 i hi).2;rw[ho] at this;simp only[Bool.and_eq_true,List.all_eq_true,List.mem_range] at this;have h5:=this.2 j hj;rw[hp] at h5;simp only[Bool.and_eq_true] at h5;simpa[he,hi',hlo,hpos] using h5.2
theorem TQ{Dh:List Nat}{x:Nat}(hx:x∈Dh)(hi:i∉Dh):pos (Dh++r) x<pos (Dh++r) i:=by
 unfold pos;rw[List.idxOf_append,List.idxOf_append,if_pos hx,if_neg hi];have:=List.idxOf_lt_length_of_mem hx;omega
theorem Uw{d:Option Nat}{e:GZ}(h:d≠some t):lk (Dz d v e) t=lk e t:=by
 cases d with
 |none=>rfl
 |some u=>
  show lk ((u,v)::e) t=_;rw[RQ,if_neg (fun e=>h (by rw[e]))]
theorem Ux{e:GZ}:lk (Dz (some t) v e) t=v:=by
 show lk ((t,v)::e) t=_;rw[RQ,if_pos rfl]
theorem nX(h: .tmp t∈o.op.operands):t∈o.looksAt Aq:=
 List.mem_append_left _ (List.mem_filterMap.2 ⟨.tmp t,by simpa using h,rfl⟩)
theorem Xj{b:Bool}(h:o.guard=some (j,b))(ht:(Aq[j]?).bind (·.dst)=some t):t∈o.looksAt Aq:=by
 refine List.mem_append_right _ ?_;rw[h];simp only;rw[ht];simp
theorem BY{e e':GZ}(hs: ∀cs b,o.op≠ .select cs b)(h: ∀t∈o.looksAt Aq,lk e t=lk e' t):execOp (ev e) o=execOp (ev e') o∧BA Aq o e=BA Aq o e':=by
 refine⟨execOp_congr o hs fun x hx=>?_,?_⟩
 ·cases x with
  |tmp t=>exact h t (nX hx)
  |_=>rfl
 unfold BA Region.wanted;split
 ·rfl
 rename_i j want hg;have:yE Aq e j=yE Aq e' j:=by
  unfold yE;split
  ·rename_i t ht;rw[h t (Xj hg ht)]
  rfl
 rw[this]
theorem YB{a:Act}{e:GZ}(hs: ∀cs b,o.op≠ .select cs b)(h: ∀t∈o.looksAt Aq,a.tmps.getD t undef=lk e t):execOp a.eval o=execOp (ev e) o∧Region.wanted o (yielded Aq a.tmps)=BA Aq o e:=by
 refine⟨execOp_congr o hs fun x hx=>?_,dE fun j want hg t ht=>h t (Xj hg ht)⟩;cases x with
 |tmp t=>exact h t (nX hx)
 |_=>rfl
theorem YE.on{e:GZ}{d:Option Nat}(hy:YE P Aq S o v e)(hs: ∀cs b,o.op≠ .select cs b)(h: ∀t,d=some t→t∉o.looksAt Aq):YE P Aq S o v (Dz d u e):=by
 have:=BY (Aq:=Aq) (o:=o) (e:=Dz d u e) (e':=e) hs (fun t ht=>Uw (fun e=>h t e ht));unfold YE Pj at*
 rw[this.1,this.2];exact hy
structure XH [Inhabited (List Deferred)] (P:Program) (Aq:Array Oper) (n:Nat) (ord:List Nat) (L:Array Bool) (a:Act) (S:World→Prop) (V:List (Nat×Value)) (r:List Nat) (e:GZ):Prop where
 size:L.size=Aq.size
 defers:a.defers=default
 dF:a.tmps.size=n
 at_: ∀t,(∀x∈V,(Aq[x.1]?).bind (·.dst)≠some t)→a.tmps.getD t undef=lk e t
 has: ∀x∈V,∀t,(Aq[x.1]?).bind (·.dst)=some t→lk e t=x.2
 rem: ∀i,i<Aq.size→(L.getD i true=false↔i∈V.map (·.1)∨i∈r)
 Gt: ∀(j:Nat) (oj:Oper),Aq[j]?=some oj→L.getD j false=true→ ∀ed∈oj.after,Region.binds .any ed=true→L.getD ed.on false=true
 Wf: ∃Dh,ord=Dh++r∧ ∀x∈V,x.1∈Dh
 nodup:(V.map (·.1)).Nodup
 still: ∀x∈V,∃ox,Aq[x.1]?=some ox∧YE P Aq S ox x.2 e
theorem iH{oj:Oper}(ho:Aq[j]?=some oj)(hall: ∀e∈oj.after,Region.binds .any e=true→L.getD e.on false=true)(h:waits Aq j i=true):L.getD i false=true:=by
 unfold waits at h;rw[ho] at h;obtain⟨e,he,hb⟩:=Array.any_eq_true'.1 h;simp only[Bool.and_eq_true,beq_iff_eq] at hb;rw[←hb.2];exact hall e he hb.1
theorem Fa{Aq:Array Oper}{L:Array Bool}{i:Nat}(hcl: ∀(j:Nat) (oj:Oper),Aq[j]?=some oj→L.getD j false=true→ ∀ed∈oj.after,Region.binds .any ed=true→L.getD ed.on false=true):
  ∀(f j:Nat) (oj:Oper),Aq[j]?=some oj→(∀e∈oj.after,Region.binds .any e=true→L.getD e.on false=true)→desc Aq f i j=true→L.getD i false=true
 |0,_,_,_,_,h=>by simp[desc] at h
 |f+1,j,oj,ho,hall,h=>by
  unfold desc at h;rw[ho] at h;obtain⟨e,he,hb⟩:=Array.any_eq_true'.1 h;simp only[Bool.and_eq_true,beq_iff_eq,Bool.or_eq_true] at hb;have hl:=hall e he hb.1;rcases hb.2 with h1|h1
  ·rw[←h1];exact hl
  cases ho':Aq[e.on]? with
  |none=>
   cases f with
   |zero=>simp[desc] at h1
   |succ f=>
    unfold desc at h1;rw[ho'] at h1;cases h1
  |some o'=>exact Fa hcl f e.on o' ho' (hcl _ _ ho' hl) h1
theorem YD(g:Nat→Nat): ∀(l:List Nat),l≠[]→ ∃x∈l,∀y∈l,g x≤g y
 |[],h=>(h rfl).elim
 |[x],_=>⟨x,by simp,by simp⟩
 |x::y::l,_=>by
  obtain⟨z,hz,hm⟩:=YD g (y::l) (by simp);by_cases h:g x≤g z
  ·exact⟨x,by simp,fun u hu=>by
    rcases List.mem_cons.1 hu with rfl|hu
    ·exact Nat.le_refl _
    exact Nat.le_trans h (hm u hu)⟩
  exact⟨z,List.mem_cons_of_mem _ hz,fun u hu=>by
   rcases List.mem_cons.1 hu with rfl|hu
   ·omega
   exact hm u hu⟩
theorem Qn{j:Nat}: ∀(V:List (Nat×Value)),(V.map (·.1)).Nodup→j∈V.map (·.1)→(V.filter (fun x=>x.1 !=j)).length+1=V.length
 |[],_,h=>by simp at h
 |x::V,hn,h=>by
  simp only[List.map_cons,List.nodup_cons] at hn;by_cases hx:x.1=j
  ·subst hx;rw[List.filter_cons_of_neg (by simp),List.filter_eq_self.2 (fun y hy=>by
    have:y.1≠x.1:=fun e=>hn.1 (e▸List.mem_map.2 ⟨y,hy,rfl⟩)
    simpa using this)]
   rfl
  rw[List.filter_cons_of_pos (by simpa using hx)];have:j∈V.map (·.1):=by
   simp only[List.map_cons,List.mem_cons] at h;rcases h with h|h
   ·exact(hx h.symm).elim
   exact h
  have:=Qn V hn.2 this;simp only[List.length_cons];omega
section
variable{lo:Nat→Bool}{K:(World→Prop)→GZ→Prop}
theorem GL(hs:L.size=Aq.size)(hi:i<Aq.size):L.getD i false=true↔ ¬L.getD i true=false:=by
 have:i<L.size:=by omega
 simp[this]
theorem Js(ho:Aq[i]?=some o):(Aq[i]?).bind (·.dst)=o.dst:=by rw[ho];rfl
variable[Inhabited (List Deferred)]
theorem XH.Uy(hc:uY Aq n ord lo ef){a:Act}{e:GZ}(h:XH P Aq n ord L a S V (i::r) e)(ho:Aq[i]?=some o)(XV:ef i=false)(hy:YE P Aq S o v e):
  XH P Aq n ord L a S (V++[(i,v)]) r (Dz o.dst v e):=by
 obtain⟨Dh,hpre,hV⟩:=h.Wf;have hnd:(Dh++i::r).Nodup:=hpre▸hc.nodup;have MT:i∉Dh:=fun hm=>by
  rw[List.nodup_append] at hnd;exact hnd.2.2 i hm i (List.mem_cons_self ..) rfl
 have hne: ∀x∈V,x.1≠i:=fun x hx e=>MT (e▸hV x hx)
 have hlt: ∀x∈V,pos ord x.1<pos ord i:=fun x hx=>by rw[hpre];exact TQ (hV x hx) MT
 refine⟨h.size,h.defers,h.dF,fun t ht=>?_,fun x hx t ht=>?_,fun k hk=>?_,h.Gt,⟨Dh++[i],by rw[hpre];simp,fun x hx=>?_⟩,?_,fun x hx=>?_⟩
 ·have h1:o.dst≠some t:=by
   have:=ht (i,v) (by simp)
   rwa [Js ho] at this
  rw[Uw h1];exact h.at_ t (fun x hx=>ht x (by simp[hx]))
 ·rcases List.mem_append.1 hx with hx|hx
  ·obtain⟨ox,hox,-⟩:=h.still x hx;rw[Js hox] at ht;rw[Uw (fun e=>hc.apart x.1 ox i o hox ho (hne x hx) t ht e)];exact h.has x hx t (by rw[Js hox];exact ht)
  simp only[List.mem_singleton] at hx;subst hx;rw[Js ho] at ht;rw[ht];exact Ux
 ·rw[h.rem k hk];simp only[List.map_append,List.mem_append,List.mem_cons,List.map_cons,List.map_nil,List.not_mem_nil,or_false,or_assoc]
 ·rcases List.mem_append.1 hx with hx|hx
  ·exact List.mem_append_left _ (hV x hx)
  simp only[List.mem_singleton] at hx;subst hx;simp
 ·rw[List.map_append,List.nodup_append];refine⟨h.nodup,by simp,fun x hx y hy=>?_⟩;simp only[List.map_cons,List.map_nil,List.mem_singleton] at hy;subst hy;obtain⟨z,hz,rfl⟩:=List.mem_map.1 hx;exact hne z hz
 rcases List.mem_append.1 hx with hx|hx
 ·obtain⟨ox,hox,hyx⟩:=h.still x hx;refine⟨ox,hox,hyx.on (fun cs b=>Region.noSelect_spec hc.sX x.1 ox cs b hox) (fun t ht hm=>?_)⟩;have h2:=((hc.Xi x.1 ox i o hox ho t ht hm).resolve_right (fun h=>by rw[XV] at h;cases h.1)).2;unfold waits at h2;rw[hox] at h2;obtain⟨ed,he,hb⟩:=Array.any_eq_true'.1 h2;simp only[Bool.and_eq_true,beq_iff_eq] at hb;have h3:=(hc.ext x.1 ox hox ed he hb.1).1;rw[hb.2] at h3;have:=hlt x hx;omega
 simp only[List.mem_singleton] at hx;subst hx;refine⟨o,ho,hy.on (fun cs b=>Region.noSelect_spec hc.sX i o cs b ho) (fun t ht hm=>?_)⟩;exact((hc.Xi i o i o ho ho t ht hm).resolve_right (fun h=>by rw[XV] at h;cases h.1)).1 rfl
end
section
variable{lo:Nat→Bool}{K:(World→Prop)→GZ→Prop}
theorem YF{oj:Oper}(hcl: ∀(j:Nat) (oj:Oper),Aq[j]?=some oj→L.getD j false=true→ ∀ed∈oj.after,Region.binds .any ed=true→L.getD ed.on false=true)
  (ho:Aq[j]?=some oj) (hall: ∀ed∈oj.after,Region.binds .any ed=true→L.getD ed.on false=true):
  ∀(k:Nat) (ok:Oper),Aq[k]?=some ok→(L.setIfInBounds j true).getD k false=true→ ∀ed∈ok.after,Region.binds .any ed=true→(L.setIfInBounds j true).getD ed.on false=true:=fun k ok hk hl ed he hb=>by
 by_cases hjk:j=k
 ·subst hjk;obtain rfl:ok=oj:=Option.some.inj (hk.symm.trans ho);exact getD_set_true (hall ed he hb)
 rw[getD_set_ne false hjk] at hl;exact getD_set_true (hcl k ok hk hl ed he hb)
theorem yX(hs:L.size=Aq.size)(hj:j<Aq.size)(k:Nat)(hk:k<Aq.size):(L.setIfInBounds j true).getD k true=false↔(L.getD k true=false∧k≠j):=by
 by_cases hjk:j=k
 ·subst hjk;have:j<L.size:=by omega
  simp[this]
 rw[getD_set_ne true hjk];exact⟨fun h=>⟨h,Ne.symm hjk⟩,fun h=>h.1⟩
variable[Inhabited (List Deferred)]
theorem XH.ready(hc:uY Aq n ord lo ef){a:Act}{e:GZ}(h:XH P Aq n ord L a S V r e)(hne:V.map (·.1)++r≠[]):Region.ready .any Aq L≠[]:=by
 obtain⟨x,hx,hm⟩:=YD (pos ord) _ hne;obtain⟨Dh,hpre,hV⟩:=h.Wf;have hxo:x∈ord:=by
  rw[hpre];rcases List.mem_append.1 hx with hx|hx
  ·obtain⟨z,hz,rfl⟩:=List.mem_map.1 hx;exact List.mem_append_left _ (hV z hz)
  exact List.mem_append_right _ hx
 have hxs:x<Aq.size:=hc.lt x hxo;intro h0;have:x∈Region.ready .any Aq L:=by
  refine mem_ready.2 ⟨(h.rem x hxs).2 (by simpa using hx),Aq[x],Array.getElem?_eq_getElem hxs,fun ed he hb=>?_⟩;obtain⟨h1,h2⟩:=hc.ext x Aq[x] (Array.getElem?_eq_getElem hxs) ed he hb;rw[GL (Aq:=Aq) h.size h2,h.rem _ h2];intro h3;have:=hm ed.on (List.mem_append.2 h3);omega
 rw[h0] at this;cases this
theorem XH.Xi(hc:uY Aq n ord lo ef){a:Act}{e:GZ}(h:XH P Aq n ord L a S V r e)(Ui: ∀x∈V,ef x.1=false){oj:Oper}(ho:Aq[j]?=some oj)(hall: ∀ed∈oj.after,Region.binds .any ed=true→L.getD ed.on false=true):
  ∀t∈oj.looksAt Aq,a.tmps.getD t undef=lk e t:=fun t ht=>h.at_ t fun x hx hd=>by
 obtain⟨ox,hox,-⟩:=h.still x hx;rw[Js hox] at hd;have h1:=iH ho hall ((hc.Xi j oj x.1 ox ho hox t hd ht).resolve_right (fun h=>by rw[Ui x hx] at h;cases h.1)).2;have hxs:x.1<Aq.size:=(Array.getElem?_eq_some_iff.1 hox).1;exact(GL (Aq:=Aq) h.size hxs).1 h1 ((h.rem _ hxs).2 (.inl (List.mem_map.2 ⟨x,hx,rfl⟩)))
theorem XH.take(hc:uY Aq n ord lo ef){a:Act}{e:GZ}(h:XH P Aq n ord L a S V r e){x:Nat×Value}(hx:x∈V){ox:Oper}(ho:Aq[x.1]?=some ox)(hall: ∀ed∈ox.after,Region.binds .any ed=true→L.getD ed.on false=true):
  XH P Aq n ord (L.setIfInBounds x.1 true) (a.put ox.dst x.2) S (V.filter (fun y=>y.1 !=x.1)) r e:=by
 obtain⟨Dh,hpre,hV⟩:=h.Wf;have hxs:x.1<Aq.size:=(Array.getElem?_eq_some_iff.1 ho).1;have hnd:(Dh++r).Nodup:=hpre▸hc.nodup;have hxr:x.1∉r:=fun hm=>by
  rw[List.nodup_append] at hnd;exact hnd.2.2 _ (hV x hx) _ hm rfl
 have keys: ∀k,k∈(V.filter (fun y=>y.1 !=x.1)).map (·.1)↔(k∈V.map (·.1)∧k≠x.1):=fun k=>by
  simp only[List.mem_map,List.mem_filter,bne_iff_ne];exact⟨fun⟨y,⟨h1,h2⟩,h3⟩=>⟨⟨y,h1,h3⟩,h3▸h2⟩,fun⟨⟨y,h1,h3⟩,h2⟩=>⟨y,⟨h1,h3▸h2⟩,h3⟩⟩
 refine⟨by simp[h.size],?_,?_,fun t ht=>?_,fun y hy t hd=>h.has y (List.mem_filter.1 hy).1 t hd,fun k hk=>?_,YF h.Gt ho hall,⟨Dh,hpre,fun y hy=>hV y (List.mem_filter.1 hy).1⟩,?_,fun y hy=>h.still y (List.mem_filter.1 hy).1⟩
 ·cases hd:ox.dst<;>exact h.defers
 ·cases hd:ox.dst<;>simp[Act.put,h.dF]
 ·by_cases hd:ox.dst=some t
  ·rw[hd];have h1:=h.has x hx t (by rw[Js ho];exact hd);have h2:=hc.dst x.1 ox ho t hd;have h3:=h.dF;simp[Act.put,h1,h3,h2]
  have:(a.put ox.dst x.2).tmps.getD t undef=a.tmps.getD t undef:=by
   cases hd':ox.dst with
   |none=>rfl
   |some u=>
    have:u≠t:=fun e=>hd (by rw[hd',e])
    simp[Act.put,Array.getElem?_setIfInBounds_ne this]
  rw[this];refine h.at_ t fun y hy=>?_
  by_cases hyx:y.1=x.1
  ·rw[hyx,Js ho];exact hd
  exact ht y (List.mem_filter.2 ⟨hy,by simpa using hyx⟩)
 ·rw[yX h.size hxs k hk,h.rem k hk,keys];constructor
  ·rintro⟨h1|h1,h2⟩
   ·exact .inl ⟨h1,h2⟩
   exact .inr h1
  rintro(⟨h1,h2⟩|h1)
  ·exact⟨.inl h1,h2⟩
  exact⟨.inr h1,fun e=>hxr (e▸h1)⟩
 exact(List.filter_sublist.map _).nodup h.nodup
theorem XH.go(hc:uY Aq n ord lo ef){a:Act}{S':World→Prop}{e:GZ}(h:XH P Aq n ord L a S V (i::r) e)(ho:Aq[i]?=some o)(hall: ∀ed∈o.after,Region.binds .any ed=true→L.getD ed.on false=true)
  (hst: ∀x∈V,∃ox,Aq[x.1]?=some ox∧YE P Aq S' ox x.2 e):
  XH P Aq n ord (L.setIfInBounds i true) (a.put o.dst v) S' V r (Dz o.dst v e):=by
 obtain⟨Dh,hpre,hV⟩:=h.Wf;have his:i<Aq.size:=(Array.getElem?_eq_some_iff.1 ho).1;have hnd:(Dh++i::r).Nodup:=hpre▸hc.nodup;have MT:i∉Dh:=fun hm=>by
  rw[List.nodup_append] at hnd;exact hnd.2.2 i hm i (List.mem_cons_self ..) rfl
 have hir:i∉r:=by
  rw[List.nodup_append,List.nodup_cons] at hnd;exact hnd.2.1.1
 have hne: ∀x∈V,x.1≠i:=fun x hx e=>MT (e▸hV x hx)
 have hlt: ∀x∈V,pos ord x.1<pos ord i:=fun x hx=>by rw[hpre];exact TQ (hV x hx) MT
 refine⟨by simp[h.size],?_,?_,fun t ht=>?_,fun x hx t hd=>?_,fun k hk=>?_,YF h.Gt ho hall,⟨Dh++[i],by rw[hpre];simp,fun y hy=>List.mem_append_left _ (hV y hy)⟩,h.nodup,fun x hx=>?_⟩
 ·cases hd:o.dst<;>exact h.defers
 ·cases hd:o.dst<;>simp[Act.put,h.dF]
 ·by_cases hd:o.dst=some t
  ·rw[hd];have h2:=hc.dst i o ho t hd;have h3:=h.dF;rw[Ux];simp[Act.put,h3,h2]
  rw[Uw hd,←h.at_ t ht];cases hd':o.dst with
  |none=>rfl
  |some u=>
   have:u≠t:=fun e=>hd (by rw[hd',e])
   simp[Act.put,Array.getElem?_setIfInBounds_ne this]
 ·obtain⟨ox,hox,-⟩:=h.still x hx;rw[Js hox] at hd;rw[Uw (fun e=>hc.apart x.1 ox i o hox ho (hne x hx) t hd e)];exact h.has x hx t (by rw[Js hox];exact hd)
 ·rw[yX h.size his k hk,h.rem k hk];constructor
  ·rintro⟨h1|h1,h2⟩
   ·exact .inl h1
   rcases List.mem_cons.1 h1 with h1|h1
   ·exact(h2 h1).elim
   exact .inr h1
  rintro(h1|h1)
  ·refine⟨.inl h1,fun e=>?_⟩;obtain⟨y,hy,hyk⟩:=List.mem_map.1 h1;exact hne y hy (hyk.trans e)
  exact⟨.inr (List.mem_cons_of_mem _ h1),fun e=>hir (e▸h1)⟩
 obtain⟨ox,hox,hyx⟩:=hst x hx;refine⟨ox,hox,hyx.on (fun cs b=>Region.noSelect_spec hc.sX x.1 ox cs b hox) (fun t ht hm=>?_)⟩;have h2:=((hc.Xi x.1 ox i o hox ho t ht hm).resolve_right (fun hq=>by
  have hxs:x.1<Aq.size:=(Array.getElem?_eq_some_iff.1 hox).1;exact(GL (Aq:=Aq) h.size hxs).1 (Fa h.Gt _ i o ho hall hq.2) ((h.rem _ hxs).2 (.inl (List.mem_map.2 ⟨x,hx,rfl⟩))))).2
 unfold waits at h2;rw[hox] at h2;obtain⟨ed,he,hb⟩:=Array.any_eq_true'.1 h2;simp only[Bool.and_eq_true,beq_iff_eq] at hb;have h3:=(hc.ext x.1 ox hox ed he hb.1).1;rw[hb.2] at h3;have:=hlt x hx;omega
theorem B0(hc:uY Aq n ord lo ef)
  (hK: ∀S e,K S e→ ∀w a,S w→IC a n e→Q .normal a w) (fuel:Nat)
  (ih: ∀(r:List Nat) (L:Array Bool) (a:Act) (w:World) (S:World→Prop) (V U:List (Nat×Value)) (e:GZ),V.length+r.length=fuel→X P Aq lo ef K r S U e→S w→XH P Aq n ord L a S V r e→(∀x∈V,lo x.1=true→x∈U)→(∀x∈V,ef x.1=false)→wpAnyIn (Fr none) 0 P .any Aq Q fuel L a w)
  (r:List Nat) (hr:r=[]∨ ∃i r',r=i::r'∧ef i=true) (L:Array Bool) (a:Act) (w:World) (S:World→Prop) (V U:List (Nat×Value)) (e:GZ) (hf:V.length+r.length=fuel+1) (hX:X P Aq lo ef K r S U e) (hS:S w)
  (h:XH P Aq n ord L a S V r e) (hU: ∀x∈V,lo x.1=true→x∈U) (Ui: ∀x∈V,ef x.1=false):wpAnyIn (Fr none) 0 P .any Aq Q (fuel+1) L a w:=by
 refine⟨fun h0=>(h.ready hc (fun e=>?_) h0).elim,fun j hj=>?_⟩
 ·have:=congrArg List.length e;simp at this;simp[this.1,this.2] at hf
 obtain⟨dT,oj,hoj,hall⟩:=mem_ready.1 hj;have hjs:j<Aq.size:=(Array.getElem?_eq_some_iff.1 hoj).1;obtain⟨QE,hwant⟩:=YB (Aq:=Aq) (a:=a) (e:=e) (fun cs b=>Region.noSelect_spec hc.sX j oj cs b hoj) (h.Xi hc Ui hoj hall);rcases(h.rem j hjs).1 dT with Wg|hjr
 ·obtain⟨x,hx,rfl⟩:=List.mem_map.1 Wg;obtain⟨ox,hox,hy⟩:=h.still x hx;obtain rfl:ox=oj:=Option.some.inj (hox.symm.trans hoj);have hinv:=h.take hc hx hoj hall;have hlen:=Qn V h.nodup Wg;have B7: ∀y∈V.filter (fun y=>y.1 !=x.1),lo y.1=true→y∈U:=fun y hy hl=>hU y (List.mem_filter.1 hy).1 hl
  have hV': ∀y∈V.filter (fun y=>y.1 !=x.1),ef y.1=false:=fun y hy=>Ui y (List.mem_filter.1 hy).1
  unfold wpOpIn;rw[hoj];show if Region.wanted ox (yielded Aq a.tmps) then _ else _
  rcases hy with⟨Yz,hy⟩|⟨Yz,hv⟩
  ·rw[hwant,Yz,if_pos rfl];refine(KP (K:=fun u w'=>u=x.2∧S w') ?_ ?_)
   ·have:=hy w hS;unfold Pj at this⊢
    rw[QE];exact this
   rintro u w' ⟨rfl,hS'⟩;exact ih r _ _ w' S _ U e (by omega) hX hS' hinv B7 hV'
  rw[hwant,Yz];refine⟨fun _ _=>trivial,?_⟩;show wpAnyIn (Fr none) 0 P .any Aq Q fuel _ (a.put ox.dst undef) w;rw[←hv];exact ih r _ _ w S _ U e (by omega) hX hS hinv B7 hV'
 rcases hr with rfl|⟨i,r',rfl,XV⟩
 ·cases hjr
 obtain⟨Dh,hpre,hV⟩:=h.Wf;have hnd:(Dh++i::r').Nodup:=hpre▸hc.nodup;have MT:i∉Dh:=fun hm=>by
  rw[List.nodup_append] at hnd;exact hnd.2.2 i hm i (List.mem_cons_self ..) rfl
 obtain⟨o,ho,hx⟩:=hX;have his:i<Aq.size:=(Array.getElem?_eq_some_iff.1 ho).1;by_cases hji:j=i
 ·subst hji;obtain rfl:o=oj:=Option.some.inj (ho.symm.trans hoj);rw[XV] at hx;obtain⟨Yz,hx⟩:=hx;have hlo: ∀x∈V,x∈U:=fun x Qa=>by
   refine hU x Qa ?_;cases hl:lo x.1 with
   |true=>rfl
   |false=>
    obtain⟨ox,hox,-⟩:=h.still x Qa;have hxs:x.1<Aq.size:=(Array.getElem?_eq_some_iff.1 hox).1;have h1:=hc.cY x.1 j hxs hjs XV (Ui x Qa) hl (by rw[hpre];exact TQ (hV x Qa) MT);have h2:=Fa h.Gt _ j o hoj hall h1;exact((GL (Aq:=Aq) h.size hxs).1 h2 ((h.rem _ hxs).2 (.inl (List.mem_map.2 ⟨x,Qa,rfl⟩)))).elim
  have hds: ∀x∈V,desc Aq Aq.size x.1 j=false:=fun x Qa=>by
   cases hd:desc Aq Aq.size x.1 j with
   |false=>rfl
   |true=>
    obtain⟨ox,hox,-⟩:=h.still x Qa;have hxs:x.1<Aq.size:=(Array.getElem?_eq_some_iff.1 hox).1;have h2:=Fa h.Gt _ j o hoj hall hd;exact((GL (Aq:=Aq) h.size hxs).1 h2 ((h.rem _ hxs).2 (.inl (List.mem_map.2 ⟨x,Qa,rfl⟩)))).elim
  unfold wpOpIn;rw[hoj];show if Region.wanted o (yielded Aq a.tmps) then _ else _
  rw[hwant,Yz,if_pos rfl];refine(KP (K:=fun v w'=> ∃S':World→Prop,S' w'∧(∀x∈U,desc Aq Aq.size x.1 j=false→ ∃ox,Aq[x.1]?=some ox∧YE P Aq S' ox x.2 e)∧X P Aq lo ef K r' S' U (Dz o.dst v e)) ?_ ?_)
  ·have:=hx w hS;unfold Pj at this⊢
   rw[QE];exact this
  rintro v w' ⟨S',h1,h2,h3⟩;refine ih r' _ _ w' S' V U _ ?_ h3 h1 (h.go hc hoj hall (fun x Qa=>h2 x (hlo x Qa) (hds x Qa))) hU Ui;simp only[List.length_cons] at hf;omega
 have po:j∈r':=(List.mem_cons.1 hjr).resolve_left hji;have hlt:pos ord i<pos ord j:=by
  have:ord=(Dh++[i])++r':=by rw[hpre];simp
  rw[this];refine TQ (by simp) (fun hm=>?_);have hnd':((Dh++[i])++r').Nodup:=by simpa using hnd
  rw[List.nodup_append] at hnd';exact hnd'.2.2 j hm j po rfl
 have h2:=Fa h.Gt _ j oj hoj hall (hc.qw i j his hjs XV hlt);exact((GL (Aq:=Aq) h.size his).1 h2 ((h.rem _ his).2 (.inr (List.mem_cons_self ..)))).elim
theorem dG(hc:uY Aq n ord lo ef)(hK: ∀S e,K S e→ ∀w a,S w→IC a n e→Q .normal a w): ∀(fuel:Nat) (r:List Nat) (L:Array Bool) (a:Act) (w:World) (S:World→Prop) (V U:List (Nat×Value)) (e:GZ),V.length+r.length=fuel→X P Aq lo ef K r S U e→S w→XH P Aq n ord L a S V r e→(∀x∈V,lo x.1=true→x∈U)→(∀x∈V,ef x.1=false)→wpAnyIn (Fr none) 0 P .any Aq Q fuel L a w:=by
 intro fuel;induction fuel with
 |zero=>
  intro r L a w S V U e hf hX hS h hU Ui;have hf1:V.length=0:=by omega
  have hf2:r.length=0:=by omega
  obtain rfl:V=[]:=List.eq_nil_of_length_eq_zero hf1;obtain rfl:r=[]:=List.eq_nil_of_length_eq_zero hf2;refine⟨List.eq_nil_iff_forall_not_mem.2 fun j hj=>?_,hK S e hX w a hS ⟨h.defers,h.dF,fun t=>h.at_ t (by simp)⟩⟩;obtain⟨dT,oj,hoj,-⟩:=mem_ready.1 hj;have:=(h.rem j (Array.getElem?_eq_some_iff.1 hoj).1).1 dT;simp at this
 |succ fuel ih=>
  intro r;induction r with
  |nil=>
   intro L a w S V U e hf hX hS h hU Ui;exact B0 hc hK fuel ih [] (.inl rfl) L a w S V U e hf hX hS h hU Ui
  |cons i r ihr=>
   intro L a w S V U e hf hX hS h hU Ui;cases XV:ef i with
   |true=>exact B0 hc hK fuel ih (i::r) (.inr ⟨i,r,rfl,XV⟩) L a w S V U e hf hX hS h hU Ui
   |false=>
    obtain⟨o,ho,hx⟩:=hX;rw[XV] at hx;obtain⟨v,hy,hx⟩:=hx;refine ihr L a w S (V++[(i,v)]) (bif lo i then(i,v)::U else U) (Dz o.dst v e) ?_ hx hS (h.Uy hc ho XV hy) ?_ ?_
    ·simp only[List.length_cons,List.length_append,List.length_nil] at hf⊢
     omega
    ·intro x hx' hl;rcases List.mem_append.1 hx' with hx'|hx'
     ·have:=hU x hx' hl;cases lo i
      ·exact this
      exact List.mem_cons_of_mem _ this
     simp only[List.mem_singleton] at hx';subst hx';rw[hl];exact List.mem_cons_self ..
    intro x hx';rcases List.mem_append.1 hx' with hx'|hx'
    ·exact Ui x hx'
    simp only[List.mem_singleton] at hx';subst hx';exact XV
theorem uE(hm:P.follows .mixedOrders=true)(hck:Bm Aq n ord lo ef=true)(hK: ∀S e,K S e→ ∀w a,S w→IC a n e→Q .normal a w){e:GZ}(hX:X P Aq lo ef K ord S [] e)(hS: ∀w,S w→S w.drew)
  {a:Act} (hw:S w) (hF:IC a n e):(Code.region id Aq true).wp P Q a w:=by
 have hc:=YA hck;refine wpIn_wide.1 (wpIn_region_any (F:=Fr none) (n:=0) hm ?_);refine dG hc hK Aq.size ord _ a _ S [] [] e (by simp[hc.len]) hX (hS w hw) ?_ (by simp) (by simp);refine⟨by simp,hF.defers,hF.size,fun t _=>hF.at_ t,by simp,fun i hi=>?_,fun j oj ho hl=>?_,⟨[],rfl,by simp⟩,by simp,by simp⟩
 ·have:=hc.mem i hi;simp[hi,this]
 have hj:j<Aq.size:=(Array.getElem?_eq_some_iff.1 ho).1;simp[hj] at hl
theorem eA(hd: ∀(i:Nat) (o:Oper),Aq[i]?=some o→ ∀t,o.dst=some t→t<n)(hK: ∀S e,K S e→ ∀w a,S w→IC a n e→Q .normal a w){e:GZ}(hX:X P Aq (fun _=>false) ef K (List.range Aq.size) S [] e)
  {a:Act} (hw:S w) (hF:IC a n e):(Code.region id Aq false).wp P Q a w:=
 wpIn_wide.1 (wpIn_region (F:=Fr none) (n:=0) (nV hd hK _ S [] e hX w a hw hF))
theorem yY{l:Nat}(hd: ∀(i:Nat) (o:Oper),Aq[i]?=some o→ ∀t,o.dst=some t→t<n)(hK: ∀S e,K S e→ ∀w a,S w→IC a n e→Q .normal a w){e:GZ}(hX:X P Aq (fun _=>false) ef K (List.range Aq.size) S [] e)
  {a:Act} (hw:S w) (hF:IC a n e):(Code.region id Aq false).wpIn (Fr (some l)) 0 P Q a w:=
 wpIn_region (nV hd hK _ S [] e hX w a hw hF)
end
abbrev LV:=Nat→Prop
abbrev BB:=LV→World→Prop
structure Bk where
 b:Nat
 t:Nat
 cs:List Value
def Bk.is(x:Bk)(w:World):Prop:=w.heap[x.b]?=some (.cells x.cs.toArray x.t (0,0))
def CV(R:BB):Prop:= ∀D w w',R D w→(∀k,D k→w'.heap[k]?=w.heap[k]?)→R D w'
def Cj:BB:=fun D _=> ∀k,¬D k
theorem Aa:CV Cj:=fun _ _ _ h _=>h
def blk(x:Bk)(R:BB):BB:=fun D w=>x.is w∧ ∃D1,R D1 w∧ ¬D1 x.b∧ ∀k,D k↔(k=x.b∨D1 k)
theorem yZ{x:Bk}{R:BB}(h:CV R):CV (blk x R):=fun D w w' ⟨h1,D1,h2,h3,h4⟩ hk=>
 ⟨(hk x.b ((h4 _).2 (.inl rfl))).trans h1,D1,h D1 w w' h2 (fun k hd=>hk k ((h4 k).2 (.inr hd))),h3,h4⟩
def BG(R R':BB):BB:=fun D w=> ∃D1 D2,R D1 w∧R' D2 w∧(∀k,D1 k→ ¬D2 k)∧ ∀k,D k↔(D1 k∨D2 k)
theorem Ag{R R':BB}(h:CV R)(h':CV R'):CV (BG R R'):=fun D w w' ⟨D1,D2,h1,h2,h3,h4⟩ hk=>
 ⟨D1,D2,h D1 w w' h1 (fun k hd=>hk k ((h4 k).2 (.inl hd))),h' D2 w w' h2 (fun k hd=>hk k ((h4 k).2 (.inr hd))),h3,h4⟩
def Az:List Bk→BB→BB
 |[],R=>R
 |x::H,R=>blk x (Az H R)
theorem Ac{R:BB}(h:CV R): ∀H,CV (Az H R)
 |[]=>h
 |x::H=>yZ (Ac h H)
theorem AQ{α:Sort _}{R:α→BB}(h: ∀a,CV (R a)):CV (fun D w=> ∃a,R a D w):=fun D w w' ⟨a,ha⟩ hk=>⟨a,h a D w w' ha hk⟩
theorem Ba{p:Prop}{R:BB}(h:CV R):CV (fun D w=>p∧R D w):=fun D w w' ⟨hp,ha⟩ hk=>⟨hp,h D w w' ha hk⟩
structure aO (C:Cx) (w:World) (D:LV):Prop where
 map:E8 w C
 lt: ∀k,D k→k<w.heap.size
 ls:C.s<w.heap.size∧C.g<w.heap.size
 ns: ¬D C.s
 ng: ¬D C.g
 nm: ¬D C.m∧C.m≠C.s∧C.m≠C.g
 na: ¬D C.ga∧C.ga≠C.s∧C.ga≠C.g
 nr: ¬D C.gr∧C.gr≠C.s∧C.gr≠C.g
def Cx.with(C:Cx)(D:LV):LV:=fun k=>D k∨k=C.s∨k=C.g
theorem E8.lt(h:E8 w C):C.m<w.heap.size∧C.ga<w.heap.size∧C.gr<w.heap.size:=
 ⟨lt_of_block h.mb,(World.ownsRow.lt h.ra C.ga rfl).2,(World.ownsRow.lt h.rr C.gr rfl).2⟩
theorem E8.Kr(h:E8 w C){F:Nat→Prop}(hb:KE F w w')(h1: ¬F C.m)(h2: ¬F C.ga)(h3: ¬F C.gr):E8 w' C:=by
 refine⟨h.ok,(hb.block C.m h.lt.1 h1).trans h.mb,own_move h.ra (fun k hk=>?_),own_move h.rr (fun k hk=>?_)⟩
 ·have e:C.ga=k:=by simpa[Value.ownBlock] using hk
  subst e;exact hb.block C.ga h.lt.2.1 h2
 have e:C.gr=k:=by simpa[Value.ownBlock] using hk
 subst e;exact hb.block C.gr h.lt.2.2 h3
def Ct(C:Cx)(f:Nat)(args:Array Value)(l:Dk)(R:BB)(Q:Value→Dk→BB):Prop:=
 ∀w D,aO C w D→Mem w C l→R D w→Calls Tryz.prog f args w fun e w'=> ∃v l' D',e= .returned v∧Mem w' C l'∧Q v l' D' w'∧
  KE (C.with D) w w'∧ ∀k,D' k→k<w'.heap.size∧(D k∨w.heap.size≤k)
structure Sy (C:Cx) (w0:World) (D0:LV) (l:Dk) (H:List Bk) (R:BB) (w:World):Prop where
 OW:aO C w0 D0
 Kr:KE (C.with D0) w0 w
 mem:Mem w C l
 Qo:CV R
 NK: ∃D,Az H R D w∧ ∀k,D k→k<w.heap.size∧(D0 k∨w0.heap.size≤k)
section
variable{D0:LV}{H:List Bk}{R:BB}
theorem Sy.drew(h:Sy C w0 D0 l H R w):Sy C w0 D0 l H R w.drew:=by
 obtain⟨D,h1,h2⟩:=h.NK;have hm:=h.mem;refine⟨h.OW,h.Kr.drew,?_,h.Qo,D,Ac h.Qo H D w _ h1 (fun _ _=>rfl),h2⟩;exact hm.Kr (F:=fun _=>False) ⟨rfl,rfl,rfl,Nat.le_refl _,fun _ _ _=>rfl⟩ id id
theorem Sy.map(h:Sy C w0 D0 l H R w):E8 w C:=by
 have ha:=h.OW;refine ha.map.Kr h.Kr ?_ ?_ ?_
 ·rintro(h1|h1|h1)
  ·exact ha.nm.1 h1
  ·exact ha.nm.2.1 h1
  exact ha.nm.2.2 h1
 ·rintro(h1|h1|h1)
  ·exact ha.na.1 h1
  ·exact ha.na.2.1 h1
  exact ha.na.2.2 h1
 rintro(h1|h1|h1)
 ·exact ha.nr.1 h1
 ·exact ha.nr.2.1 h1
 exact ha.nr.2.2 h1
theorem aO.Uy{D0 D:LV}(h:aO C w0 D0)(hsz:w0.heap.size≤w.heap.size)(hm:E8 w C)(hD: ∀k,D k→k<w.heap.size∧(D0 k∨w0.heap.size≤k)):aO C w D:=by
 have no: ∀b,¬D0 b→b<w0.heap.size→ ¬D b:=fun b h1 h2 h3=>by
  rcases(hD b h3).2 with h4|h4
  ·exact h1 h4
  omega
 have h1:=h.map.lt;have h2:=h.ls;exact⟨hm,fun k hk=>(hD k hk).1,⟨Nat.lt_of_lt_of_le h2.1 hsz,Nat.lt_of_lt_of_le h2.2 hsz⟩,no _ h.ns h2.1,no _ h.ng h2.2,⟨no _ h.nm.1 h1.1,h.nm.2⟩,⟨no _ h.na.1 h1.2.1,h.na.2⟩,⟨no _ h.nr.1 h1.2.2,h.nr.2⟩⟩
theorem F6{H:List Bk}{R:BB}{D:LV}(h:Az H R D w){x:Bk}(hx:x∈H):x.is w∧D x.b:=by
 induction H generalizing D with
 |nil=>cases hx
 |cons y H ih=>
  obtain⟨h1,D1,h2,h3,h4⟩:=h;rcases List.mem_cons.1 hx with rfl|hx
  ·exact⟨h1,(h4 _).2 (.inl rfl)⟩
  have:=ih h2 hx;exact⟨this.1,(h4 _).2 (.inr this.2)⟩
end
inductive YG:List Bk→Nat→(List Value→List Value)→List Bk→Prop
 |z {b t:Nat} {cs:List Value} {H:List Bk} {f:List Value→List Value}:YG (⟨b,t,cs⟩::H) b f (⟨b,t,f cs⟩::H)
 |s {x:Bk} {H H':List Bk} {b:Nat} {f:List Value→List Value} (h:YG H b f H'):YG (x::H) b f (x::H')
inductive In:Nat→List Value→List Bk→Prop
 |z {b t:Nat} {cs:List Value} {H:List Bk}:In b cs (⟨b,t,cs⟩::H)
 |s {x:Bk} {H:List Bk} {b:Nat} {cs:List Value} (h:In b cs H):In b cs (x::H)
theorem In.mem{cs:List Value}{H:List Bk}(h:In b cs H): ∃t,⟨b,t,cs⟩∈H:=by
 induction h with
 |z=>exact⟨_,List.mem_cons_self ..⟩
 |s _ ih=>obtain⟨t,h⟩:=ih;exact⟨t,List.mem_cons_of_mem _ h⟩
def Qb:List Value→Nat→Option Value
 |[],_=>none
 |c::_,0=>some c
 |_::cs,k+1=>Qb cs k
def NL:List Value→Nat→Value→List Value
 |[],_,_=>[]
 |_::cs,0,v=>v::cs
 |c::cs,k+1,v=>c::NL cs k v
theorem FO: ∀(cs:List Value) (k:Nat),Qb cs k=cs[k]?
 |[],_=>rfl
 |_::_,0=>rfl
 |_::cs,k+1=>by simp[Qb,FO cs k]
theorem OX: ∀(cs:List Value) (k:Nat) (v:Value),NL cs k v=cs.set k v
 |[],_,_=>rfl
 |_::_,0,_=>rfl
 |_::cs,k+1,v=>by simp[NL,OX cs k v]
theorem nY{H H':List Bk}{f:List Value→List Value}{R:BB}(hR:CV R){D:LV}(h:Az H R D w)(hu:YG H b f H')
  (hw: ∀t cs,w.heap[b]?=some (.cells (List.toArray cs) t (0,0))→w'.heap[b]?=some (.cells (f cs).toArray t (0,0))) (ho: ∀k,k≠b→D k→w'.heap[k]?=w.heap[k]?):Az H' R D w':=by
 induction hu generalizing D with
 |z=>
  obtain⟨h1,D1,h2,h3,h4⟩:=h;exact⟨hw _ _ h1,D1,Ac hR _ D1 w w' h2 (fun k hk=>ho k (fun e=>h3 (e▸hk)) ((h4 k).2 (.inr hk))),h3,h4⟩
 | @s x H H' b f hu ih=>
  obtain⟨h1,D1,h2,h3,h4⟩:=h;have hb:D1 b:=by
   have: ∃y∈H,y.b=b:=by
    clear ih h2 h1 h3 h4 hw ho;induction hu with
    |z=>exact⟨_,List.mem_cons_self ..,rfl⟩
    |s _ ih=>obtain⟨y,hy,e⟩:=ih;exact⟨y,List.mem_cons_of_mem _ hy,e⟩
   obtain⟨y,hy,rfl⟩:=this;exact(F6 h2 hy).2
  refine⟨(ho x.b (fun e=>h3 (e▸hb)) ((h4 _).2 (.inl rfl))).trans h1,D1,ih h2 hw (fun k hk hd=>ho k hk ((h4 k).2 (.inr hd))),h3,h4⟩
section
variable{D0:LV}{H H':List Bk}{R:BB}
theorem Sy.cell(h:Sy C w0 D0 l H R w){cs:List Value}(hi:In b cs H){o:Nat}(hv:Qb cs o=some v):w.cell? ⟨b,o,none⟩=some v∧w.frozen? ⟨b,o,none⟩=false:=by
 obtain⟨D,h1,h2⟩:=h.NK;obtain⟨t,hm⟩:=hi.mem;have h3:=(F6 h1 hm).1;unfold Bk.is at h3;rw[FO] at hv;constructor
 ·simp[World.cell?,h3,hv]
 simp[World.frozen?,h3]
theorem Sy.uZ(h:Sy C w0 D0 l H R w){k:Nat}(hk:D0 k∨w0.heap.size≤k):k≠C.s∧k≠C.g:=by
 have ha:=h.OW;have h2:=ha.ls;constructor
 ·rintro rfl;rcases hk with hk|hk
  ·exact ha.ns hk
  omega
 rintro rfl;rcases hk with hk|hk
 ·exact ha.ng hk
 omega
theorem B8{H H':List Bk}{f:List Value→List Value}(h:YG H b f H'): ∃x∈H,x.b=b:=by
 induction h with
 |z=>exact⟨_,List.mem_cons_self ..,rfl⟩
 |s _ ih=>obtain⟨y,hy,e⟩:=ih;exact⟨y,List.mem_cons_of_mem _ hy,e⟩
end
section
variable{D0:LV}{H H':List Bk}{R:BB}
theorem KE.after{F G:Nat→Prop}{w1 w2:World}(h:KE F w w1)(k:KE G w1 w2)(pn: ∀i,i<w.heap.size→G i→F i):KE F w w2:=
 ⟨k.os.trans h.os,k.tape.trans h.tape,k.output.trans h.output,Nat.le_trans h.size k.size,fun i h1 h2=>(k.block i (Nat.lt_of_lt_of_le h1 h.size) (fun h3=>h2 (pn i h1 h3))).trans (h.block i h1 h2)⟩
theorem QF{o k:Nat}(h:k≠b):(w.setCell ⟨b,o,none⟩ v).heap[k]?=w.heap[k]?:=Below.heap_setCell _ _ _ _ h
theorem Sy.set(h:Sy C w0 D0 l H R w){o:Nat}(hu:YG H b (fun cs=>NL cs o v) H'):Sy C w0 D0 l H' R (w.setCell ⟨b,o,none⟩ v):=by
 obtain⟨D,h1,h2⟩:=h.NK;obtain⟨x,hx,rfl⟩:=B8 hu;have hx':=F6 h1 hx;have hD:=(h2 _ hx'.2).2;have hn:=h.uZ hD;have hch:KE (C.with D0) w0 (w.setCell ⟨x.b,o,none⟩ v):=h.Kr.setCell v (by
  rcases hD with hD|hD
  ·exact .inl (.inl hD)
  exact .inr hD)
 refine⟨h.OW,hch,?_,h.Qo,D,nY h.Qo h1 hu (fun t cs hc=>?_) (fun k hk _=>QF hk),fun k hk=>⟨?_,(h2 k hk).2⟩⟩
 ·have hm:=h.mem;have:=(KE.refl (fun k=>k=x.b) w).setCell (o:=o) v (.inl rfl);exact hm.Kr this hn.1.symm hn.2.symm
 ·rw[Qk hc,OX];simp
 have:=(h2 k hk).1;simpa[World.setCell] using this
theorem Sy.alloc(h:Sy C w0 D0 l H R w)(t:Nat)(cs:List Value):Sy C w0 D0 l (⟨w.heap.size,t,cs⟩::H) R (w.alloc (.cells cs.toArray t)):=by
 obtain⟨D,h1,h2⟩:=h.NK;have hb:Below w.heap.size w (w.alloc (.cells cs.toArray t)):=below_alloc (Below.refl _ _) _;have hch:=h.Kr.alloc (.cells cs.toArray t);refine⟨h.OW,hch,?_,h.Qo,fun k=>k=w.heap.size∨D k,⟨?_,D,Ac h.Qo H D w _ h1 (fun k hk=>hb.block k (h2 k hk).1),fun hk=>?_,fun k=>Iff.rfl⟩,fun k hk=>?_⟩
 ·have hm:=h.mem;exact hm.Kr (KE.below (F:=fun _=>False) hb) id id
 ·show(w.heap.push _)[w.heap.size]?=_;simp
 ·exact absurd (h2 _ hk).1 (Nat.lt_irrefl _)
 have hs:=h.Kr.size;rcases hk with rfl|hk
 ·refine⟨?_,.inr hs⟩;show _<(w.heap.push _).size;simp
 have:=h2 k hk;refine⟨?_,this.2⟩;have:=this.1;show _<(w.heap.push _).size;simp;omega
theorem Sy.call{args:Array Value}{Q:Value→Dk→BB}(h:Sy C w0 D0 l H R w)(hc:Ct C f args l R Q)(hl: ∀v l',CV (Q v l')):
  Calls Tryz.prog f args w fun e w'=> ∃v,e= .returned v∧ ∃l',(∃D w,Q v l' D w)∧Sy C w0 D0 l' H (Q v l') w':=by
 obtain⟨D,h1,h2⟩:=h.NK
 have hsplit: ∀(H:List Bk) (D:LV),Az H R D w→ ∃D1,R D1 w∧(∀k,D1 k→D k)∧(∀x∈H,¬D1 x.b)∧
   ∀(D2:LV) (w':World) (R':BB),R' D2 w'→(∀k,D2 k→D1 k∨ ¬D k)→(∀x∈H,x.is w→x.is w')→ ∃D',Az H R' D' w'∧ ∀k,D' k→D2 k∨(D k∧ ¬D1 k):=by
  intro H;induction H with
  |nil=>exact fun D h=>⟨D,h,fun _ hk=>hk,by simp,fun D2 w' R' h2 _ _=>⟨D2,h2,fun k hk=> .inl hk⟩⟩
  |cons x H ih=>
   rintro D ⟨h1,DH,h2,h3,h4⟩;obtain⟨D1,g1,g2,g3,g4⟩:=ih DH h2;refine⟨D1,g1,fun k hk=>(h4 k).2 (.inr (g2 k hk)),fun y hy=>?_,fun D2 w' R' k1 k2 k3=>?_⟩
   ·rcases List.mem_cons.1 hy with rfl|hy
    ·exact fun hd=>h3 (g2 _ hd)
    exact g3 y hy
   obtain⟨D',m1,m2⟩:=g4 D2 w' R' k1 (fun k hk=>(k2 k hk).imp id (fun hn hd=>hn ((h4 k).2 (.inr hd)))) (fun y hy=>k3 y (List.mem_cons_of_mem _ hy));refine⟨fun k=>k=x.b∨D' k,⟨k3 x (List.mem_cons_self ..) h1,D',m1,fun hx=>?_,fun k=>Iff.rfl⟩,fun k hk=>?_⟩
   ·rcases m2 _ hx with m2|⟨m2,-⟩
    ·rcases k2 _ m2 with k2|k2
     ·exact h3 (g2 _ k2)
     exact k2 ((h4 _).2 (.inl rfl))
    exact h3 m2
   rcases hk with rfl|hk
   ·exact .inr ⟨(h4 _).2 (.inl rfl),fun hd=>h3 (g2 _ hd)⟩
   rcases m2 k hk with m2|⟨m2,m3⟩
   ·exact .inl m2
   exact .inr ⟨(h4 k).2 (.inr m2),m3⟩
 obtain⟨D1,g1,g2,g3,g4⟩:=hsplit H D h1;have hsz:=h.Kr.size;have B9:aO C w D1:=h.OW.Uy hsz h.map (fun k hk=>h2 k (g2 k hk));refine(hc w D1 B9 h.mem g1).mono ?_;rintro e w' ⟨v,l',D',rfl,hm,hQ,hch,hD'⟩;obtain⟨DD,m1,m2⟩:=g4 D' w' (Q v l') hQ (fun k hk=>(hD' k hk).2.imp id (fun hk hd=>by have:=(h2 k hd).1;omega)) (fun x hx hxw=>by
  have uL:=(F6 h1 hx).2;have hlt:=(h2 _ uL);have hn:=h.uZ hlt.2;refine(hch.block x.b hlt.1 ?_).trans hxw;rintro(h5|h5|h5)
  ·exact g3 x hx h5
  ·exact hn.1 h5
  exact hn.2 h5)
 refine⟨v,rfl,l',⟨D',w',hQ⟩,h.OW,h.Kr.after hch (fun k hk h5=>?_),hm,hl v l',DD,m1,fun k hk=>?_⟩
 ·rcases h5 with h5|h5
  ·rcases(h2 k (g2 k h5)).2 with h6|h6
   ·exact .inl h6
   omega
  exact .inr h5
 rcases m2 k hk with m2|⟨m2,m3⟩
 ·have:=hD' k m2;refine⟨this.1,?_⟩;rcases this.2 with h6|h6
  ·exact(h2 k (g2 k h6)).2
  exact .inr (by omega)
 have:=h2 k m2;have:=hch.size;exact⟨by omega,(h2 k m2).2⟩
end
abbrev AX(b:Nat):Value:= .pointer (some ⟨b,0,none⟩)
abbrev fm(id d:Nat):Value:= .func (.func id) #[AX d] #[]
def uF(t d:Nat)(cs:Value→List Value)(Nx:Value→BB→Prop):BB:=fun D w=> ∃nv RN,Nx nv RN∧blk ⟨d,t,cs nv⟩ RN D w
theorem Bd{cs:Value→List Value}{Nx:Value→BB→Prop}(h: ∀nv RN,Nx nv RN→CV RN):CV (uF t d cs Nx):=fun D w w' ⟨nv,RN,h1,h2⟩ hk=>⟨nv,RN,h1,yZ (h nv RN h1) D w w' h2 hk⟩
section
variable{D0:LV}{H:List Bk}{R:BB}
theorem Sy.opens{H2:List Bk}(h:Sy C w0 D0 l [] (Az H2 R) w)(hl:CV R):Sy C w0 D0 l H2 R w:=⟨h.OW,h.Kr,h.mem,hl,h.NK⟩
theorem J5: ∀(H1 H2:List Bk) (R:BB),Az (H1++H2) R=Az H1 (Az H2 R)
 |[],_,_=>rfl
 |x::H1,H2,R=>by
  show blk x (Az (H1++H2) R)=blk x (Az H1 (Az H2 R));rw[J5 H1 H2 R]
theorem Sy.unfold{H1 H2:List Bk}(h:Sy C w0 D0 l H1 (Az H2 R) w)(hl:CV R):Sy C w0 D0 l (H1++H2) R w:=⟨h.OW,h.Kr,h.mem,hl,by rw[J5];exact h.NK⟩
theorem Sy.VR{H1 H2:List Bk}(h:Sy C w0 D0 l (H1++H2) R w):Sy C w0 D0 l H1 (Az H2 R) w:=⟨h.OW,h.Kr,h.mem,Ac h.Qo H2,by rw[←J5];exact h.NK⟩
theorem Sy.MU{α:Sort _}{R:α→BB}(h:Sy C w0 D0 l H (fun D w=> ∃a,R a D w) w)(hl: ∀a,CV (R a)): ∃a,Sy C w0 D0 l H (R a) w:=by
 obtain⟨D,h1,h2⟩:=h.NK;have hb: ∀(H:List Bk) (D:LV),Az H (fun D w=> ∃a,R a D w) D w→ ∃a,Az H (R a) D w:=by
  intro H;induction H with
  |nil=>exact fun D h=>h
  |cons x H ih=>
   rintro D ⟨g1,D1,g2,g3,g4⟩;obtain⟨a,ha⟩:=ih D1 g2;exact⟨a,g1,D1,ha,g3,g4⟩
 obtain⟨a,ha⟩:=hb H D h1;exact⟨a,h.OW,h.Kr,h.mem,hl a,D,ha,h2⟩
theorem Sy.VS{p:Prop}{R:BB}(h:Sy C w0 D0 l H (fun D w=>p∧R D w) w)(hl:CV R):p∧Sy C w0 D0 l H R w:=by
 obtain⟨D,h1,h2⟩:=h.NK;have hb: ∀(H:List Bk) (D:LV),Az H (fun D w=>p∧R D w) D w→p∧Az H R D w:=by
  intro H;induction H with
  |nil=>exact fun D h=>h
  |cons x H ih=>
   rintro D ⟨g1,D1,g2,g3,g4⟩;obtain⟨hp,ha⟩:=ih D1 g2;exact⟨hp,g1,D1,ha,g3,g4⟩
 obtain⟨hp,ha⟩:=hb H D h1;exact⟨hp,h.OW,h.Kr,h.mem,hl,D,ha,h2⟩
theorem Sy.Ca{p:Prop}{R:BB}(h:Sy C w0 D0 l H (fun D w=>p∧R D w) w)(hl:p→CV R):p∧Sy C w0 D0 l H R w:=by
 obtain⟨D,h1,h2⟩:=h.NK;have hb: ∀(H:List Bk) (D:LV),Az H (fun D w=>p∧R D w) D w→p∧Az H R D w:=by
  intro H;induction H with
  |nil=>exact fun D h=>h
  |cons x H ih=>
   rintro D ⟨g1,D1,g2,g3,g4⟩;obtain⟨hp,ha⟩:=ih D1 g2;exact⟨hp,g1,D1,ha,g3,g4⟩
 obtain⟨hp,ha⟩:=hb H D h1;exact⟨hp,h.OW,h.Kr,h.mem,hl hp,D,ha,h2⟩
theorem Sy.MX{cs:Value→List Value}{Nx:Value→BB→Prop}(h:Sy C w0 D0 l H (uF t d cs Nx) w)(hl: ∀nv RN,Nx nv RN→CV RN): ∃nv RN,Nx nv RN∧CV RN∧Sy C w0 D0 l (H++[⟨d,t,cs nv⟩]) RN w:=by
 obtain⟨D,h1,h2⟩:=h.NK;have hb: ∀(H:List Bk) (D:LV),Az H (uF t d cs Nx) D w→ ∃nv RN,Nx nv RN∧Az (H++[⟨d,t,cs nv⟩]) RN D w:=by
  intro H;induction H with
  |nil=>exact fun D h=>h
  |cons x H ih=>
   rintro D ⟨g1,D1,g2,g3,g4⟩;obtain⟨nv,RN,hn,ha⟩:=ih D1 g2;exact⟨nv,RN,hn,g1,D1,ha,g3,g4⟩
 obtain⟨nv,RN,hn,ha⟩:=hb H D h1;exact⟨nv,RN,hn,hl nv RN hn,h.OW,h.Kr,h.mem,hl nv RN hn,D,ha,h2⟩
end
theorem YH{x:Bk}{H:List Bk}{R:BB}{D:LV}(h:Az (x::H) R D w): ∃D',Az [x] Cj D' w∧ ∀k,D' k→D k:=by
 obtain⟨g1,D1,g2,g3,g4⟩:=h;exact⟨fun k=>k=x.b,⟨g1,fun _=>False,fun _ h=>h,id,fun k=>by simp⟩,fun k hk=>(g4 k).2 (.inl hk)⟩
theorem A8{x:Bk}{H:List Bk}{R:BB}{D:LV}(h:Az (x::H) R D w): ∃D',Az H R D' w∧ ∀k,D' k→D k:=by
 obtain⟨g1,D1,g2,g3,g4⟩:=h;exact⟨D1,g2,fun k hk=>(g4 k).2 (.inr hk)⟩
theorem Eo{H:List Bk}{R:BB}{D:LV}(h:Az H R D w): ∃D',Az H Cj D' w∧ ∀k,D' k→D k:=by
 induction H generalizing D with
 |nil=>exact⟨fun _=>False,fun _ h=>h,fun _ h=>h.elim⟩
 |cons x H ih=>
  obtain⟨g1,D1,g2,g3,g4⟩:=h;obtain⟨D',m1,m2⟩:=ih g2;refine⟨fun k=>k=x.b∨D' k,⟨g1,D',m1,fun hx=>g3 (m2 _ hx),fun k=>Iff.rfl⟩,fun k hk=>(g4 k).2 ?_⟩;rcases hk with hk|hk
  ·exact .inl hk
  exact .inr (m2 k hk)
theorem QY{H:List Bk}{R:BB}{D:LV}(h:Az H R D w):H.Pairwise (fun x y=>x.b≠y.b)∧(∀x∈H,x.is w∧D x.b)∧ ∃DR,R DR w∧(∀x∈H,¬DR x.b)∧ ∀k,DR k→D k:=by
 induction H generalizing D with
 |nil=>exact⟨.nil,by simp,D,h,by simp,fun _ h=>h⟩
 |cons x H ih=>
  obtain⟨g1,D1,g2,g3,g4⟩:=h;obtain⟨h1,h2,DR,h3,h4,h5⟩:=ih g2;refine⟨List.pairwise_cons.2 ⟨fun y hy e=>g3 (e▸(h2 y hy).2),h1⟩,fun y hy=>?_,DR,h3,fun y hy=>?_,fun k hk=>(g4 k).2 (.inr (h5 k hk))⟩
  ·rcases List.mem_cons.1 hy with rfl|hy
   ·exact⟨g1,(g4 _).2 (.inl rfl)⟩
   exact⟨(h2 y hy).1,(g4 _).2 (.inr (h2 y hy).2)⟩
  rcases List.mem_cons.1 hy with rfl|hy
  ·exact fun hd=>g3 (h5 _ hd)
  exact h4 y hy
theorem Uz{R:BB}{DR:LV}{w:World}(hR:R DR w): ∀{H:List Bk},H.Pairwise (fun x y=>x.b≠y.b)→(∀x∈H,x.is w∧ ¬DR x.b)→ ∃D,Az H R D w∧ ∀k,D k→DR k∨ ∃x∈H,k=x.b
 |[],_,_=>⟨DR,hR,fun _ h=> .inl h⟩
 |x::H,hp,hm=>by
  obtain⟨h1,h2⟩:=List.pairwise_cons.1 hp;obtain⟨D,g1,g2⟩:=Uz hR h2 (fun y hy=>hm y (List.mem_cons_of_mem _ hy));refine⟨fun k=>k=x.b∨D k,⟨(hm x (List.mem_cons_self ..)).1,D,g1,fun hx=>?_,fun k=>Iff.rfl⟩,fun k hk=>?_⟩
  ·rcases g2 _ hx with h3|⟨y,hy,e⟩
   ·exact(hm x (List.mem_cons_self ..)).2 h3
   exact h1 y hy e
  rcases hk with rfl|hk
  ·exact .inr ⟨x,List.mem_cons_self ..,rfl⟩
  rcases g2 k hk with h3|⟨y,hy,e⟩
  ·exact .inl h3
  exact .inr ⟨y,List.mem_cons_of_mem _ hy,e⟩
def pick(H:List Bk):List Nat→List Bk
 |[]=>[]
 |i::r=>match H[i]? with
  |some x=>x::pick H r
  |none=>pick H r
theorem UC{H:List Bk}: ∀{is:List Nat} {x:Bk},x∈pick H is→ ∃i∈is,H[i]?=some x
 |[],_,h=>by cases h
 |i::r,x,h=>by
  unfold pick at h;split at h
  ·rename_i y hy;rcases List.mem_cons.1 h with rfl|h
   ·exact⟨i,List.mem_cons_self ..,hy⟩
   obtain⟨j,hj,e⟩:=UC h;exact⟨j,List.mem_cons_of_mem _ hj,e⟩
  obtain⟨j,hj,e⟩:=UC h;exact⟨j,List.mem_cons_of_mem _ hj,e⟩
theorem VT{H:List Bk}(hp:H.Pairwise (fun x y=>x.b≠y.b)): ∀{is:List Nat},is.Nodup→(pick H is).Pairwise (fun x y=>x.b≠y.b)
 |[],_=> .nil
 |i::r,hn=>by
  obtain⟨h1,h2⟩:=List.nodup_cons.1 hn;unfold pick;split
  ·rename_i x hx;refine List.pairwise_cons.2 ⟨fun y hy=>?_,VT hp h2⟩;obtain⟨j,hj,e⟩:=UC hy;have hij:i≠j:=fun e=>h1 (e▸hj)
   obtain⟨hi1,hi2⟩:=List.getElem?_eq_some_iff.1 hx;obtain⟨hj1,hj2⟩:=List.getElem?_eq_some_iff.1 e;rw[List.pairwise_iff_getElem] at hp;rcases Nat.lt_or_gt_of_ne hij with h|h
   ·have:=hp i j hi1 hj1 h;rw[hi2,hj2] at this;exact this
   have:=hp j i hj1 hi1 h;rw[hi2,hj2] at this;exact fun e=>this e.symm
  exact VT hp h2
theorem D6(is:List Nat)(hn:is.Nodup){H:List Bk}{R:BB}{D:LV}(h:Az H R D w): ∃D',Az (pick H is) R D' w∧ ∀k,D' k→D k:=by
 obtain⟨h1,h2,DR,h3,h4,h5⟩:=QY h;have hm: ∀x∈pick H is,x∈H:=fun x hx=>by
  obtain⟨i,-,e⟩:=UC hx;exact List.mem_of_getElem? e
 obtain⟨D',g1,g2⟩:=Uz h3 (VT h1 hn) (fun x hx=>⟨(h2 x (hm x hx)).1,h4 x (hm x hx)⟩);refine⟨D',g1,fun k hk=>?_⟩;rcases g2 k hk with h6|⟨x,hx,rfl⟩
 ·exact h5 k h6
 exact(h2 x (hm x hx)).2
theorem Eb(is:List Nat)(hn:is.Nodup){H:List Bk}{R:BB}{D:LV}(h:Az H R D w): ∃D',Az (pick H is) Cj D' w∧ ∀k,D' k→D k:=by
 obtain⟨D1,h1,h2⟩:=Eo h;obtain⟨D2,h3,h4⟩:=D6 is hn h1;exact⟨D2,h3,fun k hk=>h2 k (h4 k hk)⟩
end Go.Proofs.YtmpcfamcbaineaaGreat.Mo
