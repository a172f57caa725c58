/- Part 5 of the proof of the row of the law TopSame: contracts of what it reaches, and the plain law. No condition. -/
import Derived.Test.YtmpcfamcbaineaaGreatU04
set_option linter.all false
set_option maxHeartbeats 8000000
set_option maxRecDepth 100000
open Go.RowKit
namespace Go.Proofs.YtmpcfamcbaineaaGreat.Mo
variable{B H H' H2 H1 Ju Hx Hr:List Bk}{a:Array Operand}{b d n i j t id f m ty t' q et jj bf:Nat}{w w' w0:World}{e:GZ}{v u nv av sv:Value}{y z:Operand}{k k' ik:IntKind}{F R' RN:BB}{o:Oper}{C:Cx}{l l':Dk}{ρ:Operand→Value}{K:(World→Prop)→GZ→Prop}{Q:Exit→Act→World→Prop}{Aq:Array Oper}{ef:Nat→Bool}{r rr:List Nat}{S:World→Prop}{D0 D:LV}{args vs captured zs news:List Value}{fn:Func}{U pv:List (Nat×Value)}{ps:String}{af:Array Edge}{op:BinOp}{LX:Array Nat}{parts:Array (Nat×Operand)}{M:Bz}{ts:List Int}{dr k0:Int}{Ae:Ev}
noncomputable def Ip (t e n:Nat):Bool:=match Tryz.prog.underlying t with
 |some (.slice e')=>e'==e&&(match Tryz.prog.info? e with|some i=>i.size==n&&(match i.zero with|some z=>z.cells.size==n|none=>false)&&decide (i.bytes≤1000)|none=>false)
 |_=>false
theorem IG{e:Nat}(h:Ip t e n=true): ∃i z,Tryz.prog.underlying t=some (.slice e)∧Tryz.prog.info? e=some i∧i.zero=some z∧i.size=n∧i.bytes≤1000∧z.cells.size=n:=by
 unfold Ip at h;split at h
 ·rename_i e' hu;rw[Bool.and_eq_true] at h;obtain⟨h1,h2⟩:=h;have h1:=eq_of_beq h1;subst h1;split at h2
  ·rename_i i hi;simp only[Bool.and_eq_true,decide_eq_true_eq,beq_iff_eq] at h2;obtain⟨⟨h3,h4⟩,h5⟩:=h2;split at h4
   ·rename_i z hz;exact⟨i,z,hu,hi,hz,h3,h5,by simpa using h4⟩
   cases h4
  cases h2
 cases h
theorem IM(b o k:Nat):(⟨b,o,none⟩:Addr).add k=⟨b,o+k,none⟩:=by
 unfold Addr.add;split
 ·rename_i h0;subst h0;rfl
 rfl
theorem CD{e off len c:Nat}{i:Int}(h:Ip t e n=true)(h0:0≤i)(h1:i<len)(w:World):
  (Instr.indexAt t (.slice (some ⟨b,off,none⟩) len c) (.int k i)).run Tryz.prog w= .ok (.pointer (some ⟨b,off+i.toNat*n,none⟩)) w:=by
 obtain⟨inf,z,hu,hi,hz,hs,-⟩:=IG h;have hu':(underlying t).run Tryz.prog w= .ok (.slice e) w:=by unfold underlying;simp[go_sem,hu]
 have h2:0≤i∧i<len:=⟨h0,h1⟩;unfold Instr.indexAt sizeOf typeInfo;simp[go_sem,hu',h2,hi,hs,IM]
theorem Ng{e len c:Nat}{a:Addr}{i:Int}(h:Ip t e n=true)(h0:0≤i)(h1:i≤c)(w:World):
  (Instr.sliceAt t (.slice (some a) len c) none (some (.int k i)) none).run Tryz.prog w= .ok (.slice (some a) i.toNat c) w:=by
 obtain⟨inf,z,hu,hi,hz,hs,-⟩:=IG h;have hu':(underlying t).run Tryz.prog w= .ok (.slice e) w:=by unfold underlying;simp[go_sem,hu]
 unfold Instr.sliceAt;rw[Sem.run_bind,hu',Result.andThen_ok];unfold Instr.slice Instr.sliceBounds Instr.sliceBound sizeOf typeInfo;have ha:a.add 0=a:=rfl;simp[go_sem,hu',h0,h1,hi,ha]
section
variable{R:BB}
variable{lo:Nat→Bool}{d:Option Nat}{gd:Option (Nat×Bool)}{x:Operand}
theorem Jm{off len c:Nat}{j:Int}(G7:(Aq[i]?,(ef i,BA Aq ⟨d,.indexAddr t x y,ty,ps,af,gd⟩ e),EF e x,EF e y)=(some ⟨d,.indexAddr t x y,ty,ps,af,gd⟩,(false,true),some (.slice (some ⟨b,off,none⟩) len c),some (.int k j)))(ht:Ip t et n=true)(h0:0≤j∧j<len)
  (h:X Tryz.prog Aq lo ef K r S (bif lo i then(i,.pointer (some ⟨b,off+j.toNat*n,none⟩))::U else U) (Dz d (.pointer (some ⟨b,off+j.toNat*n,none⟩)) e)):X Tryz.prog Aq lo ef K (i::r) S U e:=have⟨ho,Dy,hx,hy⟩:=MR G7;have⟨hef,hw⟩:=Fb Dy;
 FB ho hef hw (fun w _=>N8 (m:=Instr.indexAt t (ev e x) (ev e y)) rfl (by rw[CY hx,CY hy];exact CD ht h0.1 h0.2 w)) h
theorem kq{len c k:Nat}{a:Addr}{j:Int}(ho:Aq[i]?=some ⟨d,.slice t x none (some y) none,ty,ps,af,gd⟩)(Dy:(ef i,BA Aq ⟨d,.slice t x none (some y) none,ty,ps,af,gd⟩ e)=(false,true))(hx:EF e x=some (.slice (some a) len c))(hy:EF e y=some (.int ik j))(ht:Ip t et n=true)(h0:0≤j∧j≤c∧j.toNat=k)
  (h:X Tryz.prog Aq lo ef K r S (bif lo i then(i,.slice (some a) k c)::U else U) (Dz d (.slice (some a) k c) e)):X Tryz.prog Aq lo ef K (i::r) S U e:=by
 have⟨hef,hw⟩:=Fb Dy;obtain⟨h1,h2,rfl⟩:=h0;exact FB ho hef hw (fun w _=>N8 (m:=Instr.sliceAt t (ev e x) none (some (ev e y)) none) rfl (by rw[CY hx,CY hy];exact Ng ht h1 h2 w)) h
theorem JI: ∀{cs ds:List Value} {k:Nat} {v:Value},Qb cs k=some v→Qb (cs++ds) k=some v
 |[],_,_,_,h=>nomatch h
 |_::_,_,0,_,h=>h
 |_::cs,ds,k+1,v,h=>JI (cs:=cs) (ds:=ds) (k:=k) h
theorem V7{z:Value}{k:Nat}(h:z.cells.size=n)(hk:k≤m):k*n+(Builtin.zeroCells z.cells (m-k)).toList.length=m*n:=by
 simp only[Array.length_toList,Builtin.zeroCells,Array.size_map,Array.size_range,h];rw[←Nat.add_mul,show k+(m-k)=m by omega]
theorem CF{k c:Nat}{cs rest:List Value}(ho:Aq[i]?=some ⟨d,.call ⟨.builtin .append,a, #[t,t]⟩,ty,ps,af,none⟩)(hef:ef i=true)(ha:GV e a.toList=some [.slice none 0 0,.slice (some ⟨b,0,none⟩) k c])(ht:Ip t et n=true)(hi:In b (cs++rest) H)(hk:0<k∧k≤1000)(hn:cs.length=k*n)
  (hp: ∀q rs,Eh Aq i U (Sy C w0 D0 l (⟨q,et,cs++rs⟩::H) R) e) (h: ∀q rs m,k≤m∧cs.length+rs.length=m*n→X Tryz.prog Aq lo ef K r (Sy C w0 D0 l (⟨q,et,cs++rs⟩::H) R) U (Dz d (.slice (some ⟨q,0,none⟩) k m) e)):X Tryz.prog Aq lo ef K (i::r) (Sy C w0 D0 l H R) U e:=
 FH (K':=fun v w'=> ∃q rs m,v= .slice (some ⟨q,0,none⟩) k m∧(k≤m∧cs.length+rs.length=m*n)∧Sy C w0 D0 l (⟨q,et,cs++rs⟩::H) R w') ho hef rfl (fun w hS=>by
  obtain⟨inf,z,hu,hin,hz,hs,hb,hzs⟩:=IG ht;have hc:=run_append_nil (P:=Tryz.prog) (w:=w) t ty et inf z hu hin hz ⟨b,0,none⟩ k c cs (by rw[hs];exact hn) (fun j v hj=>by
   rw[IM,Nat.zero_add];exact(hS.cell hi (JI (by rw[FO];exact hj))).1) hk.1 (by omega) (by
    have:k*inf.bytes≤1000*1000:=Nat.mul_le_mul hk.2 hb;omega)
  have hr:=Hl (d:=d) (ps:=ps) (af:=af) (gd:=none) (b:= .append) (ty:=ty) (LX:= #[t,t]) ha (v:= .slice (some ⟨w.heap.size,0,none⟩) k (grownCap w k 0 et)) (w:=w) (w':=w.drew.alloc (.cells (cs.toArray++Builtin.zeroCells z.cells (grownCap w k 0 et-k)) et)) (by
   simp only[builtin,Sem.run_bind];rw[hc];rfl)
  refine N9 hr ⟨w.heap.size,(Builtin.zeroCells z.cells (grownCap w k 0 et-k)).toList,_,rfl,⟨grownCap_ge w k 0 et,by rw[hn];exact V7 hzs (grownCap_ge w k 0 et)⟩,?_⟩;have:=hS.drew.alloc et (cs++(Builtin.zeroCells z.cells (grownCap w k 0 et-k)).toList);have e1:(cs++(Builtin.zeroCells z.cells (grownCap w k 0 et-k)).toList).toArray=cs.toArray++Builtin.zeroCells z.cells (grownCap w k 0 et-k):=by
   apply Array.ext';simp
  rw[e1] at this;exact this) (fun v w' ⟨q,rs,m,hv,hm,hk⟩=>⟨_,hk,hp q rs,by rw[hv];exact h q rs m hm⟩)
theorem Ni{g:Nat}{nm:String}(hx:EF e x=some (.iface t u))(ha:GV e a.toList=some args)(hg:Cm g=true)(w:World)
  (hm:(method (Tryz.prog.types.size+Made.depth) t u nm).run Tryz.prog w= .ok (g,u) w):(execOp (ev e) ⟨d,.call ⟨.invoke x nm,a,LX⟩,ty,ps,af,gd⟩).run Tryz.prog w= .ok (.enter g (u::args).toArray) w:=by
 show Sem.run Tryz.prog (resolve (ev e) ⟨.invoke x nm,a,LX⟩ ty>>=fun d=>invoke d.target d.args) w=_;have h1:resolve (ev e) ⟨.invoke x nm,a,LX⟩ ty=pure {target:= .fn (.method nm) #[],args:=(Value.iface t u::args).toArray}:=by
  unfold resolve;simp only[CY hx,OZ ha];simp
 have h2:invoke (.fn (.method nm) #[]) (Value.iface t u::args).toArray=callMethod (.iface t u) nm args.toArray:=by
  unfold invoke;simp
 simp only[h1,Sem.run_bind,Sem.run_pure,Result.andThen_ok,h2,callMethod,run_program,hm,Qq hg];simp
theorem CH{g:Nat}{nm:String}(ho:Aq[i]?=some ⟨d,.call ⟨.invoke x nm,a,LX⟩,ty,ps,af,none⟩)(hef:ef i=true)(hx:EF e x=some (.iface t u))(ha:GV e a.toList=some args)(hg:Cm g=true)
  (hm: ∀w,(method (Tryz.prog.types.size+Made.depth) t u nm).run Tryz.prog w= .ok (g,u) w) (hc:Cv C g (u::args) l R v l' R') (hl:CV R') (hp:Eh Aq i U (Sy C w0 D0 l' H R') e)
  (h:X Tryz.prog Aq lo ef K r (Sy C w0 D0 l' H R') U (Dz d v e)):X Tryz.prog Aq lo ef K (i::r) (Sy C w0 D0 l H R) U e:=
 FH (K':=fun u w'=>u=v∧Sy C w0 D0 l' H R' w') ho hef rfl (fun w hS=>by
  unfold Pj;rw[Ni hx ha hg w (hm w)];exact((hS.QG hc hl).mono fun e w' ⟨h1,h2⟩=>⟨v,h1,rfl,h2⟩)) (fun u w' ⟨h1,h2⟩=>⟨_,h2,hp,by rw[h1];exact h⟩)
theorem sq{f:Operand}{g:Nat}{first:List Value}{R':Nat→BB}(ho:Aq[i]?=some ⟨d,.call ⟨.value f,a,LX⟩,ty,ps,af,none⟩)(hef:ef i=true)(hf:EF e f=some (.func (.func g) first.toArray captured.toArray))(ha:GV e a.toList=some args)(hg:Cm g=true)(hH:H1++H2=H)
  (hc:Cn C g (first++args++captured) l (Az H2 Cj) l' R') (hl: ∀q,CV (R' q)) (hp: ∀q,Eh Aq i U (Sy C w0 D0 l' H1 (R' q)) e)
  (h: ∀q,X Tryz.prog Aq lo ef K r (Sy C w0 D0 l' H1 (R' q)) U (Dz d (.pointer (some ⟨q,0,none⟩)) e)):X Tryz.prog Aq lo ef K (i::r) (Sy C w0 D0 l H R) U e:=
 FH (K':=fun u w'=> ∃q,u= .pointer (some ⟨q,0,none⟩)∧Sy C w0 D0 l' H1 (R' q) w') ho hef rfl (fun w hS=>by
  subst hH;exact Fe hf ha hg ((hS.drop.VR.dK hc hl).mono fun e w' ⟨q,h1,h2⟩=>⟨_,h1,q,rfl,h2⟩)) (fun u w' ⟨q,h1,h2⟩=>⟨_,h2,hp q,by rw[h1];exact h q⟩)
theorem Nm{p:Addr}(ht:Ec t YL=true)(w:World):(binOp .neq t (.pointer (some p)) (.pointer none)).run Tryz.prog w= .ok (.bool true) w:=by
 have:=RS (.inl ⟨ht,rfl,.inl ⟨p,rfl,rfl⟩⟩) w;simp only[binOp,Sem.run_bind,this,Result.andThen_ok,Sem.run_pure];rfl
theorem Nn{p:Addr}{x:Operand}(w:World):(eqGuard .neq t x y (.pointer (some p)) (.pointer none)).run Tryz.prog w= .ok () w:=by
 unfold eqGuard;simp[go_sem]
theorem iW{p:Addr}(ho:Aq[i]?=some ⟨d,.binOp .neq t x y t',ty,ps,af,gd⟩)(Dy:(ef i,BA Aq ⟨d,.binOp .neq t x y t',ty,ps,af,gd⟩ e)=(false,true))(hx:EF e x=some (.pointer (some p)))(hy:EF e y=some (.pointer none))(ht:Ec t YL=true)
  (h:X Tryz.prog Aq lo ef K r S (bif lo i then(i,.bool true)::U else U) (Dz d (.bool true) e)):X Tryz.prog Aq lo ef K (i::r) S U e:=have⟨hef,hw⟩:=Fb Dy;
 Le (A9 ho Dy hx hy) Nn (Nm ht) h
end
theorem V8{O9:List (Nat×Nat)}{place:Nat→Option (Nat×Nat)}(hp: ∀i x,O9[i]?=some x→place i=some x): ∀(pv:List (Nat×Value)) (zs:List Value),JG O9 zs.length pv=true→Instr.fill place zs.toArray pv=some (Oa O9 zs pv).toArray
 |[],_,_=>rfl
 |(i,v)::r,zs,h=>by
  unfold JG at h;rw[Bool.and_eq_true] at h;obtain⟨h1,h2⟩:=h;unfold Instr.fill;split at h1
  ·rename_i off sz he;rw[hp i _ he];simp only[Bool.and_eq_true,beq_iff_eq,decide_eq_true_eq] at h1;obtain⟨h3,h4⟩:=h1;have hn: ¬((v.cells.size≠sz||decide (off+v.cells.size>zs.toArray.size))=true):=by
    simp[h3];omega
   simp only;rw[if_neg hn];have hf:v.cells.zipIdx.foldl (fun(cs:Array Value) (x:Value×Nat)=>cs.setIfInBounds (off+x.2) x.1) zs.toArray=(Jb zs off v.cells.toList).toArray:=by
    have:=QZ v.cells.toList zs off 0;rw[Nat.add_zero] at this;rw[←this];rw[←Array.foldl_toList];simp[Array.toList_zipIdx]
   have hf':(v.cells.zipIdx.foldl (fun cs (x:Value×Nat)=>match x with|(c,j)=>cs.setIfInBounds (off+j) c) zs.toArray)=(Jb zs off v.cells.toList).toArray:=hf;rw[hf',V8 hp r _ (by rw[Qr];exact h2)];have:O9.getD i (0,0)=(off,sz):=by simp[List.getD,he]
   simp only[Oa,this]
  cases h1
def Md(n:Nat):Nat→Nat→List (Nat×Nat)
 |0,_=>[]
 |k+1,i=>(i*n,n)::Md n k (i+1)
theorem Y2{n:Nat}: ∀{k j i:Nat} {x:Nat×Nat},(Md n k j)[i]?=some x→x=((j+i)*n,n)
 |0,_,_,_,h=>by simp[Md] at h
 |k+1,j,0,x,h=>by simp[Md] at h;simp[←h]
 |k+1,j,i+1,x,h=>by
  have:(Md n k (j+1))[i]?=some x:=by simpa[Md] using h
  rw[Y2 this,show j+1+i=j+(i+1) by omega]
theorem vW(h:LU t=some zs): ∃i z,Tryz.prog.info? t=some i∧i.zero=some z∧z.cells.toList=zs:=by
 unfold LU at h;cases hi:Tryz.prog.info? t with
 |none=>rw[hi] at h;cases h
 |some i=>
  rw[hi] at h;cases hz:i.zero with
  |none=>simp[hz] at h
  |some z=>
   simp[hz] at h;exact⟨i,z,rfl,hz,h⟩
theorem zO{len:Nat}{zs0:List Value}(ht:Ip t et n=true)(hz:LU et=some zs0)(hn:0<len*n∧len*n≤1000)(hzs:(List.range (len*n)).map (fun k=>zs0.toArray[k % zs0.length]!)=zs)(hok:JG (Md n len 0) zs.length pv=true)(w:World):
  (Instr.buildSlice t len pv.toArray).run Tryz.prog w= .ok (.slice (some ⟨w.heap.size,0,none⟩) len len) (w.alloc (.cells (Oa (Md n len 0) zs pv).toArray et)):=by
 obtain⟨inf,z,hu,hi,hz1,hs,-,-⟩:=IG ht;obtain⟨sr,z',hi',hz',hc'⟩:=vW hz;rw[hi] at hi';cases hi';rw[hz1] at hz';cases hz';have hu':(underlying t).run Tryz.prog w= .ok (.slice et) w:=by unfold underlying;simp[go_sem,hu]
 have hzc:(zeroValue et).run Tryz.prog w= .ok z w:=by unfold zeroValue typeInfo;simp[go_sem,hi,hz1]
 have hsz:(sizeOf et).run Tryz.prog w= .ok n w:=by unfold sizeOf typeInfo;simp[go_sem,hi,hs]
 have hb: ¬len*n>2^24:=by omega
 have h0: ¬len*n=0:=by omega
 have hzz:(Array.range (len*n)).map (fun k=>z.cells[k % z.cells.size]!)=zs.toArray:=by
  rw[←hzs];have:z.cells=zs0.toArray:=by rw[←hc']
  rw[this];apply Array.ext';simp[Array.toList_range]
 have hf:=V8 (O9:=Md n len 0) (place:=fun i=>some (i*n,n)) (fun i x hx=>by rw[Y2 hx,Nat.zero_add]) pv zs hok;unfold Instr.buildSlice;simp only[Sem.run_bind,hu',Result.andThen_ok,hsz,hb,h0,if_false,hzc,Sem.run_pure,hzz,hf,newRow];rfl
theorem Y3{d:Option Nat}{len:Nat}{g:Option (Nat×Bool)}:execOp ρ ⟨d,.buildSlice t len parts,ty,ps,af,g⟩=(Instr.buildSlice t len (parts.map fun(p:Nat×Operand)=>(p.1,ρ p.2))>>=fun v=>pure (.value v)):=rfl
section
variable{R:BB}
variable{lo:Nat→Bool}{d:Option Nat}{gd:Option (Nat×Bool)}{x:Operand}
theorem Qc{len:Nat}{zs0:List Value}{cs:List Value}(G7:(Aq[i]?,ef i,oG e parts.toList)=(some ⟨d,.buildSlice t len parts,ty,ps,af,none⟩,true,some pv))(ht:Ip t et n=true)(hz:LU et=some zs0)(hn:0<len*n∧len*n≤1000)(hzs:(List.range (len*n)).map (fun k=>zs0.toArray[k % zs0.length]!)=zs)(hok:JG (Md n len 0) zs.length pv=true)(hcs:Oa (Md n len 0) zs pv=cs)
  (bG: ∀b,Eh Aq i U (Sy C w0 D0 l (⟨b,et,cs⟩::H) R) e) (h: ∀b,X Tryz.prog Aq lo ef K r (Sy C w0 D0 l (⟨b,et,cs⟩::H) R) U (Dz d (.slice (some ⟨b,0,none⟩) len len) e)):X Tryz.prog Aq lo ef K (i::r) (Sy C w0 D0 l H R) U e:=by
 obtain⟨ho,hef,hp⟩:=TL G7;subst hcs;exact FH (K':=fun v w'=> ∃b,v= .slice (some ⟨b,0,none⟩) len len∧Sy C w0 D0 l (⟨b,et,Oa (Md n len 0) zs pv⟩::H) R w') ho hef rfl (fun w hS=>by
  have h1:(parts.map fun(p:Nat×Operand)=>(p.1,ev e p.2))=pv.toArray:=by
   cases parts with
   |mk l=>
    rw[←RU hp];simp
  have h2:=zO (w:=w) ht hz hn hzs hok;rw[←h1] at h2;have h3:(execOp (ev e) ⟨d,.buildSlice t len parts,ty,ps,af,none⟩).run Tryz.prog w= .ok (.value (.slice (some ⟨w.heap.size,0,none⟩) len len)) (w.alloc (.cells (Oa (Md n len 0) zs pv).toArray et)):=N8 Y3 h2;have h4: ∃b:Nat,(Value.slice (some ⟨w.heap.size,0,none⟩) len len=Value.slice (some ⟨b,0,none⟩) len len)∧Sy C w0 D0 l (⟨b,et,Oa (Md n len 0) zs pv⟩::H) R (w.alloc (.cells (Oa (Md n len 0) zs pv).toArray et)):=⟨w.heap.size,rfl,hS.alloc et _⟩;unfold Pj;rw[h3];exact h4) (fun v w' ⟨b,hb,hk⟩=>⟨_,hk,bG b,by rw[hb];exact h b⟩)
end
section
variable{R:BB}
theorem Sy.pick(is:List Nat)(hn:is.Nodup)(h:Sy C w0 D0 l H R w):Sy C w0 D0 l (pick H is) R w:=by
 obtain⟨D,h1,h2⟩:=h.NK;obtain⟨D',h3,h4⟩:=D6 is hn h1;exact⟨h.OW,h.Kr,h.mem,h.Qo,D',h3,fun k hk=>h2 k (h4 k hk)⟩
variable{lo:Nat→Bool}{d:Option Nat}{gd:Option (Nat×Bool)}{x:Operand}
theorem sx{is:List Nat}{f:Operand}{g:Nat}{first:List Value}{R':Nat→BB}(hn:is.Nodup)(ho:Aq[i]?=some ⟨d,.call ⟨.value f,a,LX⟩,ty,ps,af,none⟩)(hef:ef i=true)(hf:EF e f=some (.func (.func g) first.toArray captured.toArray))(ha:GV e a.toList=some args)(hg:Cm g=true)(hH:H1++H2=Mo.pick H is)
  (hc:Cn C g (first++args++captured) l (Az H2 Cj) l' R') (hl: ∀q,CV (R' q)) (hp: ∀q,Eh Aq i U (Sy C w0 D0 l' H1 (R' q)) e)
  (h: ∀q,X Tryz.prog Aq lo ef K r (Sy C w0 D0 l' H1 (R' q)) U (Dz d (.pointer (some ⟨q,0,none⟩)) e)):X Tryz.prog Aq lo ef K (i::r) (Sy C w0 D0 l H R) U e:=
 FH (K':=fun u w'=> ∃q,u= .pointer (some ⟨q,0,none⟩)∧Sy C w0 D0 l' H1 (R' q) w') ho hef rfl (fun w hS=>by
  have hS:=hS.pick is hn;rw[←hH] at hS;exact Fe hf ha hg ((hS.drop.VR.dK hc hl).mono fun e w' ⟨q,h1,h2⟩=>⟨_,h1,q,rfl,h2⟩)) (fun u w' ⟨q,h1,h2⟩=>⟨_,h2,hp q,by rw[h1];exact h q⟩)
theorem PM(ho:Aq[i]?=some o)(hw:BA Aq o e=true)(hq: ∀w,S w→(execOp (ev e) o).run Tryz.prog w= .ok (.value v) w)(h:Eh Aq j U S e):Eh Aq j ((i,v)::U) S e:=fun y hy hd=>by
 rcases List.mem_cons.1 hy with rfl|hy
 ·refine⟨_,ho,.inl ⟨hw,fun w hS=>?_⟩⟩;unfold Pj;rw[hq w hS];exact⟨rfl,hS⟩
 exact h y hy hd
end
section
variable{R:BB}
variable{d:Option Nat}{gd:Option (Nat×Bool)}{x:Operand}
theorem Y4(ho:Aq[i]?=some o)(hw:BA Aq o e=true)(hq: ∀w,S w→Pj Tryz.prog o (ev e) w fun u w'=>u=v∧S w')(h:Eh Aq j U S e):Eh Aq j ((i,v)::U) S e:=fun y hy hd=>by
 rcases List.mem_cons.1 hy with rfl|hy
 ·exact⟨_,ho,.inl ⟨hw,hq⟩⟩
 exact h y hy hd
theorem Ia{a:Addr}(G7:((Aq[i]?,BA Aq ⟨d,.nilCheck x,ty,ps,af,gd⟩ e),EF e x)=((some ⟨d,.nilCheck x,ty,ps,af,gd⟩,true),some (.pointer (some a))))(h:Eh Aq jj U S e):Eh Aq jj ((i,.pointer (some a))::U) S e:=have⟨ho0,hx⟩:=nH G7;have⟨ho,hw⟩:=Fb ho0;
 PM ho hw (fun w _=>by simp only[execOp,CY hx];rfl) h
theorem Ed{s k off:Nat}(G7:((Aq[i]?,BA Aq ⟨d,.fieldAddr s x f,ty,ps,af,gd⟩ e),EF e x)=((some ⟨d,.fieldAddr s x f,ty,ps,af,gd⟩,true),some (.pointer (some ⟨b,off,none⟩))))(hf:Pm s f k=true)
  (h:Eh Aq jj U S e):Eh Aq jj ((i,.pointer (some ⟨b,off+k,none⟩))::U) S e:=have⟨ho0,hx⟩:=nH G7;have⟨ho,hw⟩:=Fb ho0;
 PM ho hw (fun w hS=>by
  exact N8 (m:=Instr.fieldAt s (ev e x) f) rfl (by rw[CY hx];exact dH hf w)) h
theorem BP{off:Nat}{cs:List Value}(G7:((Aq[i]?,BA Aq ⟨d,.load t x,ty,ps,af,gd⟩ e),EF e x)=((some ⟨d,.load t x,ty,ps,af,gd⟩,true),some (.pointer (some ⟨b,off,none⟩))))(h1:one t=true)(hi:In b cs H)(hv:Qb cs off=some v)
  (h:Eh Aq jj U (Sy C w0 D0 l H R) e):Eh Aq jj ((i,v)::U) (Sy C w0 D0 l H R) e:=have⟨ho0,hx⟩:=nH G7;have⟨ho,hw⟩:=Fb ho0;
 PM ho hw (fun w hS=>by
  exact N8 (m:=Instr.loadAt t (ev e x)) rfl (by rw[CY hx];exact GM h1 (hS.cell hi hv).1)) h
theorem sy{a:Int}(ho0:(Aq[i]?,BA Aq ⟨d,.convert t t' x,ty,ps,af,gd⟩ e)=(some ⟨d,.convert t t' x,ty,ps,af,gd⟩,true))(hx:EF e x=some (.int k a))(ht:Ec t' (Qp k')=true)(ht0:Ec t (fun _=>true)=true)
  (h:Eh Aq jj U S e):Eh Aq jj ((i,.int k' (k'.wrap a))::U) S e:=have⟨ho,hw⟩:=Fb ho0;
 PM ho hw (fun w _=>by
  refine N8 (m:=convert t t' (ev e x)) rfl ?_;obtain⟨d,hd,hu,-⟩:=MP ht w;obtain⟨d0,-,hu0,-⟩:=MP ht0 w;rw[CY hx];unfold convert;rw[Sem.run_bind,hu0,Result.andThen_ok,Sem.run_bind,hu,Result.andThen_ok];cases d<;>first|(simp[Qp] at hd;done)|skip
  rename_i k2;have:k'=k2:=eq_of_beq hd;subst this;cases d0<;>rfl) h
theorem v9{a c:Int}(ho0:(Aq[i]?,BA Aq ⟨d,.convert t t' x,ty,ps,af,gd⟩ e)=(some ⟨d,.convert t t' x,ty,ps,af,gd⟩,true))(hx:EF e x=some (.int k a))(ht:Ec t' (Qp k')=true)(ht0:Ec t (fun _=>true)=true)(hc:k'.wrap a=c)
  (h:Eh Aq jj U S e):Eh Aq jj ((i,.int k' c)::U) S e:=by
 have⟨ho,hw⟩:=Fb ho0;subst hc;exact sy ho0 hx ht ht0 h
theorem Nt(ho0:(Aq[i]?,BA Aq ⟨d,.extract x j,ty,ps,af,gd⟩ e)=(some ⟨d,.extract x j,ty,ps,af,gd⟩,true))(hx:EF e x=some (.tuple vs.toArray))(hv:Qb vs j=some v)
  (h:Eh Aq jj U S e):Eh Aq jj ((i,v)::U) S e:=have⟨ho,hw⟩:=Fb ho0;
 PM ho hw (fun w _=>by
  refine N8 (m:=Instr.extract (ev e x) j) rfl ?_;rw[CY hx];rw[FO] at hv;unfold Instr.extract;simp[hv,go_sem]) h
theorem ta{off:Nat}{cs:List Value}(ho0:(Aq[i]?,BA Aq ⟨d,.field t x f,ty,ps,af,gd⟩ e)=(some ⟨d,.field t x f,ty,ps,af,gd⟩,true))(hx:EF e x=some (.agg cs.toArray))(hf:Pm t f off=true)(hft:aX t f t'=true)(h1:one t'=true)(hv:Qb cs off=some v)
  (h:Eh Aq jj U S e):Eh Aq jj ((i,v)::U) S e:=have⟨ho,hw⟩:=Fb ho0;
 PM ho hw (fun w _=>N8 (m:=Instr.field t (ev e x) f) rfl (by rw[CY hx];exact YN hf hft h1 hv w)) h
theorem wA{f:Operand}{g:Nat}{first:List Value}(ho0:(Aq[i]?,BA Aq ⟨d,.call ⟨.value f,a,LX⟩,ty,ps,af,gd⟩ e)=(some ⟨d,.call ⟨.value f,a,LX⟩,ty,ps,af,gd⟩,true))(hf:EF e f=some (.func (.func g) first.toArray captured.toArray))(ha:GV e a.toList=some args)(hg:Cm g=true)
  (hc:Cv C g (first++args++captured) l R v l R) (hl:CV R)
  (h:Eh Aq jj U (Sy C w0 D0 l H R) e):Eh Aq jj ((i,v)::U) (Sy C w0 D0 l H R) e:=have⟨ho,hw⟩:=Fb ho0;
 Y4 ho hw (fun w hS=>Fe hf ha hg ((hS.QG hc hl).mono fun e w' ⟨h1,h2⟩=>⟨v,h1,rfl,h2⟩)) h
theorem Ie{fn:Fn}{b:Array Operand}{us:List Value}(G7:((Aq[i]?,BA Aq ⟨d,.makeFunc fn a b,ty,ps,af,gd⟩ e),GV e a.toList,GV e b.toList)=((some ⟨d,.makeFunc fn a b,ty,ps,af,gd⟩,true),some vs,some us))
  (h:Eh Aq jj U S e):Eh Aq jj ((i,.func fn vs.toArray us.toArray)::U) S e:=have⟨ho0,ha,hb⟩:=TL G7;have⟨ho,hw⟩:=Fb ho0;
 PM ho hw (fun w _=>by
  refine N8 (m:=Instr.makeFunc fn (a.map (ev e)) (b.map (ev e))) rfl ?_;rw[OZ ha,OZ hb];rfl) h
theorem td{a b:Int}(ho0:(Aq[i]?,BA Aq ⟨d,.binOp op t x y t',ty,ps,af,gd⟩ e)=(some ⟨d,.binOp op t x y t',ty,ps,af,gd⟩,true))(hx:EF e x=some (.int k a))(hy:EF e y=some (.int k b))(hop:dJ op=true)
  (h:Eh Aq jj U S e):Eh Aq jj ((i,.int k (k.wrap (FC op a b)))::U) S e:=have⟨ho,hw⟩:=Fb ho0;
 PM ho hw (fun w _=>by
  refine N8 (m:=do eqGuard op t x y (ev e x) (ev e y);binOp op t (ev e x) (ev e y)) rfl ?_;rw[CY hx,CY hy,Sem.run_bind,Iy];exact zC hop w) h
theorem KT{a b c:Int}(G7:((Aq[i]?,BA Aq ⟨d,.binOp op t x y t',ty,ps,af,gd⟩ e),EF e x,EF e y,dJ op)=((some ⟨d,.binOp op t x y t',ty,ps,af,gd⟩,true),some (.int k a),some (.int k b),true))(hc:k.wrap (FC op a b)=c)
  (h:Eh Aq jj U S e):Eh Aq jj ((i,.int k c)::U) S e:=by
 obtain⟨ho0,hx,hy,hop⟩:=MR G7;have⟨ho,hw⟩:=Fb ho0;subst hc;exact td ho0 hx hy hop h
theorem KU{p:Option Addr}{c:Nat}(ho0:(Aq[i]?,BA Aq ⟨d,.call ⟨.builtin .len,a, #[t]⟩,ty,ps,af,gd⟩ e)=(some ⟨d,.call ⟨.builtin .len,a, #[t]⟩,ty,ps,af,gd⟩,true))(ha:GV e a.toList=some [.slice p n c])(ht:Ec t JU=true)
  (h:Eh Aq jj U S e):Eh Aq jj ((i,.int .i64 n)::U) S e:=have⟨ho,hw⟩:=Fb ho0;
 PM ho hw (fun w _=>Hl ha (by
  obtain⟨d,hd,hu,-⟩:=MP ht w
  cases d<;>first|(simp[JU] at hd;done)|skip
  simp[builtin,Builtin.len_,go_sem,hu,goInt])) h
theorem wD{O9:List (Nat×Nat)}(ho0:(Aq[i]?,BA Aq ⟨d,.build t parts,ty,ps,af,gd⟩ e)=(some ⟨d,.build t parts,ty,ps,af,gd⟩,true))(hp:oG e parts.toList=some pv)(hl:Jv t O9=true)(hz:LU t=some zs)(hok:JG O9 zs.length pv=true)
  (h:Eh Aq jj U S e):Eh Aq jj ((i,.agg (Oa O9 zs pv).toArray)::U) S e:=have⟨ho,hw⟩:=Fb ho0;
 PM ho hw (fun w _=>by
  have h1:(parts.map fun(p:Nat×Operand)=>(p.1,ev e p.2))=pv.toArray:=by
   cases parts with
   |mk l=>
    rw[←RU hp];simp
  refine N8 (m:=Instr.build t (parts.map fun(p:Nat×Operand)=>(p.1,ev e p.2))) rfl ?_;rw[h1];exact dL hl hz hok w) h
theorem bH{off len c:Nat}{j:Int}(ho0:(Aq[i]?,BA Aq ⟨d,.indexAddr t x y,ty,ps,af,gd⟩ e)=(some ⟨d,.indexAddr t x y,ty,ps,af,gd⟩,true))(hx:EF e x=some (.slice (some ⟨b,off,none⟩) len c))(hy:EF e y=some (.int k j))(ht:Ip t et n=true)(h0:0≤j∧j<len)
  (h:Eh Aq jj U S e):Eh Aq jj ((i,.pointer (some ⟨b,off+j.toNat*n,none⟩))::U) S e:=have⟨ho,hw⟩:=Fb ho0;
 PM ho hw (fun w _=>N8 (m:=Instr.indexAt t (ev e x) (ev e y)) rfl (by rw[CY hx,CY hy];exact CD ht h0.1 h0.2 w)) h
end
def BQ(id:Nat)(Q:Exit→Act→World→Prop)(r:List Code):Exit→Act→World→Prop:=Exit.inBlock id (Exit.then (uR Q r) Q)
def UQ(c:Code)(Q:Exit→Act→World→Prop)(r:List Code)(k:Nat):Exit→Act→World→Prop:=Exit.then (Code.rounds Tryz.prog c (Exit.then (uR Q r) Q) k) (Exit.then (uR Q r) Q)
def TE[Inhabited (List Deferred)](Q:Exit→Act→World→Prop)(n:Nat)(x:Exit)(S:World→Prop)(e:GZ):Prop:= ∀w a,S w→IC a n e→Q x a w
def oU(e:GZ):GZ→Prop
 |[]=>True
 |(t,v)::k=>oC e t=some v∧oU e k
theorem zQ{e:GZ}: ∀{k:GZ} {t:Nat} {v:Value},oU e k→oC k t=some v→oC e t=some v
 |[],_,_,_,h=>nomatch h
 |(d,u)::k,t,v,hs,h=>by
  have h':(bif Nat.beq d t then some u else oC k t)=some v:=h;cases hb:Nat.beq d t with
  |true=>
   rw[hb] at h';have e1:d=t:=Nat.eq_of_beq_eq_true hb;subst e1;rw[←h'];exact hs.1
  |false=>rw[hb] at h';exact zQ hs.2 h'
theorem CI: ∀(k g:GZ) (t:Nat),lk (k++g) t=match oC k t with|some v=>v|none=>lk g t
 |[],_,_=>rfl
 |(d,u)::k,g,t=>by
  show lk ((d,u)::(k++g)) t=(match (bif Nat.beq d t then some u else oC k t) with|some v=>v|none=>lk g t);rw[RQ,CI k g t];cases hb:Nat.beq d t with
  |true=>rw[if_pos (Nat.eq_of_beq_eq_true hb)];rfl
  |false=>
   rw[if_neg (fun h=>by subst h;simp at hb)];rfl
theorem Q8[Inhabited (List Deferred)]{a:Act}{k:GZ}(h:IC a n e)(hs:oU e k):IC a n (k++e):=by
 refine⟨h.defers,h.size,fun t=>?_⟩;rw[h.at_ t,CI];split
 ·rename_i v hv;exact Tv (zQ hs hv)
 rfl
def LQ[Inhabited (List Deferred)]{σ:Type}(n:Nat)(S:σ→World→Prop)(Kn:σ→GZ)(μ:σ→Nat)(m:Nat)(Q:Exit→Act→World→Prop):Exit→Act→World→Prop:=
 Exit.then (fun a w=> ∃x g,μ x<m∧S x w∧IC a n (Kn x++g)) Q
section
variable{r r':List Code}{id':Nat}{c:Code}
theorem T.block[Inhabited (List Deferred)](h:T (BQ id Q r) n [c] S e):T Q n (.block id c::r) S e:=fun w a hS hF=>by
 refine wp_block (wp_mono (h w a hS hF) ?_);intro ex a' w' hq;cases ex<;>exact hq
theorem T.Bj[Inhabited (List Deferred)](h:T Q n r S e):T (BQ id Q r) n [] S e:=h
theorem T.exit[Inhabited (List Deferred)](h:TE Q n (.exit id) S e):T Q n (.exit id::r) S e:=fun w a hS hF=>wp_exit (h w a hS hF)
theorem T.J8[Inhabited (List Deferred)](h:TE Q n .ret S e):T Q n (.ret::r) S e:=T.ret h
theorem TE.DC[Inhabited (List Deferred)](h:T Q n r S e):TE (BQ id Q r) n (.exit id) S e:=fun w a hS hF=>by
 show(if id=id then _ else _);rw[if_pos rfl];exact h w a hS hF
theorem TE.CJ[Inhabited (List Deferred)](h:TE Q n .ret S e):TE (BQ id Q r) n .ret S e:=h
theorem T.Q9[Inhabited (List Deferred)](k:Nat)(h:T (UQ c Q r k) n [c] S e):T Q n (.loop c::r) S e:=fun w a hS hF=>by
 refine wp_loop_rounds (k+1) ?_;refine wp_mono (h w a hS hF) ?_;intro ex a' w' hq;cases ex<;>exact hq
theorem T.EO[Inhabited (List Deferred)]{k:Nat}(h:T (UQ c Q r k) n [c] S e):T (UQ c Q r (k+1)) n [] S e:=fun w a hS hF=>by
 refine wp_mono (h w a hS hF) ?_;intro ex a' w' hq;cases ex<;>exact hq
theorem TE.O3[Inhabited (List Deferred)]{k:Nat}(h:TE Q n (.exit id) S e):TE (UQ c Q r k) n (.exit id) S e:=h
theorem TE.KG[Inhabited (List Deferred)]{k:Nat}(h:TE Q n .ret S e):TE (UQ c Q r k) n .ret S e:=h
section
variable{σ:Type}{S':σ→World→Prop}{Kn:σ→GZ}{μ:σ→Nat}
theorem TE.FQ[Inhabited (List Deferred)](h:TE Q n (.exit id) S e):TE (LQ n S' Kn μ m Q) n (.exit id) S e:=h
theorem TE.TU[Inhabited (List Deferred)](h:TE Q n .ret S e):TE (LQ n S' Kn μ m Q) n .ret S e:=h
theorem T.loop[Inhabited (List Deferred)](S':σ→World→Prop)(Kn:σ→GZ)(μ:σ→Nat)(x0:σ)(h0: ∀w,S w→S' x0 w)(he:oU e (Kn x0))(h: ∀x g,T (LQ n S' Kn μ (μ x) Q) n [c] (S' x) (Kn x++g)):T Q n (.loop c::r) S e:=fun w a hS hF=>by
 refine wp_loop_ghost (fun k a w=> ∃x g,μ x=k∧S' x w∧IC a n (Kn x++g)) (μ x0) ⟨x0,e,rfl,h0 w hS,Q8 hF he⟩ ?_;rintro k a w ⟨x,g,rfl,h1,h2⟩;refine wp_mono (h x g w a h1 h2) ?_;intro ex a' w' hq;cases ex with
 |normal=>
  obtain⟨y,g',h3,h4,h5⟩:=hq;exact⟨μ y,h3,y,g',rfl,h4,h5⟩
 |exit id=>exact hq
 |goto l=>exact hq
 |ret=>exact hq
 |panic ch=>exact hq
 |outgrown=>exact hq
theorem T.FT[Inhabited (List Deferred)](y:σ)(hm:μ y<m)(hS: ∀w,S w→S' y w)(he:oU e (Kn y)):T (LQ n S' Kn μ m Q) n [] S e:=fun w a hw hF=>⟨y,e,hm,hS w hw,Q8 hF he⟩
end
end
section
variable{R:BB}{Q:Value→Dk→BB}{a off k u v:Nat}{cs:List Value}
theorem TE.BC(hr:fn.results= #[.tmp t])(hq: ∀w D,Az H R D w→ ∃D',Q (lk e t) l D' w∧ ∀k,D' k→D k):TE (bodyPost Tryz.prog fn (Tj C w0 D0 Q)) n .ret (Sy C w0 D0 l H R) e:=
 fun w a hS hF=>⟨hF.defers,_,results_tmp hr _ _ _,by rw[hF.at_ t];exact hS.QQ (hq w)⟩
end
noncomputable def Y5 (t et len:Nat):Bool:=match Tryz.prog.underlying t with
 |some (.array n e)=>n==len&&e==et
 |_=>false
theorem NA{len:Nat}{cs:List Value}{j:Int}(ht:Y5 t et len=true)(h1:one et=true)(h0:0≤j∧j<len)(hv:Qb cs j.toNat=some v)(w:World):(Instr.index t (.agg cs.toArray) (.int k j)).run Tryz.prog w= .ok v w:=by
 unfold Y5 at ht;split at ht
 ·rename_i n e hu0;simp only[Bool.and_eq_true,beq_iff_eq] at ht;obtain⟨rfl,rfl⟩:=ht;have hu:(underlying t).run Tryz.prog w= .ok (.array n e) w:=by unfold underlying;simp[go_sem,hu0]
  have hp:=Jg h1 w;rw[FO] at hv;have ha:(asIntOf (.int k j)).run Tryz.prog w= .ok (k,j) w:=by simp[asIntOf,go_sem]
  unfold Instr.index;simp only[Sem.run_bind,ha,Result.andThen_ok,hu,h0,and_self,if_true,hp.2,part,hp.1,Nat.mul_one];simp[hv,go_sem]
 cases ht
section
variable{lo:Nat→Bool}{d:Option Nat}{gd:Option (Nat×Bool)}{x:Operand}
theorem dS{len:Nat}{cs:List Value}{j:Int}(G7:(Aq[i]?,(ef i,BA Aq ⟨d,.index t x y,ty,ps,af,gd⟩ e),EF e x,EF e y)=(some ⟨d,.index t x y,ty,ps,af,gd⟩,(false,true),some (.agg cs.toArray),some (.int k j)))(ht:Y5 t et len=true)(h1:one et=true)(h0:0≤j∧j<len)(hv:Qb cs j.toNat=some v)
  (h:X Tryz.prog Aq lo ef K r S (bif lo i then(i,v)::U else U) (Dz d v e)):X Tryz.prog Aq lo ef K (i::r) S U e:=have⟨ho,Dy,hx,hy⟩:=MR G7;have⟨hef,hw⟩:=Fb Dy;
 FB ho hef hw (fun w _=>N8 (m:=Instr.index t (ev e x) (ev e y)) rfl (by rw[CY hx,CY hy];exact NA ht h1 h0 hv w)) h
end
theorem Y6{x:Bk}{R:BB}(h:Az (H++[x]) R D w): ∃D',Az (x::H) R D' w∧ ∀k,D' k→D k:=by
 obtain⟨h1,h2,DR,h3,h4,h5⟩:=QY h;have hm: ∀y∈x::H,y∈H++[x]:=fun y hy=>by
  rcases List.mem_cons.1 hy with rfl|hy
  ·simp
  simp[hy]
 have hp:(x::H).Pairwise (fun a b=>a.b≠b.b):=by
  rw[List.pairwise_append] at h1;exact List.pairwise_cons.2 ⟨fun y hy=>fun e=>h1.2.2 y hy x (by simp) e.symm,h1.1⟩
 obtain⟨D',g1,g2⟩:=Uz h3 hp (fun y hy=>⟨(h2 y (hm y hy)).1,h4 y (hm y hy)⟩);refine⟨D',g1,fun k hk=>?_⟩;rcases g2 k hk with h6|⟨y,hy,rfl⟩
 ·exact h5 k h6
 exact(h2 y (hm y hy)).2
theorem V9: ∀(vs cs rest:List Value),vs.length≤rest.length→Jb (cs++rest) cs.length vs=cs++vs++rest.drop vs.length
 |[],cs,rest,_=>by simp[Jb]
 |v::vs,cs,rest,h=>by
  cases rest with
  |nil=>simp at h
  |cons y rest=>
   show Jb (NL (cs++y::rest) cs.length v) (cs.length+1) vs=_;have e:NL (cs++y::rest) cs.length v=(cs++[v])++rest:=by
    rw[OX];simp
   rw[e,show cs.length+1=(cs++[v]).length by simp,V9 vs (cs++[v]) rest (by simpa using h)];simp
theorem Y7: ∀(Hr:List Bk) (b t:Nat) (cs:List Value) (f:List Value→List Value),(∀x∈Hr,True)→YG (Hr++[⟨b,t,cs⟩]) b f (Hr++[⟨b,t,f cs⟩])
 |[],_,_,_,_,_=> .z
 |x::Hr,b,t,cs,f,h=> .s (Y7 Hr b t cs f (fun _ _=>trivial))
theorem UU: ∀(Hr:List Bk) (b t:Nat) (cs:List Value),In b cs (Hr++[⟨b,t,cs⟩])
 |[],_,_,_=> .z
 |x::Hr,b,t,cs=> .s (UU Hr b t cs)
theorem vX: ∀{Hr:List Bk} {b:Nat} {cs:List Value} {H2:List Bk},In b cs Hr→In b cs (Hr++H2)
 |_,_,_,_,.z=> .z
 |_,_,_,_,.s h=> .s (vX h)
section
variable{R:BB}
theorem Sy.kr{x:Bk}(h:Sy C w0 D0 l (H++[x]) R w):Sy C w0 D0 l (x::H) R w:=by
 obtain⟨D,h1,h2⟩:=h.NK;obtain⟨D',h3,h4⟩:=Y6 h1;exact⟨h.OW,h.Kr,h.mem,h.Qo,D',h3,fun k hk=>h2 k (h4 k hk)⟩
theorem Y8{x:Bk}{R:BB}(h:Az (H++[x]) R D w): ∃D',Az H R D' w∧ ∀k,D' k→D k:=by
 obtain⟨D1,h1,h2⟩:=Y6 h;obtain⟨D2,h3,h4⟩:=A8 h1;exact⟨D2,h3,fun k hk=>h2 k (h4 k hk)⟩
theorem Sy.front{x:Bk}(h:Sy C w0 D0 l (H++[x]) R w):Sy C w0 D0 l H R w:=by
 obtain⟨D,h1,h2⟩:=h.NK;obtain⟨D',h3,h4⟩:=Y8 h1;exact⟨h.OW,h.Kr,h.mem,h.Qo,D',h3,fun k hk=>h2 k (h4 k hk)⟩
variable{lo:Nat→Bool}{d:Option Nat}
theorem fI{k c b2 k2 c2:Nat}{cs rest Ff:List Value}(hS:Sy C w0 D0 l (Hr++[⟨b,et,cs++rest⟩]) R w)(ht:Ip t et n=true)(hcs:cs.length=k*n)(hc:cs.length+rest.length=c*n)(hi:In b2 (news++Ff) Hr)(hn:news.length=k2*n)(hcell: ∀v∈news,BL v=true)(hk:0<k2∧k+k2≤1000000∧0<n∧n≤100∧k≤c):
  ∃q rs m w',(Builtin.append_ #[t,t] ty #[.slice (some ⟨b,0,none⟩) k c,.slice (some ⟨b2,0,none⟩) k2 c2]).run Tryz.prog w= .ok (.slice (some ⟨q,0,none⟩) (k+k2) m) w'∧k+k2≤m∧(cs++news).length+rs.length=m*n∧Sy C w0 D0 l (⟨q,et,cs++news++rs⟩::Hr) R w':=by
 obtain⟨inf,z,hu,hin,hz,hs,hb,hzs⟩:=IG ht;have hnews: ∀(w:World) (hS:Sy C w0 D0 l (Hr++[⟨b,et,cs++rest⟩]) R w) (j:Nat) (v:Value),news[j]?=some v→w.cell? ((⟨b2,0,none⟩:Addr).add j)=some v:=fun w hS j v hj=>by
  rw[IM,Nat.zero_add];exact(hS.cell (vX hi) (JI (by rw[FO];exact hj))).1
 by_cases hle:k+k2≤c
 ·have hr:news.length≤rest.length:=by
   have h1:(k+k2)*n≤c*n:=Nat.mul_le_mul_right _ hle;rw[Nat.add_mul] at h1;omega
  have hf:=run_firstCells_some (P:=Tryz.prog) w inf.size k2 ⟨b2,0,none⟩ k2 c2 news (by rw[hs];exact hn) (hnews w hS);rw[hs] at hf;obtain⟨w',g1,g2⟩:=Sy.vG news (k*n) hS (Y7 Hr b et (cs++rest) (fun cs=>Jb cs (k*n) news) (fun _ _=>trivial)) (UU Hr b et (cs++rest)) (by simp only[List.length_append];omega) hcell;refine⟨b,rest.drop news.length,c,w',?_,hle,?_,?_⟩
  ·have g3:(storeCells ((⟨b,0,none⟩:Addr).add (k*n)) news).run Tryz.prog w= .ok () w':=by
    rw[IM,J7];simpa using g1
   simp[Builtin.append_,run_underlying hu,sizeOf,typeInfo,hin,hz,Builtin.lenOf,hle,hf,hs,g3]
  ·simp only[List.length_append,List.length_drop];omega
  have e1:=V9 news cs rest hr;rw[hcs] at e1;have g4:=g2.kr;simp only[e1] at g4;exact g4
 have hS2:=hS.drew;have h48:Builtin.nextslicecap (k+k2) c*inf.bytes≤281474976710656:=by
  have h1:=nextslicecap_le (need:=k+k2) (old:=c) (by omega);have h2:Builtin.nextslicecap (k+k2) c*inf.bytes≤2*(k+k2)*1000:=Nat.mul_le_mul h1 hb;omega
 have hr:=run_append_grow (P:=Tryz.prog) (w:=w) t ty et inf z hu hin hz ⟨b,0,none⟩ k c cs (by rw[hs];exact hcs) (fun j v hj=>by
  rw[IM,Nat.zero_add];exact(hS.cell (UU Hr b et (cs++rest)) (JI (by rw[FO];exact hj))).1) ⟨b2,0,none⟩ k2 c2 news (by rw[hs];exact hn) (hnews w hS) (by omega) (by omega) h48
 have hge:=grownCap_ge w (k+k2) c et;refine⟨w.heap.size,(Builtin.zeroCells z.cells (grownCap w (k+k2) c et-(k+k2))).toList,_,_,hr,hge,?_,?_⟩
 ·have:=V7 (n:=n) hzs hge;simp only[List.length_append];rw[Nat.add_mul] at this;omega
 have:=(hS2.front).alloc et (cs++news++(Builtin.zeroCells z.cells (grownCap w (k+k2) c et-(k+k2))).toList);have e1:(cs++news++(Builtin.zeroCells z.cells (grownCap w (k+k2) c et-(k+k2))).toList).toArray=cs.toArray++news.toArray++Builtin.zeroCells z.cells (grownCap w (k+k2) c et-(k+k2)):=by
  apply Array.ext';simp
 rw[e1] at this;exact this
end
section
variable{R:BB}
variable{lo:Nat→Bool}{d:Option Nat}
theorem vY{k c b2 k2 c2 kn:Nat}{cs rest Ff cn:List Value}(ho:Aq[i]?=some ⟨d,.call ⟨.builtin .append,a, #[t,t]⟩,ty,ps,af,none⟩)(hef:ef i=true)(ha:GV e a.toList=some [.slice (some ⟨b,0,none⟩) k c,.slice (some ⟨b2,0,none⟩) k2 c2])(ht:Ip t et n=true)(hH:Hr++[⟨b,et,cs++rest⟩]=H)
  (hcs:cs.length=k*n) (hc:cs.length+rest.length=c*n) (hi:In b2 (news++Ff) Hr) (hn:news.length=k2*n) (hcell: ∀v∈news,BL v=true) (hk:0<k2∧k+k2≤1000000∧0<n∧n≤100∧k≤c)
  (hcn:cs++news=cn) (hkn:k+k2=kn) (hp: ∀q rs,Eh Aq i U (Sy C w0 D0 l (⟨q,et,cn++rs⟩::Hr) R) e) (h: ∀q rs m,kn≤m∧cn.length+rs.length=m*n→X Tryz.prog Aq lo ef K r (Sy C w0 D0 l (⟨q,et,cn++rs⟩::Hr) R) U (Dz d (.slice (some ⟨q,0,none⟩) kn m) e)):X Tryz.prog Aq lo ef K (i::r) (Sy C w0 D0 l H R) U e:=by
 subst hcn hkn;exact FH (K':=fun v w'=> ∃q rs m,v= .slice (some ⟨q,0,none⟩) (k+k2) m∧(k+k2≤m∧(cs++news).length+rs.length=m*n)∧Sy C w0 D0 l (⟨q,et,cs++news++rs⟩::Hr) R w') ho hef rfl (fun w hS=>by
  subst hH;obtain⟨q,rs,m,w',h1,h2,h3,h4⟩:=fI (ty:=ty) hS ht hcs hc hi hn hcell hk;have hr:=Hl (d:=d) (ps:=ps) (af:=af) (gd:=none) (b:= .append) (ty:=ty) (LX:= #[t,t]) ha (v:= .slice (some ⟨q,0,none⟩) (k+k2) m) (w:=w) (w':=w') (by
   simp only[builtin,Sem.run_bind];rw[h1];rfl)
  exact N9 hr ⟨q,rs,m,rfl,⟨h2,h3⟩,h4⟩) (fun v w' ⟨q,rs,m,hv,hm,hk⟩=>⟨_,hk,hp q rs,by rw[hv];exact h q rs m hm⟩)
end
section
variable{R:BB}
variable{lo:Nat→Bool}{d:Option Nat}
theorem Tm{is:List Nat}{f:Operand}{g:Nat}{first:List Value}(hn:is.Nodup)(ho:Aq[i]?=some ⟨d,.call ⟨.value f,a,LX⟩,ty,ps,af,none⟩)(hef:ef i=true)(hf:EF e f=some (.func (.func g) first.toArray captured.toArray))(ha:GV e a.toList=some args)(hg:Cm g=true)(hH:H2=Mo.pick H is)
  (hc:Cv C g (first++args++captured) l (Az H2 R) v l' R') (hl:CV R') (hp:Eh Aq i U (Sy C w0 D0 l' [] R') e)
  (h:X Tryz.prog Aq lo ef K rr (Sy C w0 D0 l' [] R') U (Dz d v e)):X Tryz.prog Aq lo ef K (i::rr) (Sy C w0 D0 l H R) U e:=
 FH (K':=fun u w'=>u=v∧Sy C w0 D0 l' [] R' w') ho hef rfl (fun w hS=>by
  have hS:=hS.pick is hn;rw[←hH] at hS;have hS':Sy C w0 D0 l ([]++H2) R w:=hS;exact Fe hf ha hg ((hS'.VR.QG hc hl).mono fun e w' ⟨h1,h2⟩=>⟨v,h1,rfl,h2⟩)) (fun u w' ⟨h1,h2⟩=>⟨_,h2,hp,by rw[h1];exact h⟩)
end
def Gv(ts:List Int):List Value:=ts.map (.int .u64)
theorem CK{rs:List Value}(h:j<ts.length):Qb (Gv ts++rs) (0+(j:Int).toNat*1)=some (.int .u64 (ts.getD j 0)):=by
 rw[FO];unfold Gv;rw[show 0+(j:Int).toNat*1=j by omega,List.getElem?_append_left (by simpa using h)];simp[h]
theorem Nh(h:j<ts.length):ts.getD j 0∈ts:=by
 rw[List.getD_eq_getElem?_getD,List.getElem?_eq_getElem h];exact List.getElem_mem h
theorem NE(h:ts.length≤1000):(0:Int)≤(ts.length:Int)∧(ts.length:Int)≤4294967295:=by omega
theorem zS(h:ts.length≤1000):Bf (ts.length:Int):=by unfold Bf;omega
abbrev Dc(b n m:Nat):Value:= .slice (some ⟨b,0,none⟩) n m
def Pk.cs(C:Cx)(x:Pk)(tv iv nv:Value):List Value:=[AX C.m,tv,.int .i64 x.j,.int .i64 x.p,iv,nv]
def tu(C:Cx)(d:Nat)(x:Pk)(tv iv nv:Value)(RN:BB):Prop:=match x.next with
 | .nil=>nv= .nilFunc∧RN=Cj
 | .Po=>nv=fm 228 d∧ ∃q b rs m,tv=Dc b x.Ar.length m∧iv=AX q∧RN=Az [⟨b,90,Gv x.Ar++rs⟩] (oN C q x.Dp)
 | .fill=>nv=fm 243 d∧ ∃b rs m,tv=Dc b x.Ar.length m∧RN=Az [⟨b,90,Gv x.Ar++rs⟩] Cj
 | .Bq=>nv=fm 254 d∧ ∃b rs m,tv=Dc b x.Ar.length m∧RN=Az [⟨b,90,Gv x.Ar++rs⟩] Cj
 | .DV=>nv=fm 189 d∧ ∃q,iv=AX q∧RN=oN C q x.Dp
theorem IP{m:Pk}{tv iv:Value}(nv:Value)(RN:BB)(h:tu C d m tv iv nv RN):CV RN:=by
 unfold tu at h;split at h
 ·obtain⟨-,rfl⟩:=h;exact Aa
 ·obtain⟨-,q,b,rs,c,-,-,rfl⟩:=h;exact Ac Ez _
 ·obtain⟨-,b,rs,c,-,rfl⟩:=h;exact Ac Aa _
 ·obtain⟨-,b,rs,c,-,rfl⟩:=h;exact Ac Aa _
 obtain⟨-,q,-,rfl⟩:=h;exact Ez
theorem zT{m:Pk}{tv iv:Value}(h:tu C d m tv iv nv RN):VW nv (decide (m.next= .nil)):=by
 unfold tu at h;split at h<;>rename_i hn<;>rw[hn]<;>obtain⟨rfl,-⟩:=h<;>first|exact .inl ⟨rfl,rfl⟩|exact .inr ⟨_,_,_,rfl,rfl⟩
structure Pk.Ok (m:Pk):Prop where
 Dp:m.Dp.Ok
 ts: ∀t∈m.Ar,Bf t
 len:m.Ar.length≤1000
 j:m.next= .fill→m.j<m.Ar.length
 p:EW m.p
 sp:m.next= .Po→m.Ar≠[]∧m.j=0
def mO(C:Cx)(d:Nat)(m:Pk):BB:=fun D w=> ∃tv:Value,∃iv:Value,uF 237 d (m.cs C tv iv) (tu C d m tv iv) D w
theorem CP{m:Pk}:CV (mO C d m):=AQ fun _=>AQ fun _=>Bd IP
def dU(C:Cx)(d:Nat)(m:Pk)(l:Dk)(m':Pk)(l':Dk):Prop:= ∀(tv:Value) (iv:Value) nv RN,tu C d m tv iv nv RN→ ∃KZ fs cs,nv= .func (.func KZ) (List.toArray fs) (List.toArray cs)∧Cm KZ=true∧Cv C KZ (fs++[AX C.s]++cs) l (Az [⟨d,237,m.cs C tv iv nv⟩] RN) (.tuple #[]) l' (mO C d m')
theorem wN:Cm 186=true:=by kernel_rfl
theorem fL:Cm 187=true:=by kernel_rfl
theorem fN:Cm 188=true:=by kernel_rfl
theorem te:Cm 189=true:=by kernel_rfl
theorem fR:Cm 191=true:=by kernel_rfl
theorem wT:Cm 192=true:=by kernel_rfl
theorem xD:Cm 213=true:=by kernel_rfl
theorem xF:Cm 214=true:=by kernel_rfl
theorem xL:Cm 216=true:=by kernel_rfl
theorem tf:Cm 228=true:=by kernel_rfl
theorem th:Cm 243=true:=by kernel_rfl
theorem ti:Cm 254=true:=by kernel_rfl
theorem xS:Cm 260=true:=by kernel_rfl
theorem tA:Cm 54=true:=by kernel_rfl
theorem fS:Jv 237 [(0,1),(1,1),(2,1),(3,1),(4,1),(5,1)]=true:=by kernel_rfl
theorem fT:one 191=true:=by kernel_rfl
theorem o39:one 39=true:=by kernel_rfl
theorem fW:one 43=true:=by kernel_rfl
theorem dV:Ip 43 90 1=true:=by kernel_rfl
theorem Tz:Ec 191 (MZ)=true:=by kernel_rfl
theorem KH:Ec 43 (JU)=true:=by kernel_rfl
theorem fX:LU 237=some [.pointer none,.slice none 0 0,.int .i64 0,.int .i64 0,.pointer none,.nilFunc]:=by kernel_rfl
theorem fY (q : Nat) (w : World) : (method (Tryz.prog.types.size + Made.depth) 191 (AX q) "Step").run Tryz.prog w = .ok (260, AX q) w := by kernel_rfl
theorem Y9{m:St}(hm:m.Ok)(hr: ∀a,Bf (ld l a)):Cv C 213 [.iface 191 (AX q),AX C.s] l (oN C q m) (.bool (decide ((m.step C.M l).1.next= .nil))) (m.step C.M l).2 (oN C q (m.step C.M l).1):=by
 exact Ci 8 Tryz.func213 Z Ez fun w0 D0=>AZ 8 [0,4] Z<|CH Z Z Z Z xS (fun w=>fY _ w) (dR hm hr) Ez Aw<|AY 2 [] Z<|T.BC Z fun W D h=>⟨D,⟨rfl,rfl,h⟩,fun _ hk=>hk⟩
theorem NN{m m':Pk}(hrun:dU C d m l m' l'):Cv C 190 [AX d,AX C.s] l (mO C d m) (.bool (decide (m'.next= .nil))) l' (mO C d m'):=by
 refine Ci 25 Tryz.func190 Z CP fun w0 D0=>T.ex (fun _=>AQ fun _=>Bd IP) ?_
 intro tv;refine T.ex (fun _=>Bd IP) ?_;intro iv;refine T.MX (H:=[]) IP ?_;intro nv RN hN hl;obtain⟨KZ,fs,cs,rfl,hg,hc⟩:=hrun tv iv nv RN hN;refine AZ 14 [] Z<|zF Z Z Z Z CG<|Hz Z<|AP 10 [32] Z<|RV (H1:=[]) (H2:=[_]) Z hg Z hc CP Aw<|AY 2 [] Z<|T.ex (fun _=>AQ fun _=>Bd IP) ?_;intro tv';refine T.ex (fun _=>Bd IP) ?_;intro iv';refine T.MX IP ?_;intro Lc Y0 hN' hl';exact AZ 5 [] Z<|Le Z (IL (zT hN')) (Jl (zT hN') CG)<|AY 2 [] Z<|T.BC Z fun W D h=>⟨D,⟨rfl,rfl,tv',iv',Lc,Y0,hN',h⟩,fun _ hk=>hk⟩
theorem CL{m:Pk}(hn:m.next= .nil):Cv C 190 [AX d,AX C.s] l (mO C d m) (.bool true) l (mO C d m):=by
 refine Ci 25 Tryz.func190 Z CP fun w0 D0=>T.ex (fun _=>AQ fun _=>Bd IP) ?_
 intro tv;refine T.ex (fun _=>Bd IP) ?_;intro iv;refine T.MX (H:=[]) IP ?_;intro nv RN hN hl;have hi:=zT hN;rw[hn] at hi;exact AZ 14 [] Z<|Le Z (IL hi) (Jl hi CG)<|Hz Z<|AY 6 [] Z<|T.BC Z fun W D h=>⟨D,⟨rfl,rfl,tv,iv,nv,RN,hN,h⟩,fun _ hk=>hk⟩
theorem CM{m:Pk}(hm:m.Ok)(hr: ∀a,Bf (ld l a))(hn:m.next= .Po):dU C d m l (m.step C.M l).1 (m.step C.M l).2:=by
 obtain⟨ts,j,p,Dp,nx⟩:=m;obtain rfl:nx= .Po:=hn;have hlen:ts.length≤1000:=hm.len;rintro tv iv nv RN ⟨rfl,q,b,rs,cm,rfl,rfl,rfl⟩;refine⟨228,[AX d],[],rfl,tf,?_⟩;refine Ci 49 Tryz.func228 Z (Ac (Ac Ez _) _) fun w0 D0=>Gu (Ac Ez _)<|T.Og Ez<|AZ 7 [64] Z<|eE Z Z Z Tz<|NC Z<|Ls Z xD (Y9 hm.Dp hr) Ez Aw<|QO Z Z Z<|X.nil<|T.cond Z ?_ ?_
 ·intro hb0;refine T.J6 Z fun W D h=>?_
  have hn: ¬(Dp.step C.M l).1.next= .nil:=by simpa using hb0
  rw[show(⟨ts,j,p,Dp,.Po⟩:Pk).step C.M l=_ from if_neg hn];exact⟨D,⟨rfl,rfl,_,_,_,_,⟨rfl,_,_,_,_,rfl,rfl,rfl⟩,h⟩,fun _ hk=>hk⟩
 intro hb0;have hn0:(Dp.step C.M l).1.next= .nil:=by simpa using hb0
 refine AZ 8 [256] Z<|CB Z xF (zN (St.Ef hm.Dp hr).BO hn0) Ez<|AY 21 [0,32] Z<|T.cond Z ?_ ?_
 ·intro hb1;have hz:(Dp.step C.M l).1.BO=0:=of_decide_eq_true hb1;refine T.seq<|Ey 15 1 18432 (by kernel_rfl)<|AP 5 [] Z<|CB Z fN (YU) Ez<|AP 5 [] Z<|UF Z fR (Y1 (node:=false)) (fun _=>Ez) (fun _=>(Bv Z Aw)) fun q0=>AP 2 [] Z<|KQ Z fT Z .z Z .z (Aj (by kernel_rfl) Aw)<|AY 9 [32] Z<|T.BJ Z fun W D h=>?_
  rw[show(⟨ts,j,p,Dp,.Po⟩:Pk).step C.M l=_ from(if_pos hn0).trans (if_pos hz)];rw[hz] at h;exact⟨D,⟨rfl,rfl,_,_,_,_,⟨rfl,_,_,_,_,rfl,rfl,rfl⟩,h⟩,fun _ hk=>hk⟩
 intro hb1;have hz: ¬(Dp.step C.M l).1.BO=0:=of_decide_eq_false hb1;refine T.skip<|T.BJ Z fun W D h=>?_
 rw[show(⟨ts,j,p,Dp,.Po⟩:Pk).step C.M l=_ from(if_pos hn0).trans (if_neg hz)];obtain⟨D1,h1,h2⟩:=Eo h;exact⟨D1,⟨rfl,rfl,_,_,_,_,⟨rfl,_,_,_,rfl,rfl⟩,h1⟩,h2⟩
theorem NO{m:Pk}(hm:m.Ok)(hr: ∀a,Bf (ld l a))(hn:m.next= .fill):dU C d m l (m.step C.M l).1 (m.step C.M l).2:=by
 obtain⟨ts,j,p,Dp,nx⟩:=m;obtain rfl:nx= .fill:=hn;have hlen:ts.length≤1000:=hm.len;have hj:j<ts.length:=hm.j rfl;rintro tv iv nv RN ⟨rfl,b,rs,cm,rfl,rfl⟩;refine⟨243,[AX d],[],rfl,th,?_⟩;refine Ci 51 Tryz.func243 Z (Ac (Ac Aa _) _) fun w0 D0=>Gu (Ac Aa _)<|T.Og Aa<|T.seq<|Ey 25 0 16777216 (by kernel_rfl)<|AP 13 [] Z<|CB Z wN (zJ) Aa<|AP 8 [] Z<|Jm Z dV ⟨Int.natCast_nonneg _,Int.ofNat_lt.2 hj⟩<|JY Z M8 (.s .z) (CK (hm.j Z))<|Ls Z Q7 (Jw Aa (hm.ts _ (Nh (hm.j Z)))) Aa Aw<|AP 7 [128] Z<|BU (c:=((j+1:Nat):Int)) Z (by simp only[FC];rw[IntWalk.i64_in _ (by omega)];omega)<|AY 5 [] Z<|Ey 10 0 0 (by kernel_rfl)<|AY 11 [] Z<|T.cond Z ?_ ?_
 ·intro hb0;refine CW 8 [32] Z<|T.BJ Z fun W D h=>?_
  have hj1:j+1=ts.length:=by have:((j+1:Nat):Int)=(ts.length:Int):=of_decide_eq_true hb0;omega
  rw[show(⟨ts,j,p,Dp,.fill⟩:Pk).step C.M l=_ from if_pos hj1];exact⟨D,⟨rfl,rfl,_,_,_,_,⟨rfl,_,_,_,rfl,rfl⟩,h⟩,fun _ hk=>hk⟩
 intro hb0;refine T.skip<|T.BJ Z fun W D h=>?_
 have hj1: ¬j+1=ts.length:=by have: ¬((j+1:Nat):Int)=(ts.length:Int):=of_decide_eq_false hb0;omega
 rw[show(⟨ts,j,p,Dp,.fill⟩:Pk).step C.M l=_ from if_neg hj1];exact⟨D,⟨rfl,rfl,_,_,_,_,⟨rfl,_,_,_,rfl,rfl⟩,h⟩,fun _ hk=>hk⟩
theorem NX{m:Pk}(hm:m.Ok)(hr: ∀a,Bf (ld l a))(hn:m.next= .Bq):dU C d m l (m.step C.M l).1 (m.step C.M l).2:=by
 obtain⟨ts,j,p,Dp,nx⟩:=m;obtain rfl:nx= .Bq:=hn;have hlen:ts.length≤1000:=hm.len;rintro tv iv nv RN ⟨rfl,b,rs,cm,rfl,rfl⟩;refine⟨254,[AX d],[],rfl,ti,?_⟩;refine Ci 44 Tryz.func254 Z (Ac (Ac Aa _) _) fun w0 D0=>Gu (Ac Aa _)<|T.Og Aa<|T.seq<|Ey 17 0 65536 (by kernel_rfl)<|AP 9 [] Z<|CB Z xL (zI) Aa<|AP 5 [] Z<|Ic Z FV Ej (Oh (NE hm.len))<|Ls Z Q7 (Jw Aa (zS hm.len)) Aa Aw<|AY 2 [] Z<|Ey 19 1 294912 (by kernel_rfl)<|AP 5 [] Z<|CB Z wT (zH) Aa<|AP 9 [] Z<|UF Z fL (V6 (node:=false) (hm.p)) (fun _=>Ez) (fun _=>(Bv Z Aw)) fun q0=>AP 2 [] Z<|KQ Z fT Z .z Z .z (Aj (by kernel_rfl) Aw)<|AY 9 [32] Z<|T.BJ Z fun W D h=>?_
 obtain⟨D1,h1,h2⟩:=D6 [0] (by decide) h;exact⟨D1,⟨rfl,rfl,_,_,_,_,⟨rfl,_,rfl,rfl⟩,h1⟩,h2⟩
theorem N0{m:Pk}(hm:m.Ok)(hr: ∀a,Bf (ld l a))(hn:m.next= .DV):dU C d m l (m.step C.M l).1 (m.step C.M l).2:=by
 obtain⟨ts,j,p,Dp,nx⟩:=m;obtain rfl:nx= .DV:=hn;have hlen:ts.length≤1000:=hm.len;rintro tv iv nv RN ⟨rfl,q,rfl,rfl⟩;refine⟨189,[AX d],[],rfl,te,?_⟩;refine Ci 22 Tryz.func189 Z (Ac Ez _) fun w0 D0=>Gu Ez<|AZ 6 [64] Z<|eE Z Z Z Tz<|NC Z<|Ls Z xD (Y9 hm.Dp hr) Ez Aw<|X.nil<|T.cond Z ?_ ?_
 ·intro hb0;have hn0:(Dp.step C.M l).1.next= .nil:=by simpa using hb0
  refine AZ 7 [256] Z<|CB Z xF (zN (St.Ef hm.Dp hr).BO hn0) Ez<|AY 10 [0,8] Z<|T.BJ Z fun W D h=>?_
  rw[show(⟨ts,j,p,Dp,.DV⟩:Pk).step C.M l=_ from if_pos hn0];obtain⟨D1,h1,h2⟩:=Eo h;exact⟨D1,⟨rfl,rfl,_,_,_,_,⟨rfl,rfl⟩,h1⟩,h2⟩
 intro hb0;refine T.skip<|T.BJ Z fun W D h=>?_
 have hn: ¬(Dp.step C.M l).1.next= .nil:=by simpa using hb0
 rw[show(⟨ts,j,p,Dp,.DV⟩:Pk).step C.M l=_ from if_neg hn];exact⟨D,⟨rfl,rfl,_,_,_,_,⟨rfl,_,rfl,rfl⟩,h⟩,fun _ hk=>hk⟩
theorem gA{m:Pk}(hm:m.Ok)(hr: ∀a,Bf (ld l a))(hn:m.next≠ .nil):dU C d m l (m.step C.M l).1 (m.step C.M l).2:=by
 cases h:m.next with
 |nil=>exact(hn h).elim
 |Po=>exact CM hm hr h
 |fill=>exact NO hm hr h
 |Bq=>exact NX hm hr h
 |DV=>exact N0 hm hr h
theorem PN{m:Pk}(hm:m.Ok)(hr: ∀a,Bf (ld l a)):Cv C 190 [AX d,AX C.s] l (mO C d m) (.bool (decide ((m.step C.M l).1.next= .nil))) (m.step C.M l).2 (mO C d (m.step C.M l).1):=by
 by_cases hn:m.next= .nil
 ·have e:m.step C.M l=(m,l):=by unfold Pk.step;rw[hn]
  rw[e];simp only[hn,decide_true];exact CL hn
 exact NN (gA hm hr hn)
theorem dW{m:Pk}(hn:m.next= .nil):Cv C 193 [AX d] l (mO C d m) (.int .i64 m.p) l (mO C d m):=by
 refine Ci 16 Tryz.func193 Z CP fun w0 D0=>T.ex (fun _=>AQ fun _=>Bd IP) ?_
 intro tv;refine T.ex (fun _=>Bd IP) ?_;intro iv;refine T.MX (H:=[]) IP ?_;intro nv RN hN hl;have hi:=zT hN;rw[hn] at hi;exact AZ 14 [] Z<|Le Z (IL hi) (Cp hi CG)<|Hz Z<|AY 11 [] Z<|T.BC Z fun W D h=>⟨D,⟨rfl,rfl,tv,iv,nv,RN,hN,h⟩,fun _ hk=>hk⟩
theorem oV{c:Nat}{rest:List Value}(ht:ts≠[])(h4:ts.length≤4)(hc:ts.length≤c):Cn C 205 [AX C.m,Dc b ts.length c] l (Az [⟨b,90,Gv ts++rest⟩] Cj) l (fun q=>Az [⟨b,90,Gv ts++rest⟩] (mO C q (.put ts))):=by
 have h0:ts.length≠0:=by simpa using ht
 refine Ci 43 Tryz.func205 Z (Ac Aa _) fun w0 D0=>T.Og Aa<|AZ 7 [0,4] Z<|Fp Z fS fX Z<|F7 Z CE fun b0=>AY 3 [] Z<|Ey 14 1 9216 (by kernel_rfl)<|AP 8 [] Z<|UG Z Z Z<|kq (k:=ts.length) Z Z Z Z dV (by omega)<|CF (rest:=rest) Z Z Z dV (.s .z) (by omega) (by simp[Gv]) (fun _ _=>Bv Z Aw) fun q rs cm hcm=>AP 2 [] Z<|KQ Z fW Z (.s .z) Z (.s .z) (Aj (by kernel_rfl) Aw)<|AP 5 [] Z<|iW Z Z Z Z PK<|AP 3 [] Z<|Du (c:=true) Z (decide_eq_true (by omega))<|Hz Z<|AP 6 [288] Z<|CB Z fN (YU) Aa<|AP 2 [] Z<|UF Z fR (Y1 (node:=false)) (fun _=>Ez) CE fun q1=>AY 17 [1,32,1] Z<|T.BC Z fun W D h=>?_
 have e:Pk.put ts=⟨ts,0,0,.Kq 5 false,.Po⟩:=if_neg ht;rw[e];obtain⟨D1,h1,h2⟩:=D6 [2,1,0] (by decide) h;obtain⟨h3,D2,h4,h5,h6⟩:=h1;exact⟨D1,⟨_,rfl,rfl,h3,D2,⟨_,_,_,_,⟨rfl,_,_,_,_,rfl,rfl,rfl⟩,h4⟩,h5,h6⟩,h2⟩
theorem PO:Cn C 172 [AX C.m] l Cj l (fun q=>mO C q .take):=by
 exact Ci 23 Tryz.func172 Z Aa fun w0 D0=>AZ 7 [0,4] Z<|Fp Z fS fX Z<|F7 Z CE fun b0=>AP 6 [] Z<|iW Z Z Z Z PK<|AP 6 [288] Z<|CB Z wT (zH) Aa<|AP 2 [] Z<|UF Z fR (Y1 (node:=false)) (fun _=>Ez) CE fun q1=>AY 17 [0,32] Z<|T.BC Z fun W D h=>⟨D,⟨_,rfl,rfl,_,_,_,_,⟨rfl,_,rfl,rfl⟩,h⟩,fun _ hk=>hk⟩
theorem Sr{p:Int}(hp:EW p):Cn C 170 [AX C.m,.int .i64 p] l Cj l (fun q=>mO C q (.Jr C.M p)):=by
 refine Ci 28 Tryz.func170 Z Aa fun w0 D0=>AZ 7 [0,4] Z<|Fp Z fS fX Z<|F7 Z CE fun b0=>AP 7 [] Z<|CB Z tA (O0) Aa<|AY 2 [] Z<|T.cond Z ?_ ?_
 ·intro hb0;refine AZ 4 [576] Z<|CB Z fN (YU) Aa<|AP 3 [] Z<|UF Z fL (V6 (node:=false) (hp)) (fun _=>Ez) CE fun q1=>AY 17 [0,32] Z<|T.BC Z fun W D h=>?_
  rw[show Pk.Jr C.M p=_ from if_pos (of_decide_eq_true hb0)];exact⟨D,⟨_,rfl,rfl,_,_,_,_,⟨rfl,_,rfl,rfl⟩,h⟩,fun _ hk=>hk⟩
 intro hb0;refine CW 6 [] Z<|T.BC Z fun W D h=>?_
 rw[show Pk.Jr C.M p=_ from if_neg (of_decide_eq_false hb0)];exact⟨D,⟨_,rfl,rfl,_,_,_,_,⟨rfl,rfl⟩,h⟩,fun _ hk=>hk⟩
theorem Pk.Ef{m:Pk}(hm:m.Ok)(hr: ∀a,Bf (ld l a)):(m.step M l).1.Ok:=by
 have hi:(m.Dp.step M l).1.Ok:=St.Ef hm.Dp hr;obtain⟨h1,h2,h3,h4,h5,h6⟩:=hm;have z:EW 0:=by unfold EW;omega
 unfold Pk.step;split
 ·exact⟨h1,h2,h3,h4,h5,h6⟩
 ·rename_i hn;split
  ·split
   ·exact⟨⟨z,by unfold Bf;simp[St.Kq],z⟩,h2,h3,(fun h=>nomatch h),z,fun _=>h6 hn⟩
   refine⟨hi,h2,h3,fun _=>?_,hi.BO,(fun h=>nomatch h)⟩;show m.j<m.Ar.length;rw[(h6 hn).2];exact List.length_pos_iff.2 (h6 hn).1
  exact⟨hi,h2,h3,fun h=>(by simp[hn] at h),h5,fun _=>h6 hn⟩
 ·rename_i hn;have:=h4 hn;split
  ·exact⟨h1,h2,h3,(fun h=>nomatch h),h5,(fun h=>nomatch h)⟩
  exact⟨h1,h2,h3,fun _=>(by show m.j+1<m.Ar.length;omega),h5,fun h=>(by simp[hn] at h)⟩
 ·exact⟨⟨h5,by unfold Bf;simp[St.push],z⟩,h2,h3,(fun h=>nomatch h),h5,(fun h=>nomatch h)⟩
 rename_i hn;split
 ·exact⟨hi,h2,h3,(fun h=>nomatch h),hi.BO,(fun h=>nomatch h)⟩
 exact⟨hi,h2,h3,fun h=>(by simp[hn] at h),h5,fun h=>(by simp[hn] at h)⟩
theorem Pk.D8{m:Pk}(hm:m.Ok)(hr:Nc l):Nc (m.step M l).2:=by
 have hi:Nc (m.Dp.step M l).2:=St.D8 hm.Dp hr;unfold Pk.step;split<;>(try split)<;>(try split)<;>first|exact hr|exact hi|skip
 ·rename_i hn _;exact hr.put (hm.ts _ (Nh (hm.j hn)))
 ·rename_i hn _;exact hr.put (hm.ts _ (Nh (hm.j hn)))
 exact hr.put (zS hm.len)
def Cl.cs(C:Cx)(x:Cl)(nv:Value):List Value:=[AX C.m,.int .i64 x.v,.int .u64 x.Ah,.int .u64 x.k,.bool x.JO,nv]
def uf(C:Cx)(d:Nat)(x:Cl)(nv:Value)(RN:BB):Prop:=match x.next with
 | .nil=>nv= .nilFunc∧RN=Cj
 | .DZ=>nv=fm 225 d∧RN=Cj
 | .count=>nv=fm 242 d∧RN=Cj
 | .swap=>nv=fm 253 d∧RN=Cj
 | .Jr=>nv=fm 261 d∧RN=Cj
theorem Rf{m:Cl}(nv:Value)(RN:BB)(h:uf C d m nv RN):CV RN:=by
 unfold uf at h;split at h<;>(obtain⟨-,rfl⟩:=h;exact Aa)
theorem zU{m:Cl}(h:uf C d m nv RN):VW nv (decide (m.next= .nil)):=by
 unfold uf at h;split at h<;>rename_i hn<;>rw[hn]<;>obtain⟨rfl,-⟩:=h<;>first|exact .inl ⟨rfl,rfl⟩|exact .inr ⟨_,_,_,rfl,rfl⟩
structure Cl.Ok (m:Cl):Prop where
 Ah:Bf m.Ah
theorem xT{c:Value}(w:World):(binOp .neq 252 (.agg #[AX b,v,c]) (.agg #[.pointer none,v,c])).run Tryz.prog w= .ok (.bool true) w:=by kernel_rfl
theorem xV{x:Operand}{u v:Array Value}(w:World):(eqGuard .neq 252 x y (.agg u) (.agg v)).run Tryz.prog w= .ok () w:=by kernel_rfl
def ug(C:Cx)(d:Nat)(m:Cl):BB:=fun D w=>uF 254 d (m.cs C) (uf C d m) D w
theorem Em{m:Cl}:CV (ug C d m):=Bd Rf
def dX(C:Cx)(d:Nat)(m:Cl)(l:Dk)(m':Cl)(l':Dk):Prop:= ∀nv RN,uf C d m nv RN→ ∃KZ fs cs,nv= .func (.func KZ) (List.toArray fs) (List.toArray cs)∧Cm KZ=true∧Cv C KZ (fs++[AX C.s]++cs) l (Az [⟨d,254,m.cs C nv⟩] RN) (.tuple #[]) l' (ug C d m')
theorem CN:Cm 165=true:=by kernel_rfl
theorem CR:Cm 221=true:=by kernel_rfl
theorem tj:Cm 225=true:=by kernel_rfl
theorem N1:Cm 240=true:=by kernel_rfl
theorem tk:Cm 242=true:=by kernel_rfl
theorem tt:Cm 253=true:=by kernel_rfl
theorem tw:Cm 261=true:=by kernel_rfl
theorem x7:Jv 252 [(0,1),(1,1),(2,1)]=true:=by kernel_rfl
theorem tz:Jv 254 [(0,3),(3,1),(4,1),(5,1)]=true:=by kernel_rfl
theorem uh:Ec 225 (YL)=true:=by kernel_rfl
theorem yW:LU 252=some [.pointer none,.int .i64 0,.int .u64 0]:=by kernel_rfl
theorem ua:LU 254=some [.pointer none,.int .i64 0,.int .u64 0,.int .u64 0,.bool false,.nilFunc]:=by kernel_rfl
theorem N2{m m':Cl}(hrun:dX C d m l m' l'):Cv C 226 [AX d,AX C.s] l (ug C d m) (.bool (decide (m'.next= .nil))) l' (ug C d m'):=by
 refine Ci 25 Tryz.func226 Z Em fun w0 D0=>T.MX (H:=[]) Rf ?_
 intro nv RN hN hl;obtain⟨KZ,fs,cs,rfl,hg,hc⟩:=hrun nv RN hN;refine AZ 14 [] Z<|zF Z Z Z Z CG<|Hz Z<|AP 10 [32] Z<|RV (H1:=[]) (H2:=[_]) Z hg Z hc Em Aw<|AY 2 [] Z<|T.MX Rf ?_;intro Lc Y0 hN' hl';exact AZ 5 [] Z<|Le Z (IL (zU hN')) (Jl (zU hN') CG)<|AY 2 [] Z<|T.BC Z fun W D h=>⟨D,⟨rfl,rfl,Lc,Y0,hN',h⟩,fun _ hk=>hk⟩
theorem CT{m:Cl}(hn:m.next= .nil):Cv C 226 [AX d,AX C.s] l (ug C d m) (.bool true) l (ug C d m):=by
 refine Ci 25 Tryz.func226 Z Em fun w0 D0=>T.MX (H:=[]) Rf ?_
 intro nv RN hN hl;have hi:=zU hN;rw[hn] at hi;exact AZ 14 [] Z<|Le Z (IL hi) (Jl hi CG)<|Hz Z<|AY 6 [] Z<|T.BC Z fun W D h=>⟨D,⟨rfl,rfl,nv,RN,hN,h⟩,fun _ hk=>hk⟩
theorem N3{m:Cl}(hm:m.Ok)(hn:m.next= .DZ):dX C d m l (m.step C.M l).1 (m.step C.M l).2:=by
 obtain⟨v,Ah,k,JO,nx⟩:=m;obtain rfl:nx= .DZ:=hn;rintro nv RN ⟨rfl,rfl⟩;refine⟨225,[AX d],[],rfl,tj,?_⟩;refine Ci 38 Tryz.func225 Z (Ac Aa _) fun w0 D0=>Gu Aa<|T.seq<|Ey 17 0 65536 (by kernel_rfl)<|AP 12 [] Z<|CB Z N1 (XZ) Aa<|CB Z UT (EH Aa) Aa<|AY 14 [0,32] Z<|Ey 10 0 0 (by kernel_rfl)<|AY 11 [] Z<|T.cond Z ?_ ?_
 ·intro hb0;refine CW 6 [8] Z<|T.BJ Z fun W D h=>?_
  rw[show(⟨v,Ah,k,JO,.DZ⟩:Cl).step C.M l=_ from if_pos (of_decide_eq_true hb0)];exact⟨D,⟨rfl,rfl,_,_,⟨rfl,rfl⟩,h⟩,fun _ hk=>hk⟩
 intro hb0;refine T.skip<|T.BJ Z fun W D h=>?_
 rw[show(⟨v,Ah,k,JO,.DZ⟩:Cl).step C.M l=_ from if_neg (of_decide_eq_false hb0)];exact⟨D,⟨rfl,rfl,_,_,⟨rfl,rfl⟩,h⟩,fun _ hk=>hk⟩
theorem C1{m:Cl}(hm:m.Ok)(hn:m.next= .count):dX C d m l (m.step C.M l).1 (m.step C.M l).2:=by
 obtain⟨v,Ah,k,JO,nx⟩:=m;obtain rfl:nx= .count:=hn;rintro nv RN ⟨rfl,rfl⟩;refine⟨242,[AX d],[],rfl,tk,?_⟩;exact Ci 17 Tryz.func242 Z (Ac Aa _) fun w0 D0=>Gu Aa<|AZ 8 [128] Z<|CB Z CN (UN) Aa<|Ls Z CR (YS Aa) Aa Aw<|AY 9 [32] Z<|T.BJ Z fun W D h=>⟨D,⟨rfl,rfl,_,_,⟨rfl,rfl⟩,h⟩,fun _ hk=>hk⟩
theorem N4{m:Cl}(hm:m.Ok)(hn:m.next= .swap):dX C d m l (m.step C.M l).1 (m.step C.M l).2:=by
 obtain⟨v,Ah,k,JO,nx⟩:=m;obtain rfl:nx= .swap:=hn;rintro nv RN ⟨rfl,rfl⟩;refine⟨253,[AX d],[],rfl,tt,?_⟩;refine Ci 41 Tryz.func253 Z (Ac Aa _) fun w0 D0=>Gu Aa<|T.seq<|Ey 26 1 37748736 (by kernel_rfl)<|AP 12 [] Z<|CB Z N1 (XZ) Aa<|AP 9 [] Z<|Ls Z ry (Si Aa hm.Ah) Aa (Bv Z Aw)<|AP 2 [] Z<|KQ Z o4 Z .z Z .z (Aj (by kernel_rfl) Aw)<|AY 17 [32] Z<|T.cond Z ?_ ?_
 ·intro hb0;refine CW 6 [8] Z<|T.BJ Z fun W D h=>?_
  rw[show(⟨v,Ah,k,JO,.swap⟩:Cl).step C.M l=_ from if_pos hb0];rw[hb0] at h;exact⟨D,⟨rfl,rfl,_,_,⟨rfl,rfl⟩,h⟩,fun _ hk=>hk⟩
 intro hb0;refine T.skip<|T.BJ Z fun W D h=>?_
 rw[show(⟨v,Ah,k,JO,.swap⟩:Cl).step C.M l=_ from if_neg (by rw[hb0];exact Bool.false_ne_true)];rw[hb0] at h;exact⟨D,⟨rfl,rfl,_,_,⟨rfl,rfl⟩,h⟩,fun _ hk=>hk⟩
theorem N5{m:Cl}(hm:m.Ok)(hn:m.next= .Jr):dX C d m l (m.step C.M l).1 (m.step C.M l).2:=by
 obtain⟨v,Ah,k,JO,nx⟩:=m;obtain rfl:nx= .Jr:=hn;rintro nv RN ⟨rfl,rfl⟩;refine⟨261,[AX d],[],rfl,tw,?_⟩;exact Ci 15 Tryz.func261 Z (Ac Aa _) fun w0 D0=>Gu Aa<|AZ 8 [128] Z<|CB Z CN (UN) Aa<|Ls Z CR (YS Aa) Aa Aw<|AY 7 [8] Z<|T.BJ Z fun W D h=>⟨D,⟨rfl,rfl,_,_,⟨rfl,rfl⟩,h⟩,fun _ hk=>hk⟩
theorem gC{m:Cl}(hm:m.Ok)(hn:m.next≠ .nil):dX C d m l (m.step C.M l).1 (m.step C.M l).2:=by
 cases h:m.next with
 |nil=>exact(hn h).elim
 |DZ=>exact N3 hm h
 |count=>exact C1 hm h
 |swap=>exact N4 hm h
 |Jr=>exact N5 hm h
theorem We{m:Cl}(hm:m.Ok):Cv C 226 [AX d,AX C.s] l (ug C d m) (.bool (decide ((m.step C.M l).1.next= .nil))) (m.step C.M l).2 (ug C d (m.step C.M l).1):=by
 by_cases hn:m.next= .nil
 ·have e:m.step C.M l=(m,l):=by unfold Cl.step;rw[hn]
  rw[e];simp only[hn,decide_true];exact CT hn
 exact N2 (gC hm hn)
theorem Cl.Ef{m:Cl}(hm:m.Ok):(m.step M l).1.Ok:=by
 obtain⟨h1⟩:=hm;unfold Cl.step;split<;>(try split)<;>exact⟨h1⟩
theorem Cl.D8{m:Cl}(hm:m.Ok)(hr:Nc l):Nc (m.step M l).2:=by
 unfold Cl.step;split<;>(try split)<;>first|exact hr|exact hr.XG|exact hr.KL hm.Ah
theorem vZ{m:Cl}:Cv C 227 [AX d] l (ug C d m) (.bool m.JO) l (ug C d m):=by
 refine Ci 11 Tryz.func227 Z Em fun w0 D0=>T.MX (H:=[]) Rf ?_
 intro nv RN hN hl;have hi:=zU hN;exact AZ 7 [] Z<|iW Z Z Z Z uh<|AP 5 [] Z<|Hz Z<|AY 2 [] Z<|T.BC Z fun W D h=>⟨D,⟨rfl,rfl,nv,RN,hN,h⟩,fun _ hk=>hk⟩
theorem oW{v c:Int}:Cn C 203 [AX C.m,.int .i64 v,.int .u64 c] l Cj l (fun q=>ug C q (.new v c)):=by
 exact Ci 28 Tryz.func203 Z Aa fun w0 D0=>AZ 9 [0,32] Z<|Fp Z x7 yW Z<|Fp Z tz ua Z<|F7 Z CE fun b0=>AP 11 [] Z<|Fp Z x7 yW Z<|Le Z xV xT<|AY 15 [32] Z<|T.BC Z fun W D h=>⟨D,⟨_,rfl,rfl,_,_,⟨rfl,rfl⟩,h⟩,fun _ hk=>hk⟩
def Ad.cs(C:Cx)(x:Ad)(qv pv bv nv:Value):List Value:=[AX C.m,.int .u64 x.BN,qv,pv,bv,nv]
def uj(C:Cx)(d:Nat)(x:Ad)(qv pv bv nv:Value)(RN:BB):Prop:=match x.next with
 | .nil=>nv= .nilFunc∧RN=Cj
 | .own=>nv=fm 250 d∧ ∃q,qv=AX q∧RN=QP q x.push
 | .F8=>nv=fm 259 d∧ ∃q,pv=AX q∧RN=mO C q x.put
theorem IQ{m:Ad}{qv pv bv:Value}(nv:Value)(RN:BB)(h:uj C d m qv pv bv nv RN):CV RN:=by
 unfold uj at h;split at h
 ·obtain⟨-,rfl⟩:=h;exact Aa
 ·obtain⟨-,q,-,rfl⟩:=h;exact EJ
 obtain⟨-,q,-,rfl⟩:=h;exact CP
theorem C2{m:Ad}{qv pv bv:Value}(h:uj C d m qv pv bv nv RN):VW nv (decide (m.next= .nil)):=by
 unfold uj at h;split at h<;>rename_i hn<;>rw[hn]<;>obtain⟨rfl,-⟩:=h<;>first|exact .inl ⟨rfl,rfl⟩|exact .inr ⟨_,_,_,rfl,rfl⟩
structure Ad.Ok (m:Ad):Prop where
 BN:Bf m.BN
 push:m.push.Ok
 put:m.put.Ok
def Mt(C:Cx)(d:Nat)(m:Ad):BB:=fun D w=> ∃qv:Value,∃pv:Value,∃bv:Value,uF 262 d (m.cs C qv pv bv) (uj C d m qv pv bv) D w
theorem MQ{m:Ad}:CV (Mt C d m):=AQ fun _=>AQ fun _=>AQ fun _=>Bd IQ
def zV(C:Cx)(d:Nat)(m:Ad)(l:Dk)(m':Ad)(l':Dk):Prop:= ∀(qv:Value) (pv:Value) (bv:Value) nv RN,uj C d m qv pv bv nv RN→ ∃KZ fs cs,nv= .func (.func KZ) (List.toArray fs) (List.toArray cs)∧Cm KZ=true∧Cv C KZ (fs++[AX C.s]++cs) l (Az [⟨d,262,m.cs C qv pv bv nv⟩] RN) (.tuple #[]) l' (Mt C d m')
theorem gD:Pm 262 0 0=true:=by kernel_rfl
theorem gE:Cm 105=true:=by kernel_rfl
theorem gF:Cm 138=true:=by kernel_rfl
theorem gH:Cm 139=true:=by kernel_rfl
theorem C3:Cm 190=true:=by kernel_rfl
theorem y0:Cm 205=true:=by kernel_rfl
theorem uc:Cm 249=true:=by kernel_rfl
theorem ud:Cm 250=true:=by kernel_rfl
theorem ue:Cm 259=true:=by kernel_rfl
theorem ul:Jv 262 [(0,1),(1,1),(2,1),(3,1),(4,1),(5,1)]=true:=by kernel_rfl
theorem zE:one 180=true:=by kernel_rfl
theorem ur:LU 262=some [.pointer none,.int .u64 0,.pointer none,.pointer none,.bool false,.nilFunc]:=by kernel_rfl
theorem kw:LU 90=some [.int .u64 0]:=by kernel_rfl
theorem N6{m m':Ad}(hrun:zV C d m l m' l'):Cv C 251 [AX d,AX C.s] l (Mt C d m) (.bool (decide (m'.next= .nil))) l' (Mt C d m'):=by
 refine Ci 25 Tryz.func251 Z MQ fun w0 D0=>T.ex (fun _=>AQ fun _=>AQ fun _=>Bd IQ) ?_
 intro qv;refine T.ex (fun _=>AQ fun _=>Bd IQ) ?_;intro pv;refine T.ex (fun _=>Bd IQ) ?_;intro bv;refine T.MX (H:=[]) IQ ?_;intro nv RN hN hl;obtain⟨KZ,fs,cs,rfl,hg,hc⟩:=hrun qv pv bv nv RN hN;refine AZ 14 [] Z<|zF Z Z Z Z CG<|Hz Z<|AP 10 [32] Z<|RV (H1:=[]) (H2:=[_]) Z hg Z hc MQ Aw<|AY 2 [] Z<|T.ex (fun _=>AQ fun _=>AQ fun _=>Bd IQ) ?_;intro ut;refine T.ex (fun _=>AQ fun _=>Bd IQ) ?_;intro pv';refine T.ex (fun _=>Bd IQ) ?_;intro bv';refine T.MX IQ ?_;intro Lc Y0 hN' hl';exact AZ 5 [] Z<|Le Z (IL (C2 hN')) (Jl (C2 hN') CG)<|AY 2 [] Z<|T.BC Z fun W D h=>⟨D,⟨rfl,rfl,ut,pv',bv',Lc,Y0,hN',h⟩,fun _ hk=>hk⟩
theorem C4{m:Ad}(hn:m.next= .nil):Cv C 251 [AX d,AX C.s] l (Mt C d m) (.bool true) l (Mt C d m):=by
 refine Ci 25 Tryz.func251 Z MQ fun w0 D0=>T.ex (fun _=>AQ fun _=>AQ fun _=>Bd IQ) ?_
 intro qv;refine T.ex (fun _=>AQ fun _=>Bd IQ) ?_;intro pv;refine T.ex (fun _=>Bd IQ) ?_;intro bv;refine T.MX (H:=[]) IQ ?_;intro nv RN hN hl;have hi:=C2 hN;rw[hn] at hi;exact AZ 14 [] Z<|Le Z (IL hi) (Jl hi CG)<|Hz Z<|AY 6 [] Z<|T.BC Z fun W D h=>⟨D,⟨rfl,rfl,qv,pv,bv,nv,RN,hN,h⟩,fun _ hk=>hk⟩
theorem gL{m:Ad}(hm:m.Ok)(hr: ∀a,Bf (ld l a))(hn:m.next= .own):zV C d m l (m.step C.M l).1 (m.step C.M l).2:=by
 obtain⟨BN,push,put,nx⟩:=m;obtain rfl:nx= .own:=hn;rintro qv pv bv nv RN ⟨rfl,q,rfl,rfl⟩;refine⟨250,[AX d],[],rfl,ud,?_⟩;refine Ci 49 Tryz.func250 Z (Ac EJ _) fun w0 D0=>Gu EJ<|AZ 13 [0,64] Z<|Ls Z gF (V5 hm.push hr) EJ Aw<|QO Z Z Z<|X.nil<|T.cond Z ?_ ?_
 ·intro hb0;have hn: ¬(push.step l).1.next= .nil:=by simpa using hb0
  refine T.J6 Z fun W D h=>?_
  rw[show(⟨BN,push,put,.own⟩:Ad).step C.M l=_ from if_neg hn];exact⟨D,⟨rfl,rfl,_,_,_,_,_,⟨rfl,_,rfl,rfl⟩,h⟩,fun _ hk=>hk⟩
 intro hb0;have hn0:(push.step l).1.next= .nil:=by simpa using hb0
 refine AZ 14 [8] Z<|CB Z gH (V4 hn0) EJ<|AY 11 [] Z<|T.cond Z ?_ ?_
 ·intro hb1;refine CW 8 [8] Z<|Ey 14 31 9728 (by kernel_rfl)<|AP 9 [] Z<|Qc Z dV kw (by decide) Z Z Z (fun _=>(BP Z o39 (.s .z) Z (Ed Z gD (Ia Z (Bv Z (Bv Z Aw)))))) fun b0=>sx (is:=[1,0]) (H1:=[_]) (H2:=[_]) (by decide) Z Z Z Z y0 Z (oV (ts:=[BN]) (rest:=[]) (by simp) (by simp) (by simp)) (fun _=>Ac CP _) (fun _=>(Aj (by kernel_rfl) (Aj (by kernel_rfl) (Aj (by kernel_rfl) (Aj (by kernel_rfl) (Bv Z Aw)))))) fun q1=>AP 2 [] Z<|KQ Z zE Z .z Z .z (Aj (by kernel_rfl) (Aj (by kernel_rfl) (Aj (by kernel_rfl) (Aj (by kernel_rfl) (Aj (by kernel_rfl) Aw)))))<|AY 9 [32] Z<|T.BJ Z fun W D h=>?_
  rw[show(⟨BN,push,put,.own⟩:Ad).step C.M l=_ from(if_pos hn0).trans (if_pos (of_decide_eq_true hb1))];obtain⟨D1,h1,h2⟩:=D6 (H:=[_,_]) [0] (by decide) h;exact⟨D1,⟨rfl,rfl,_,_,_,_,_,⟨rfl,_,rfl,rfl⟩,h1⟩,h2⟩
 intro hb1;refine T.skip<|T.BJ Z fun W D h=>?_
 rw[show(⟨BN,push,put,.own⟩:Ad).step C.M l=_ from(if_pos hn0).trans (if_neg (of_decide_eq_false hb1))];obtain⟨D1,h1,h2⟩:=Eo h;exact⟨D1,⟨rfl,rfl,_,_,_,_,_,⟨rfl,rfl⟩,h1⟩,h2⟩
theorem Od{m:Ad}(hm:m.Ok)(hr: ∀a,Bf (ld l a))(hn:m.next= .F8):zV C d m l (m.step C.M l).1 (m.step C.M l).2:=by
 obtain⟨BN,push,put,nx⟩:=m;obtain rfl:nx= .F8:=hn;rintro qv pv bv nv RN ⟨rfl,q,rfl,rfl⟩;refine⟨259,[AX d],[],rfl,ue,?_⟩;refine Ci 13 Tryz.func259 Z (Ac CP _) fun w0 D0=>Gu CP<|AZ 7 [32] Z<|Ls Z C3 (PN hm.put hr) CP Aw<|X.nil<|T.cond Z ?_ ?_
 ·intro hb0;refine CW 6 [8] Z<|T.BJ Z fun W D h=>?_
  rw[show(⟨BN,push,put,.F8⟩:Ad).step C.M l=_ from if_pos (of_decide_eq_true hb0)];obtain⟨D1,h1,h2⟩:=Eo h;exact⟨D1,⟨rfl,rfl,_,_,_,_,_,⟨rfl,rfl⟩,h1⟩,h2⟩
 intro hb0;refine T.skip<|T.BJ Z fun W D h=>?_
 rw[show(⟨BN,push,put,.F8⟩:Ad).step C.M l=_ from if_neg (of_decide_eq_false hb0)];exact⟨D,⟨rfl,rfl,_,_,_,_,_,⟨rfl,_,rfl,rfl⟩,h⟩,fun _ hk=>hk⟩
theorem gM{m:Ad}(hm:m.Ok)(hr: ∀a,Bf (ld l a))(hn:m.next≠ .nil):zV C d m l (m.step C.M l).1 (m.step C.M l).2:=by
 cases h:m.next with
 |nil=>exact(hn h).elim
 |own=>exact gL hm hr h
 |F8=>exact Od hm hr h
theorem uo{m:Ad}(hm:m.Ok)(hr: ∀a,Bf (ld l a)):Cv C 251 [AX d,AX C.s] l (Mt C d m) (.bool (decide ((m.step C.M l).1.next= .nil))) (m.step C.M l).2 (Mt C d (m.step C.M l).1):=by
 by_cases hn:m.next= .nil
 ·have e:m.step C.M l=(m,l):=by unfold Ad.step;rw[hn]
  rw[e];simp only[hn,decide_true];exact C4 hn
 exact N6 (gM hm hr hn)
theorem Pk.wB(h: ∀t∈ts,Bf t)(hl:ts.length≤1000):(Pk.put ts).Ok:=by
 have z:EW 0:=by unfold EW;omega
 have z6:Bf 0:=by unfold Bf;omega
 unfold Pk.put;split
 ·exact⟨⟨z,z6,z⟩,by simp,by simp,(fun h=>nomatch h),z,(fun h=>nomatch h)⟩
 rename_i hn;exact⟨⟨z,z6,z⟩,h,hl,(fun h=>nomatch h),z,fun _=>⟨hn,rfl⟩⟩
theorem Pk.Su:Pk.take.Ok:=by
 have z:EW 0:=by unfold EW;omega
 have z6:Bf 0:=by unfold Bf;omega
 exact⟨⟨z,z6,z⟩,by simp[Pk.take],by simp[Pk.take],(fun h=>nomatch h),z,(fun h=>nomatch h)⟩
theorem Pk.Of{p:Int}(hp:EW p):(Pk.Jr M p).Ok:=by
 have z:EW 0:=by unfold EW;omega
 have z6:Bf 0:=by unfold Bf;omega
 unfold Pk.Jr;split
 ·exact⟨⟨hp,z6,z⟩,by simp,by simp,(fun h=>nomatch h),z,(fun h=>nomatch h)⟩
 exact⟨⟨z,z6,z⟩,by simp,by simp,(fun h=>nomatch h),z,(fun h=>nomatch h)⟩
theorem Ad.Ef{m:Ad}(hm:m.Ok)(hr: ∀a,Bf (ld l a)):(m.step M l).1.Ok:=by
 have h1:=Dq.Ef hm.push hr;have h2:=Pk.Ef (M:=M) hm.put hr;have h3:(Pk.put [m.BN]).Ok:=Pk.wB (by simpa using hm.BN) (by simp);unfold Ad.step;split<;>(try split)<;>(try split)<;>first|exact hm|exact⟨hm.BN,h1,h3⟩|exact⟨hm.BN,h1,hm.put⟩|exact⟨hm.BN,hm.push,h2⟩
theorem Ad.D8{m:Ad}(hm:m.Ok)(hr:Nc l):Nc (m.step M l).2:=by
 have h1:Nc (m.push.step l).2:=Dq.D8 hm.push hr;have h2:=Pk.D8 (M:=M) hm.put hr;unfold Ad.step;split<;>(try split)<;>(try split)<;>first|exact hr|exact h1|exact h2
theorem C5{i t:Int}(hi:C.M.VM i≥0):Cn C 238 [AX C.m,.int .i64 i,.int .u64 t] l Cj l (fun q=>Mt C q (.new C.M i t)):=by
 exact Ci 30 Tryz.func238 Z Aa fun w0 D0=>AZ 8 [0,8] Z<|Fp Z ul ur Z<|F7 Z CE fun b0=>AP 7 [] Z<|CB Z ko (iO Aa) Aa<|Du (c:=true) Z (decide_eq_true hi)<|AP 7 [288] Z<|CB Z gE (iV) Aa<|NC Z<|UF Z uc (M9 (e:=C.M.CS i)) (fun _=>EJ) CE fun q1=>AY 17 [0,32] Z<|T.BC Z fun W D h=>⟨D,⟨_,rfl,rfl,_,_,_,_,_,⟨rfl,_,rfl,rfl⟩,h⟩,fun _ hk=>hk⟩
def Ev.cells(e:Ev):List Value:=[.int .i64 e.kind,.int .i64 e.Di,.int .i64 e.a,.int .i64 e.b,.int .i64 e.c]
theorem oZ(z:Int):z=0∨(∃n,z=Int.ofNat (n+1))∨ ∃n,z=Int.negSucc n:=by
 cases z with
 |ofNat n=>cases n with
  |zero=>exact .inl rfl
  |succ n=>exact .inr (.inl ⟨n,rfl⟩)
 |negSucc n=>exact .inr (.inr ⟨n,rfl⟩)
theorem On{x:Ev}(h:x≠BH)(w:World):(binOp .neq 33 (.agg x.cells.toArray) (.agg BH.cells.toArray)).run Tryz.prog w= .ok (.bool true) w:=by
 obtain⟨a,b,c,d,e⟩:=x;rcases oZ a with rfl|⟨n,rfl⟩|⟨n,rfl⟩
 ·rcases oZ b with rfl|⟨n,rfl⟩|⟨n,rfl⟩
  ·rcases oZ c with rfl|⟨n,rfl⟩|⟨n,rfl⟩
   ·rcases oZ d with rfl|⟨n,rfl⟩|⟨n,rfl⟩
    ·rcases oZ e with rfl|⟨n,rfl⟩|⟨n,rfl⟩
     ·exact(h rfl).elim
     ·kernel_rfl
     kernel_rfl
    ·kernel_rfl
    kernel_rfl
   ·kernel_rfl
   kernel_rfl
  ·kernel_rfl
  kernel_rfl
 ·kernel_rfl
 kernel_rfl
theorem Ow{x:Ev}(h:x=BH)(w:World):(binOp .neq 33 (.agg x.cells.toArray) (.agg BH.cells.toArray)).run Tryz.prog w= .ok (.bool false) w:=by
 subst h;kernel_rfl
theorem o6{x:Operand}{u v:Array Value}(w:World):(eqGuard .neq 33 x y (.agg u) (.agg v)).run Tryz.prog w= .ok () w:=by kernel_rfl
theorem wC(hM:M.Ok){i:Int}(h:0≤i∧i<M.Ai):M.VM i≥0:=by
 have h1:=hM.Iu;have h2:=hM.BK;unfold Bz.VM Bz.Ja;rw[if_neg (by omega)];have:0≤i*(2+M.BK):=Int.mul_nonneg h.1 (by omega);omega
theorem UW:Y5 22 3 5=true:=by kernel_rfl
theorem gN:Cm 145=true:=by kernel_rfl
theorem OF:Cm 218=true:=by kernel_rfl
theorem XI:Cm 49=true:=by kernel_rfl
theorem va:Cm 51=true:=by kernel_rfl
theorem C6:Cm 55=true:=by kernel_rfl
theorem g67:Cm 67=true:=by kernel_rfl
theorem vb:Jv 224 [(0,1),(1,1)]=true:=by kernel_rfl
theorem vc:Bq 22 5=true:=by kernel_rfl
theorem gO:Bq 224 2=true:=by kernel_rfl
theorem gP:LU 224=some [.int .i64 0,.int .i64 0]:=by kernel_rfl
theorem Sv{a b c:Int}:Cv C 218 [.int .i64 a,.int .i64 b,.int .i64 c] l Cj (.int .i64 (bound a b c)) l Cj:=by
 exact Ci 12 Tryz.func218 Z Aa fun w0 D0=>AZ 8 [] Z<|aW Z Z Z<|NC Z<|UG Z Z Z<|AY 2 [] Z<|T.BC Z fun W D h=>⟨D,⟨rfl,rfl,h⟩,fun _ hk=>hk⟩
theorem Za{s f ch:Int}:Cv C 198 [.int .i64 s,.int .i64 f,.int .i64 ch] l Cj (.tuple #[.agg #[.int .i64 (JQ s f),.int .i64 (NF s f ch)],.bool (decide (NF s f ch<bound 0 s 1000))]) l Cj:=by
 have hA: -9223372036854775808≤JQ s f+bound 1 ch 1000∧JQ s f+bound 1 ch 1000≤9223372036854775807:=by
  unfold JQ bound;omega
 refine Ci 26 Tryz.func198 Z Aa fun w0 D0=>AZ 2 [1] Z<|Hg Z gP CE fun b0=>AP 5 [] Z<|CB Z OF (Sv) Aa<|AP 6 [] Z<|CB Z OF (Sv) Aa<|AP 6 [] Z<|CB Z OF (Sv) Aa<|BU (c:=JQ s f+bound 1 ch 1000) Z (EG hA)<|NC Z<|CB Z OF (Sv) Aa<|AP 6 [64] Z<|Fp Z vb gP Z<|AY 6 [] Z<|T.oH Z Z gO .z Z fun W D h=>?_
 obtain⟨D1,h1,h2⟩:=A8 h;exact⟨D1,⟨rfl,rfl,h1⟩,h2⟩
theorem OK{R:BB}{v j:Int}(hj:0≤j∧j≤100):Cv C 67 [AX C.m,.int .i64 v,.int .i64 j] l R (.int .i64 (C.M.node v j)) l R:=Cv.get fun w h=>Oy w C h v j hj
theorem Fg(hM:M.Ok)(v:Int):0≤M.CU v∧M.CU v≤16:=by
 unfold Bz.CU;split
 ·omega
 have h:=hM.t7 (v-1).toNat (by have:=hM.nodes;omega);omega
theorem C7{v j:Int}(hM:C.M.Ok):Cv C 183 [AX C.m,.int .i64 v,.int .i64 j] l Cj (.int .i64 (C.M.H8 v j)) l Cj:=by
 refine Ci 21 Tryz.func183 Z Aa fun w0 D0=>CW 6 [] Z ?_
 by_cases hq:j<0
 ·skip;refine AZ 2 [] Z<|Du (c:=true) Z (decide_eq_true hq)<|AP 6 [] Z<|Hz Z<|AY 6 [] Z<|T.BC Z fun W D h=>?_
  rw[show C.M.H8 v j=_ from if_pos (.inl hq)];exact⟨D,⟨rfl,rfl,h⟩,fun _ hk=>hk⟩
 skip;refine AZ 2 [] Z<|Du (c:=false) Z (decide_eq_false hq)<|AP 4 [] Z<|CB Z C6 (Kw) Aa<|Du Z Z<|Hz Z<|X.nil<|T.cond Z ?_ ?_
 ·intro hb1;have hq2:j≥C.M.CU v:=of_decide_eq_true hb1;refine CW 4 [] Z<|T.BC Z fun W D h=>?_
  rw[show C.M.H8 v j=_ from if_pos (.inr hq2)];exact⟨D,⟨rfl,rfl,h⟩,fun _ hk=>hk⟩
 intro hb1;have hq2: ¬j≥C.M.CU v:=of_decide_eq_false hb1;have hj:0≤4+j∧4+j≤100:=by have:=Fg hM v;omega
 refine AZ 6 [] Z<|BU (c:=4+j) Z (EG (by simp only[FC];have:=Fg hM v;omega))<|CB Z g67 (OK hj) Aa<|AY 2 [] Z<|T.BC Z fun W D h=>?_
 rw[show C.M.H8 v j=_ from if_neg (fun h=>h.elim hq hq2)];exact⟨D,⟨rfl,rfl,h⟩,fun _ hk=>hk⟩
theorem iY{R:BB}(hl:CV R){v j:Int}(hM:C.M.Ok):Cv C 183 [AX C.m,.int .i64 v,.int .i64 j] l R (.int .i64 (C.M.H8 v j)) l R:=Cv.frame hl (C7 hM)
theorem GN{R:BB}(hl:CV R):Cv C 115 [AX C.m] l R (.agg C.M.cfg.toArray) l R:=Cv.frame hl dO
theorem TA{R:BB}(hl:CV R){s f ch:Int}:Cv C 198 [.int .i64 s,.int .i64 f,.int .i64 ch] l R (.tuple #[.agg #[.int .i64 (JQ s f),.int .i64 (NF s f ch)],.bool (decide (NF s f ch<bound 0 s 1000))]) l R:=Cv.frame hl Za
theorem ON(hM:M.Ok){j:Int}(h0:0≤j)(h1:j<M.parts):(-9223372036854775808≤j*M.AO∧j*M.AO≤9223372036854775807)∧(-9223372036854775808≤j*M.AO+1∧j*M.AO+1≤9223372036854775807)∧(-9223372036854775808≤j+1∧j+1≤9223372036854775807)∧ -9223372036854775808≤(j+1)*M.AO∧(j+1)*M.AO≤9223372036854775807:=by
 have h2:=hM.parts;have h3:=hM.AO;have h4:0≤j*M.AO:=Int.mul_nonneg h0 (by omega);have h5:j*M.AO≤100000*16:=Int.mul_le_mul (by omega) h3.2 (by omega) (by omega);have h6:(j+1)*M.AO=j*M.AO+M.AO:=by rw[Int.add_mul];omega
 omega
theorem C8{j:Int}(hM:C.M.Ok):Cv C 176 [AX C.m,.int .i64 j] l Cj (.tuple #[.int .i64 (C.M.KN j),.int .i64 (C.M.Ll j)]) l Cj:=by
 refine Ci 36 Tryz.func176 Z Aa fun w0 D0=>CW 7 [] Z ?_
 by_cases hq:j<0
 ·skip;refine AZ 2 [] Z<|Du (c:=true) Z (decide_eq_true hq)<|AP 5 [] Z<|Hz Z<|AY 7 [] Z<|T.YJ Z fun W D h=>?_
  rw[show C.M.KN j=_ from if_pos (.inl hq),show C.M.Ll j=_ from if_pos (.inl hq)];exact⟨D,⟨rfl,rfl,h⟩,fun _ hk=>hk⟩
 skip;refine AZ 2 [] Z<|Du (c:=false) Z (decide_eq_false hq)<|AP 3 [] Z<|CB Z gN (YV) Aa<|Du Z Z<|Hz Z<|X.nil<|T.cond Z ?_ ?_
 ·intro hb1;have hq2:j≥C.M.parts:=of_decide_eq_true hb1;refine CW 5 [] Z<|T.YJ Z fun W D h=>?_
  rw[show C.M.KN j=_ from if_pos (.inr hq2),show C.M.Ll j=_ from if_pos (.inr hq2)];exact⟨D,⟨rfl,rfl,h⟩,fun _ hk=>hk⟩
 intro hb1;have hq2: ¬j≥C.M.parts:=of_decide_eq_false hb1;have hj:=ON hM (by omega:0≤j) (by omega:j<C.M.parts);refine CW 2 [] Z<|Ey 24 0 0 (by kernel_rfl)<|AP 5 [] Z<|eI Z Z Z o3 Z<|BU (c:=j*C.M.AO) Z (EG hj.1)<|BU (c:=j*C.M.AO+1) Z (EG hj.2.1)<|NC Z<|BU (c:=j+1) Z (EG hj.2.2.1)<|AP 4 [] Z<|eI Z Z Z o3 Z<|BU (c:=(j+1)*C.M.AO) Z (EG hj.2.2.2)<|AP 4 [] Z<|eI Z Z Z o3 Z<|UG Z Z Z<|AY 3 [] Z<|T.YJ Z fun W D h=>?_
 rw[show C.M.KN j=_ from if_neg (fun h=>h.elim hq hq2),show C.M.Ll j=_ from if_neg (fun h=>h.elim hq hq2)];exact⟨D,⟨rfl,rfl,h⟩,fun _ hk=>hk⟩
theorem OP{R:BB}(hl:CV R){j:Int}(hM:C.M.Ok):Cv C 176 [AX C.m,.int .i64 j] l R (.tuple #[.int .i64 (C.M.KN j),.int .i64 (C.M.Ll j)]) l R:=Cv.frame hl (C8 hM)
theorem wE{k:Int}:Cv C 49 [.int .i64 k] l Cj (.int .i64 (min (max k 0) 12)) l Cj:=by
 exact Ci 6 Tryz.func49 Z Aa fun w0 D0=>AZ 7 [] Z<|aW Z Z Z<|UG Z Z Z<|AY 2 [] Z<|T.BC Z fun W D h=>⟨D,⟨rfl,rfl,h⟩,fun _ hk=>hk⟩
theorem Jh{k:Int}(h:0≤k∧k≤12):Cv C 49 [.int .i64 k] l Cj (.int .i64 k) l Cj:=by
 have:=wE (C:=C) (l:=l) (k:=k)
 rwa [show min (max k 0) 12=k by omega] at this
theorem uq{v:Int}(hM:C.M.Ok)(hv:v≤9223372036854775807):Cv C 51 [.agg #[.int .i64 C.M.k0,.int .i64 C.M.k1,.int .i64 C.M.k2,.int .i64 C.M.k3,.int .i64 C.M.k4],.int .i64 v] l Cj (.int .i64 (C.M.Ew v)) l Cj:=by
 refine Ci 24 Tryz.func51 Z Aa fun w0 D0=>AZ 2 [1] Z<|F7 Z CE fun b0=>AY 8 [] Z<|T.cond Z ?_ ?_
 ·intro hb0;refine CW 4 [] Z<|T.BC Z fun W D h=>?_
  rw[show C.M.Ew v=_ from if_pos (of_decide_eq_true hb0)];obtain⟨D1,h1,h2⟩:=A8 h;exact⟨D1,⟨rfl,rfl,h1⟩,h2⟩
 intro hb0;have c0: ¬v<1:=of_decide_eq_false hb0;have hk:=hM.kk;refine CW 7 [] Z<|T.block<|T.Q9 20<|CW 8 [] Z<|T.block<|AZ 3 [] Z<|dS Z UW o3 (by decide) Z<|AP 8 [] Z<|CB Z XI (Cv.frame Aa (Jh hM.kk.1)) Aa<|AY 2 [] Z<|T.cond Z ?_ ?_
 ·intro hb1;have c1:v≤C.M.k0:=of_decide_eq_true hb1;refine CW 5 [] Z<|T.J8<|TE.CJ<|TE.KG<|TE.CJ<|TE.BC rfl fun W D h=>?_
  rw[show C.M.Ew v=_ from((if_neg c0).trans (if_pos c1))];obtain⟨D1,h1,h2⟩:=A8 h;exact⟨D1,⟨rfl,rfl,h1⟩,h2⟩
 intro hb1;have c1: ¬v≤C.M.k0:=of_decide_eq_false hb1;refine AZ 4 [] Z<|CB Z XI (Cv.frame Aa (Jh hM.kk.1)) Aa<|BU (c:=v-C.M.k0) Z (EG (by simp only[FC];omega))<|AY 2 [] Z<|T.Bj<|tx 2 nf Z<|BU (c:=1) Z (by decide)<|AY 2 [] Z<|T.EO<|CW 8 [] Z<|T.block<|AZ 3 [] Z<|dS Z UW o3 (by decide) Z<|AP 8 [] Z<|CB Z XI (Cv.frame Aa (Jh hM.kk.2.1)) Aa<|AY 2 [] Z<|T.cond Z ?_ ?_
 ·intro hb2;have c2:v-C.M.k0≤C.M.k1:=of_decide_eq_true hb2;refine CW 5 [] Z<|T.J8<|TE.CJ<|TE.KG<|TE.CJ<|TE.BC rfl fun W D h=>?_
  rw[show C.M.Ew v=_ from((if_neg c0).trans ((if_neg c1).trans (if_pos c2)))];obtain⟨D1,h1,h2⟩:=A8 h;exact⟨D1,⟨rfl,rfl,h1⟩,h2⟩
 intro hb2;have c2: ¬v-C.M.k0≤C.M.k1:=of_decide_eq_false hb2;refine AZ 4 [] Z<|CB Z XI (Cv.frame Aa (Jh hM.kk.2.1)) Aa<|BU (c:=v-C.M.k0-C.M.k1) Z (EG (by simp only[FC];omega))<|AY 2 [] Z<|T.Bj<|tx 2 nf Z<|BU (c:=2) Z (by decide)<|AY 2 [] Z<|T.EO<|CW 8 [] Z<|T.block<|AZ 3 [] Z<|dS Z UW o3 (by decide) Z<|AP 8 [] Z<|CB Z XI (Cv.frame Aa (Jh hM.kk.2.2.1)) Aa<|AY 2 [] Z<|T.cond Z ?_ ?_
 ·intro hb3;have c3:v-C.M.k0-C.M.k1≤C.M.k2:=of_decide_eq_true hb3;refine CW 5 [] Z<|T.J8<|TE.CJ<|TE.KG<|TE.CJ<|TE.BC rfl fun W D h=>?_
  rw[show C.M.Ew v=_ from((if_neg c0).trans ((if_neg c1).trans ((if_neg c2).trans (if_pos c3))))];obtain⟨D1,h1,h2⟩:=A8 h;exact⟨D1,⟨rfl,rfl,h1⟩,h2⟩
 intro hb3;have c3: ¬v-C.M.k0-C.M.k1≤C.M.k2:=of_decide_eq_false hb3;refine AZ 4 [] Z<|CB Z XI (Cv.frame Aa (Jh hM.kk.2.2.1)) Aa<|BU (c:=v-C.M.k0-C.M.k1-C.M.k2) Z (EG (by simp only[FC];omega))<|AY 2 [] Z<|T.Bj<|tx 2 nf Z<|BU (c:=3) Z (by decide)<|AY 2 [] Z<|T.EO<|CW 8 [] Z<|T.block<|AZ 3 [] Z<|dS Z UW o3 (by decide) Z<|AP 8 [] Z<|CB Z XI (Cv.frame Aa (Jh hM.kk.2.2.2.1)) Aa<|AY 2 [] Z<|T.cond Z ?_ ?_
 ·intro hb4;have c4:v-C.M.k0-C.M.k1-C.M.k2≤C.M.k3:=of_decide_eq_true hb4;refine CW 5 [] Z<|T.J8<|TE.CJ<|TE.KG<|TE.CJ<|TE.BC rfl fun W D h=>?_
  rw[show C.M.Ew v=_ from((if_neg c0).trans ((if_neg c1).trans ((if_neg c2).trans ((if_neg c3).trans (if_pos c4)))))];obtain⟨D1,h1,h2⟩:=A8 h;exact⟨D1,⟨rfl,rfl,h1⟩,h2⟩
 intro hb4;have c4: ¬v-C.M.k0-C.M.k1-C.M.k2≤C.M.k3:=of_decide_eq_false hb4;refine AZ 4 [] Z<|CB Z XI (Cv.frame Aa (Jh hM.kk.2.2.2.1)) Aa<|BU (c:=v-C.M.k0-C.M.k1-C.M.k2-C.M.k3) Z (EG (by simp only[FC];omega))<|AY 2 [] Z<|T.Bj<|tx 2 nf Z<|BU (c:=4) Z (by decide)<|AY 2 [] Z<|T.EO<|CW 8 [] Z<|T.block<|AZ 3 [] Z<|dS Z UW o3 (by decide) Z<|AP 8 [] Z<|CB Z XI (Cv.frame Aa (Jh hM.kk.2.2.2.2)) Aa<|AY 2 [] Z<|T.cond Z ?_ ?_
 ·intro hb5;have c5:v-C.M.k0-C.M.k1-C.M.k2-C.M.k3≤C.M.k4:=of_decide_eq_true hb5;refine CW 5 [] Z<|T.J8<|TE.CJ<|TE.KG<|TE.CJ<|TE.BC rfl fun W D h=>?_
  rw[show C.M.Ew v=_ from((if_neg c0).trans ((if_neg c1).trans ((if_neg c2).trans ((if_neg c3).trans ((if_neg c4).trans (if_pos c5))))))];obtain⟨D1,h1,h2⟩:=A8 h;exact⟨D1,⟨rfl,rfl,h1⟩,h2⟩
 intro hb5;have c5: ¬v-C.M.k0-C.M.k1-C.M.k2-C.M.k3≤C.M.k4:=of_decide_eq_false hb5;refine AZ 4 [] Z<|CB Z XI (Cv.frame Aa (Jh hM.kk.2.2.2.2)) Aa<|BU (c:=v-C.M.k0-C.M.k1-C.M.k2-C.M.k3-C.M.k4) Z (EG (by simp only[FC];omega))<|AY 2 [] Z<|T.Bj<|tx 2 nf Z<|BU (c:=5) Z (by decide)<|AY 2 [] Z<|T.EO<|CW 6 [] Z<|T.exit<|TE.O3<|TE.DC<|CW 4 [] Z<|T.BC Z fun W D h=>?_
 rw[show C.M.Ew v=_ from((if_neg c0).trans ((if_neg c1).trans ((if_neg c2).trans ((if_neg c3).trans ((if_neg c4).trans (if_neg c5))))))];obtain⟨D1,h1,h2⟩:=A8 h;exact⟨D1,⟨rfl,rfl,h1⟩,h2⟩
theorem uu{v:Int}(hM:C.M.Ok)(hv:v≤9223372036854775807):Cv C 37 [AX C.m,.int .i64 v] l Cj (.int .i64 (C.M.Ew v)) l Cj:=by
 exact Ci 14 Tryz.func37 Z Aa fun w0 D0=>AZ 18 [] Z<|Wt Z Z Z vc Z Z<|NC Z<|CB Z va (uq hM hv) Aa<|AY 2 [] Z<|T.BC Z fun W D h=>⟨D,⟨rfl,rfl,h⟩,fun _ hk=>hk⟩
theorem UY{R:BB}(hl:CV R){v:Int}(hM:C.M.Ok)(hv:v≤9223372036854775807):Cv C 37 [AX C.m,.int .i64 v] l R (.int .i64 (C.M.Ew v)) l R:=Cv.frame hl (uu hM hv)
def Sc.cs(C:Cx)(x:Sc)(cv av nv:Value):List Value:=
 [AX C.m,.int .i64 x.i,.int .i64 x.v,.int .i64 x.Df,.int .u64 x.Ah,.int .i64 x.pa,.int .i64 x.pb,.int .i64 x.at_,.int .i64 x.w,cv,av,.int .i64 x.Ae.kind,.int .i64 x.Ae.Di,.int .i64 x.Ae.a,.int .i64 x.Ae.b,.int .i64 x.Ae.c,nv]
def o7(C:Cx)(d:Nat)(x:Sc)(cv av nv:Value)(RN:BB):Prop:=match x.next with
 | .nil=>nv= .nilFunc∧RN=Cj
 | .head=>nv=fm 174 d∧RN=Cj
 | .count=>nv=fm 200 d∧RN=Cj
 | .L9=>nv=fm 239 d∧ ∃q,av=AX q∧RN=Mt C q x.add
 | .En=>nv=fm 219 d∧RN=Cj
 | .BR=>nv=fm 237 d∧ ∃q,cv=AX q∧RN=ug C q x.AV
 | .DV=>nv=fm 220 d∧RN=Cj
theorem EX{m:Sc}{cv:Value}(nv:Value)(RN:BB)(h:o7 C d m cv av nv RN):CV RN:=by
 unfold o7 at h;split at h<;>first
  |(obtain⟨-,rfl⟩:=h;exact Aa)
  |(obtain⟨-,q,-,rfl⟩:=h;first|exact MQ|exact Em)
theorem dY{m:Sc}{cv:Value}(h:o7 C d m cv av nv RN):VW nv (decide (m.next= .nil)):=by
 unfold o7 at h;split at h<;>rename_i hn<;>rw[hn]<;>obtain⟨rfl,-⟩:=h<;>first|exact .inl ⟨rfl,rfl⟩|exact .inr ⟨_,_,_,rfl,rfl⟩
structure Sc.Ok (M:Bz) (m:Sc):Prop where
 i:0≤m.i∧m.i<M.Ai
 v:EW m.v
 Df:EW m.Df
 Ah:Bf m.Ah
 pa:0≤m.pa∧m.pa≤1000
 pb:0≤m.pb∧m.pb≤1000
 at_:0≤m.at_∧m.at_≤1000
 w:EW m.w
 AV:m.AV.Ok
 add:m.add.Ok
 sl:m.next= .En→m.at_<m.pb
def gR(a b:Int):Nat:=bif decide (a<b) then 219 else 220
theorem Rh{x:Sc}{cv:Value}(h:x.next=x.A7):o7 C d x cv av (fm (gR x.at_ x.pb) d) Cj:=by
 unfold o7;unfold Sc.A7 at h;unfold gR;by_cases hc:x.at_<x.pb
 ·rw[if_pos hc] at h;rw[h];simp[hc]
 rw[if_neg hc] at h;rw[h];simp[hc]
def bI(C:Cx)(d:Nat)(m:Sc):BB:=fun D w=> ∃cv:Value,∃av:Value,uF 228 d (m.cs C cv av) (o7 C d m cv av) D w
theorem G8{m:Sc}:CV (bI C d m):=AQ fun _=>AQ fun _=>Bd EX
def TC(C:Cx)(d:Nat)(m:Sc)(l:Dk)(m':Sc)(l':Dk):Prop:= ∀(cv:Value) (av:Value) nv RN,o7 C d m cv av nv RN→ ∃KZ fs cs,nv= .func (.func KZ) (List.toArray fs) (List.toArray cs)∧Cm KZ=true∧Cv C KZ (fs++[AX C.s]++cs) l (Az [⟨d,228,m.cs C cv av nv⟩] RN) (.tuple #[]) l' (bI C d m')
theorem gS:Pm 224 0 0=true:=by kernel_rfl
theorem gT:Pm 228 0 0=true:=by kernel_rfl
theorem iA:Pm 228 3 3=true:=by kernel_rfl
theorem WD:Pm 24 4 8=true:=by kernel_rfl
theorem vd:Cm 174=true:=by kernel_rfl
theorem iB:Cm 183=true:=by kernel_rfl
theorem zP:Cm 198=true:=by kernel_rfl
theorem OR:Cm 199=true:=by kernel_rfl
theorem vf:Cm 200=true:=by kernel_rfl
theorem zR:Cm 203=true:=by kernel_rfl
theorem vh:Cm 219=true:=by kernel_rfl
theorem vi:Cm 220=true:=by kernel_rfl
theorem A':Cm 222=true:=by kernel_rfl
theorem iN:Cm 226=true:=by kernel_rfl
theorem iS:Cm 227=true:=by kernel_rfl
theorem vj:Cm 237=true:=by kernel_rfl
theorem vm:Cm 238=true:=by kernel_rfl
theorem vn:Cm 239=true:=by kernel_rfl
theorem vo:Cm 251=true:=by kernel_rfl
theorem g30:Cm 30=true:=by kernel_rfl
theorem iX:Cm 53=true:=by kernel_rfl
theorem kx:Cm 56=true:=by kernel_rfl
theorem vp:Jv 228 [(0,1),(1,1),(2,1),(3,1),(4,1),(5,2),(7,1),(8,1),(9,1),(10,1),(11,5),(16,1)]=true:=by kernel_rfl
theorem LW:Jv 33 [(0,1),(1,1),(2,1),(3,1),(4,1)]=true:=by kernel_rfl
theorem Xq:Bq 33 5=true:=by kernel_rfl
theorem vq:one 225=true:=by kernel_rfl
theorem vt:one 226=true:=by kernel_rfl
theorem WF:aX 24 4 3=true:=by kernel_rfl
theorem vu:LU 228=some [.pointer none,.int .i64 0,.int .i64 0,.int .i64 0,.int .u64 0,.int .i64 0,.int .i64 0,.int .i64 0,.int .i64 0,.pointer none,.pointer none,.int .i64 0,.int .i64 0,.int .i64 0,.int .i64 0,.int .i64 0,.nilFunc]:=by kernel_rfl
theorem Ih:LU 33=some [.int .i64 0,.int .i64 0,.int .i64 0,.int .i64 0,.int .i64 0]:=by kernel_rfl
theorem o8(hM:M.Ok)(hr: ∀a,Bf (ld l a))(a v:Int): -9223372036854775808≤min (ld l a) (M.CU v)∧min (ld l a) (M.CU v)≤9223372036854775807:=by
 have h1:=Fg hM v;have h2:=(hr a).1;omega
theorem Da(hM:M.Ok)(v:Int):0≤M.CU v∧M.CU v≤4294967295:=by
 have h1:=Fg hM v;omega
theorem uw(hM:M.Ok):0≤M.nodes∧M.nodes≤4294967295:=by
 have h1:=hM.nodes;omega
theorem Db{x:Int}(h:0≤x∧x≤1000):EW x:=by unfold EW;omega
theorem WK{x:Int}(h:0≤x∧x≤1000): -9223372036854775808≤x+1∧x+1≤9223372036854775807:=by omega
theorem JJ(hM:M.Ok){x:Int}(h:1≤x)(h':x≤M.nodes): -9223372036854775808≤x∧x≤9223372036854775807:=by
 have:=hM.nodes;omega
theorem OS{m:Sc}(he:m.Ae=BH)(hn:m.next= .nil):Cv C 291 [AX d,AX C.s] l (bI C d m) (.bool true) l (bI C d {m with Ae:=BH}):=by
 have em:m.Ae=BH→({m with Ae:=BH}:Sc)=m:=fun h=>by cases m;cases h;rfl
 have em:=em he;refine Ci 33 Tryz.func291 Z G8 fun w0 D0=>T.ex (fun _=>AQ fun _=>Bd EX) ?_
 intro cv;refine T.ex (fun _=>Bd EX) ?_;intro av;refine T.MX (H:=[]) EX ?_;intro nv RN hN hl;have hi:=dY hN;rw[hn] at hi;refine AZ 19 [] Z<|Fp Z LW Ih Z<|Le Z o6 (Ow he)<|AP 10 [] Z<|Le Z (IL hi) (Jl hi CG)<|AY 6 [] Z<|T.BC Z fun W D h=>?_
 rw[em];exact⟨D,⟨rfl,rfl,cv,av,nv,RN,hN,h⟩,fun _ hk=>hk⟩
theorem Dg{m m':Sc}(he:m.Ae=BH)(hrun:TC C d {m with Ae:=BH} l m' l'):Cv C 291 [AX d,AX C.s] l (bI C d m) (.bool (decide (m'.next= .nil))) l' (bI C d m'):=by
 have em:m.Ae=BH→({m with Ae:=BH}:Sc)=m:=fun h=>by cases m;cases h;rfl
 rw[em he] at hrun;refine Ci 33 Tryz.func291 Z G8 fun w0 D0=>T.ex (fun _=>AQ fun _=>Bd EX) ?_
 intro cv;refine T.ex (fun _=>Bd EX) ?_;intro av;refine T.MX (H:=[]) EX ?_;intro nv RN hN hl;obtain⟨KZ,fs,cs,rfl,hg,hc⟩:=hrun cv av nv RN hN;refine AZ 19 [] Z<|Fp Z LW Ih Z<|Le Z o6 (Ow he)<|AP 10 [] Z<|zF Z Z Z Z CG<|AP 10 [32] Z<|RV (H1:=[]) (H2:=[_]) Z hg Z hc G8 Aw<|AY 2 [] Z<|T.ex (fun _=>AQ fun _=>Bd EX) ?_;intro cv';refine T.ex (fun _=>Bd EX) ?_;intro PQ;refine T.MX EX ?_;intro Lc Y0 hN' hl';exact AZ 5 [] Z<|Le Z (IL (dY hN')) (Jl (dY hN') CG)<|AY 2 [] Z<|T.BC Z fun W D h=>⟨D,⟨rfl,rfl,cv',PQ,Lc,Y0,hN',h⟩,fun _ hk=>hk⟩
theorem O2{m:Sc}(he:m.Ae≠BH)(hn:m.next= .nil):Cv C 291 [AX d,AX C.s] l (bI C d m) (.bool true) l (bI C d {m with Ae:=BH}):=by
 have em:m.Ae=BH→({m with Ae:=BH}:Sc)=m:=fun h=>by cases m;cases h;rfl
 refine Ci 33 Tryz.func291 Z G8 fun w0 D0=>T.ex (fun _=>AQ fun _=>Bd EX) ?_
 intro cv;refine T.ex (fun _=>Bd EX) ?_;intro av;refine T.MX (H:=[]) EX ?_;intro nv RN hN hl;have hi:=dY hN;rw[hn] at hi;exact AZ 19 [] Z<|Fp Z LW Ih Z<|Le Z o6 (On he)<|AP 4 [16] Z<|Fp Z LW Ih Z<|AP 11 [] Z<|Le Z (IL hi) (Jl hi CG)<|AY 6 [] Z<|T.BC Z fun W D h=>⟨D,⟨rfl,rfl,cv,av,nv,RN,hN,h⟩,fun _ hk=>hk⟩
theorem Dm{m m':Sc}(he:m.Ae≠BH)(hrun:TC C d {m with Ae:=BH} l m' l'):Cv C 291 [AX d,AX C.s] l (bI C d m) (.bool (decide (m'.next= .nil))) l' (bI C d m'):=by
 have em:m.Ae=BH→({m with Ae:=BH}:Sc)=m:=fun h=>by cases m;cases h;rfl
 refine Ci 33 Tryz.func291 Z G8 fun w0 D0=>T.ex (fun _=>AQ fun _=>Bd EX) ?_
 intro cv;refine T.ex (fun _=>Bd EX) ?_;intro av;refine T.MX (H:=[]) EX ?_;intro nv RN hN hl;obtain⟨KZ,fs,cs,rfl,hg,hc⟩:=hrun cv av nv RN hN;refine AZ 19 [] Z<|Fp Z LW Ih Z<|Le Z o6 (On he)<|AP 4 [16] Z<|Fp Z LW Ih Z<|AP 11 [] Z<|zF Z Z Z Z CG<|AP 10 [32] Z<|RV (H1:=[]) (H2:=[_]) Z hg Z hc G8 Aw<|AY 2 [] Z<|T.ex (fun _=>AQ fun _=>Bd EX) ?_;intro cv';refine T.ex (fun _=>Bd EX) ?_;intro PQ;refine T.MX EX ?_;intro Lc Y0 hN' hl';exact AZ 5 [] Z<|Le Z (IL (dY hN')) (Jl (dY hN') CG)<|AY 2 [] Z<|T.BC Z fun W D h=>⟨D,⟨rfl,rfl,cv',PQ,Lc,Y0,hN',h⟩,fun _ hk=>hk⟩
theorem i5{m:Sc}(hn:m.next= .nil):Cv C 291 [AX d,AX C.s] l (bI C d m) (.bool true) l (bI C d {m with Ae:=BH}):=by
 by_cases he:m.Ae=BH
 ·exact OS he hn
 exact O2 he hn
theorem Pa{m m':Sc}(hrun:TC C d {m with Ae:=BH} l m' l'):Cv C 291 [AX d,AX C.s] l (bI C d m) (.bool (decide (m'.next= .nil))) l' (bI C d m'):=by
 by_cases he:m.Ae=BH
 ·exact Dg he hrun
 exact Dm he hrun
theorem Do{m:Sc}:Cv C 290 [AX d] l (bI C d m) (.agg m.Ae.cells.toArray) l (bI C d m):=by
 refine Ci 10 Tryz.func290 Z G8 fun w0 D0=>T.ex (fun _=>AQ fun _=>Bd EX) ?_
 intro cv;refine T.ex (fun _=>Bd EX) ?_;intro av;refine T.MX (H:=[]) EX ?_;intro nv RN hN hl;refine AZ 2 [1] Z<|Hg Z Ih CE fun b0=>AY 17 [0,16,1] Z<|T.Io Z Z Xq .z Z fun W D h=>?_
 obtain⟨D1,h1,h2⟩:=A8 h;exact⟨D1,⟨rfl,rfl,cv,av,nv,RN,hN,h1⟩,h2⟩
theorem UZ{R:BB}(hl:CV R){a0 a1 a2 a3 a4 a5 a8 a9 a10 a11 a12 Zb Zc aQ a16:Value}{pb at_:Int}:Cv C 199 [AX d] l (Az (⟨d,228,[a0,a1,a2,a3,a4,a5,.int .i64 pb,.int .i64 at_,a8,a9,a10,a11,a12,Zb,Zc,aQ,a16]⟩::Hx) R) (fm (gR at_ pb) d) l (Az (⟨d,228,[a0,a1,a2,a3,a4,a5,.int .i64 pb,.int .i64 at_,a8,a9,a10,a11,a12,Zb,Zc,aQ,a16]⟩::Hx) R):=by
 refine Ci 17 Tryz.func199 Z (Ac hl _) fun w0 D0=>VY hl<|CW 6 [] Z<|Ey 10 0 0 (by kernel_rfl)<|AY 11 [] Z<|T.cond Z ?_ ?_
 ·intro hb0;refine CW 6 [] Z<|T.BC Z fun W D h=>?_
  rw[show gR at_ pb=219 by unfold gR;rw[show decide (at_<pb)=true from hb0];rfl];exact⟨D,⟨rfl,rfl,h⟩,fun _ hk=>hk⟩
 intro hb0;refine CW 7 [] Z<|T.BC Z fun W D h=>?_
 rw[show gR at_ pb=220 by unfold gR;rw[show decide (at_<pb)=false from hb0];rfl];exact⟨D,⟨rfl,rfl,h⟩,fun _ hk=>hk⟩
theorem dZ{R:BB}(hl:CV R){x:Sc}{cv:Value}{v f:Int}(hM:C.M.Ok)(hi:0≤x.i∧x.i<C.M.Ai)(hv:EW v)(hf:EW f):Cv C 222 [AX d,.int .i64 v,.int .i64 f] l (Az [⟨d,228,x.cs C cv av nv⟩] R) (.tuple #[]) l (bI C d (x.iE C.M v f)):=by
 exact Ci 28 Tryz.func222 Z (Ac hl _) fun w0 D0=>Gu hl<|T.seq<|Ey 18 1 147456 (by kernel_rfl)<|AP 10 [] Z<|Ic Z FP Ej (PE hv)<|NC Z<|Ic Z FP Ej (PE hf)<|CB Z iX (UR hv hf) hl<|UF Z vm (C5 (wC hM hi)) (fun _=>MQ) (fun _=>(Bv Z Aw)) fun q0=>AP 2 [] Z<|KQ Z vt Z .z Z .z (Aj (by kernel_rfl) Aw)<|AY 9 [32] Z<|T.BJ Z fun W D h=>⟨D,⟨rfl,rfl,_,_,_,_,⟨rfl,_,rfl,rfl⟩,h⟩,fun _ hk=>hk⟩
theorem iZ{m:Sc}(hM:C.M.Ok)(hm:m.Ok C.M)(hr: ∀a,Bf (ld l a))(hn:m.next= .head):TC C d m l (m.Au C.M l).1 (m.Au C.M l).2:=by
 obtain⟨i,v,Df,Ah,pa,pb,at_,w,AV,add,Ae,nx⟩:=m;obtain rfl:nx= .head:=hn;rintro cv av nv RN ⟨rfl,rfl⟩;refine⟨174,[AX d],[],rfl,vd,?_⟩;refine Ci 65 Tryz.func174 Z (Ac Aa _) fun w0 D0=>Gu Aa<|T.seq<|Ey 23 0 0 (by kernel_rfl)<|AP 9 [] Z<|CB Z kx (PH) Aa<|CB Z UT (EH Aa) Aa<|AP 8 [] Z<|CB Z C6 (Kw) Aa<|Ic Z FV Ej (Oh (Da hM _))<|UG Z Z Z<|AY 3 [] Z<|Ey 19 65535 196608 (by kernel_rfl)<|NC Z<|Ic Z DY Eu (EG (o8 hM hr _ _))<|AP 8 [] Z<|CB Z V3 (GN Aa) Aa<|Bp Z Z Z WD WF o3 Z<|CB Z zP (TA Aa) Aa<|AP 3 [] Z<|Hg Z gP (fun _=>(Nt Z Z Z (Nt Z Z Z (Bv Z (wA Z Z Z zP (TA Aa) Aa (ta Z Z WD WF o3 Z (wA Z Z Z V3 (GN Aa) Aa (BP Z o39 (.s .z) Z (Ed Z gT (Ia Z (Bv Z (BP Z o3 (.s .z) Z (Ed Z iA (Ia Z (Bv Z (v9 Z Z DY Eu (EG (o8 hM hr _ _)) (Bv Z Aw))))))))))))))))) fun b0=>?_
 refine H9 Z gO Z Z .z (Nat.le_of_ble_eq_true Z) .z (Nt Z Z Z (Aj (by kernel_rfl) (Aj (by kernel_rfl) (Aj (by kernel_rfl) (Aj (by kernel_rfl) (Aj (by kernel_rfl) (Aj (by kernel_rfl) (Aj (by kernel_rfl) (Aj (by kernel_rfl) (Aj (by kernel_rfl) (Aj (by kernel_rfl) (Aj (by kernel_rfl) (Aj (by kernel_rfl) (Aj (by kernel_rfl) (Aj (by kernel_rfl) (Aj (by kernel_rfl) Aw))))))))))))))))<|AY 3 [] Z<|Ey 11 26 1152 (by kernel_rfl)<|AP 7 [] Z<|H9 Z gO Z Z (.s .z) (Nat.le_of_ble_eq_true Z) (.s .z) (BP Z o3 .z Z (Ed Z gS (Bv Z Aw)))<|AP 2 [] Z<|KQ Z o3 Z (.s .z) Z (.s .z) (Aj (by kernel_rfl) (Aj (by kernel_rfl) (Aj (by kernel_rfl) Aw)))<|AP 5 [32] Z<|OT (H1:=[_]) (H2:=_::_) Z OR Z (UZ Aa) Aa<|AY 8 [1] Z<|T.cond Z ?_ ?_
 ·intro hb0;refine CW 8 [32,1] Z<|T.BJ Z fun W D h=>?_
  rw[show(⟨i,v,Df,Ah,pa,pb,at_,w,AV,add,Ae,.head⟩:Sc).Au C.M l=_ from if_pos (of_decide_eq_true hb0)];obtain⟨D1,h1,h2⟩:=A8 h;exact⟨D1,⟨rfl,rfl,_,_,_,_,⟨rfl,rfl⟩,h1⟩,h2⟩
 intro hb0;refine T.skip<|T.BJ Z fun W D h=>?_
 rw[show(⟨i,v,Df,Ah,pa,pb,at_,w,AV,add,Ae,.head⟩:Sc).Au C.M l=_ from if_neg (of_decide_eq_false hb0)];obtain⟨D1,h1,h2⟩:=A8 h;exact⟨D1,⟨rfl,rfl,_,_,_,_,Rh rfl,h1⟩,h2⟩
theorem Zd{m:Sc}(hM:C.M.Ok)(hm:m.Ok C.M)(hr: ∀a,Bf (ld l a))(hn:m.next= .count):TC C d m l (m.Au C.M l).1 (m.Au C.M l).2:=by
 obtain⟨i,v,Df,Ah,pa,pb,at_,w,AV,add,Ae,nx⟩:=m;obtain rfl:nx= .count:=hn;rintro cv av nv RN ⟨rfl,rfl⟩;refine⟨200,[AX d],[],rfl,vf,?_⟩;exact Ci 35 Tryz.func200 Z (Ac Aa _) fun w0 D0=>Gu Aa<|AZ 7 [64] Z<|CB Z CN (UN) Aa<|Ls Z CR (YS Aa) Aa Aw<|AY 2 [] Z<|Ey 14 0 8192 (by kernel_rfl)<|AP 10 [] Z<|Fp Z LW Ih Z<|AY 4 [] Z<|Ey 11 0 1024 (by kernel_rfl)<|AP 10 [] Z<|RV (H1:=[]) (H2:=[_]) Z A' Z (dZ Aa (x:=⟨i,v,Df,Ah,pa,pb,at_,w,AV,add,⟨2,0,v,pb,0⟩,.count⟩) hM hm.i hm.v (Db hm.pb)) G8 Aw<|X.nil<|T.BJ Z fun W D h=>⟨D,⟨rfl,rfl,h⟩,fun _ hk=>hk⟩
theorem jA{m:Sc}(hM:C.M.Ok)(hm:m.Ok C.M)(hr: ∀a,Bf (ld l a))(hn:m.next= .L9):TC C d m l (m.Au C.M l).1 (m.Au C.M l).2:=by
 obtain⟨i,v,Df,Ah,pa,pb,at_,w,AV,add,Ae,nx⟩:=m;obtain rfl:nx= .L9:=hn;rintro cv av nv RN ⟨rfl,q,rfl,rfl⟩;refine⟨239,[AX d],[],rfl,vn,?_⟩;refine Ci 15 Tryz.func239 Z (Ac MQ _) fun w0 D0=>Gu MQ<|AZ 7 [32] Z<|Ls Z vo (uo hm.add hr) MQ Aw<|X.nil<|T.cond Z ?_ ?_
 ·intro hb0;refine AZ 3 [32] Z<|OT (H1:=[]) (H2:=_::_) Z OR Z (UZ MQ) MQ<|AY 4 [] Z<|T.BJ Z fun W D h=>?_
  rw[show(⟨i,v,Df,Ah,pa,pb,at_,w,AV,add,Ae,.L9⟩:Sc).Au C.M l=_ from if_pos (of_decide_eq_true hb0)];obtain⟨D1,h1,h2⟩:=Eo h;exact⟨D1,⟨rfl,rfl,_,_,_,_,Rh rfl,h1⟩,h2⟩
 intro hb0;refine T.skip<|T.BJ Z fun W D h=>?_
 rw[show(⟨i,v,Df,Ah,pa,pb,at_,w,AV,add,Ae,.L9⟩:Sc).Au C.M l=_ from if_neg (of_decide_eq_false hb0)];exact⟨D,⟨rfl,rfl,_,_,_,_,⟨rfl,_,rfl,rfl⟩,h⟩,fun _ hk=>hk⟩
theorem jB{m:Sc}(hM:C.M.Ok)(hm:m.Ok C.M)(hr: ∀a,Bf (ld l a))(hn:m.next= .En):TC C d m l (m.Au C.M l).1 (m.Au C.M l).2:=by
 obtain⟨i,v,Df,Ah,pa,pb,at_,w,AV,add,Ae,nx⟩:=m;obtain rfl:nx= .En:=hn;rintro cv av nv RN ⟨rfl,rfl⟩;refine⟨219,[AX d],[],rfl,vh,?_⟩;refine Ci 82 Tryz.func219 Z (Ac Aa _) fun w0 D0=>Gu Aa<|T.seq<|Ey 16 0 0 (by kernel_rfl)<|AP 13 [] Z<|CB Z iB (iY Aa hM) Aa<|CB Z UT (EH Aa) Aa<|AY 3 [] Z<|Ey 13 0 4096 (by kernel_rfl)<|AP 9 [] Z<|Fp Z LW Ih Z<|AP 10 [0,128] Z<|BU (c:=at_+1) Z (EG (WK hm.at_))<|AP 8 [0,32] Z<|OT (H1:=[]) (H2:=_::_) Z OR Z (UZ Aa) Aa<|AY 5 [] Z ?_
 by_cases hq:1≤ld l (C.M.H8 v at_)
 ·skip;refine AZ 2 [] Z<|Du (c:=true) Z (decide_eq_true hq)<|AP 6 [] Z<|CB Z g30 (PG) Aa<|Ic Z FV Ej (Oh (uw hM))<|Du Z Z<|Hz Z<|X.nil<|T.cond Z ?_ ?_
  ·intro hb1;refine AZ 4 [32] Z<|Ic Z DY Eu (EG (JJ hM hq (of_decide_eq_true hb1)))<|AY 5 [] Z<|Ey 17 1 73728 (by kernel_rfl)<|AP 13 [] Z<|UF Z zR (oW) (fun _=>Em) (fun _=>(Bv Z Aw)) fun q0=>AP 2 [] Z<|KQ Z vq Z .z Z .z (Aj (by kernel_rfl) Aw)<|AY 9 [32] Z<|T.BJ Z fun W D h=>?_
   rw[show(⟨i,v,Df,Ah,pa,pb,at_,w,AV,add,Ae,.En⟩:Sc).Au C.M l=_ from if_pos ⟨hq,of_decide_eq_true hb1⟩];exact⟨D,⟨rfl,rfl,_,_,_,_,⟨rfl,_,rfl,rfl⟩,h⟩,fun _ hk=>hk⟩
  intro hb1;refine T.skip<|T.BJ Z fun W D h=>?_
  rw[show(⟨i,v,Df,Ah,pa,pb,at_,w,AV,add,Ae,.En⟩:Sc).Au C.M l=_ from if_neg (fun h=>of_decide_eq_false hb1 h.2)];exact⟨D,⟨rfl,rfl,_,_,_,_,Rh rfl,h⟩,fun _ hk=>hk⟩
 skip;refine AZ 2 [] Z<|Du (c:=false) Z (decide_eq_false hq)<|AP 9 [] Z<|Hz Z<|AY 3 [] Z<|T.BJ Z fun W D h=>?_
 rw[show(⟨i,v,Df,Ah,pa,pb,at_,w,AV,add,Ae,.En⟩:Sc).Au C.M l=_ from if_neg (fun h=>hq h.1)];exact⟨D,⟨rfl,rfl,_,_,_,_,Rh rfl,h⟩,fun _ hk=>hk⟩
theorem Wh{m:Sc}(hM:C.M.Ok)(hm:m.Ok C.M)(hr: ∀a,Bf (ld l a))(hn:m.next= .BR):TC C d m l (m.Au C.M l).1 (m.Au C.M l).2:=by
 obtain⟨i,v,Df,Ah,pa,pb,at_,w,AV,add,Ae,nx⟩:=m;obtain rfl:nx= .BR:=hn;rintro cv av nv RN ⟨rfl,q,rfl,rfl⟩;refine⟨237,[AX d],[],rfl,vj,?_⟩;refine Ci 35 Tryz.func237 Z (Ac Em _) fun w0 D0=>Gu Em<|AZ 8 [32] Z<|Ls Z iN (We hm.AV) Em Aw<|QO Z Z Z<|X.nil<|T.cond Z ?_ ?_
 ·intro hb0;refine T.J6 Z fun W D h=>?_
  have hn: ¬(AV.step C.M l).1.next= .nil:=by simpa using hb0
  rw[show(⟨i,v,Df,Ah,pa,pb,at_,w,AV,add,Ae,.BR⟩:Sc).Au C.M l=_ from if_neg hn];exact⟨D,⟨rfl,rfl,_,_,_,_,⟨rfl,_,rfl,rfl⟩,h⟩,fun _ hk=>hk⟩
 intro hb0;have hn0:(AV.step C.M l).1.next= .nil:=by simpa using hb0
 refine AZ 5 [32] Z<|OT (H1:=[]) (H2:=_::_) Z OR Z (UZ Em) Em<|AP 10 [] Z<|CB Z iS (vZ) Em<|X.nil<|T.cond Z ?_ ?_
 ·intro hb1;refine AZ 7 [256] Z<|Fp Z LW Ih Z<|AP 10 [0,32] Z<|RV (H1:=[]) (H2:=[_]) Z A' Z (dZ Em (x:=⟨i,v,Df,Ah,pa,pb,at_,w,(AV.step C.M l).1,add,⟨1,0,w,0,0⟩,.BR⟩) hM hm.i hm.w (by unfold EW;omega)) G8 Aw<|X.nil<|T.BJ Z fun W D h=>?_
  rw[show(⟨i,v,Df,Ah,pa,pb,at_,w,AV,add,Ae,.BR⟩:Sc).Au C.M l=_ from(if_pos hn0).trans (if_pos hb1)];exact⟨D,⟨rfl,rfl,h⟩,fun _ hk=>hk⟩
 intro hb1;refine T.skip<|T.BJ Z fun W D h=>?_
 rw[show(⟨i,v,Df,Ah,pa,pb,at_,w,AV,add,Ae,.BR⟩:Sc).Au C.M l=_ from(if_pos hn0).trans (if_neg (by rw[hb1];exact Bool.false_ne_true))];obtain⟨D1,h1,h2⟩:=Eo h;exact⟨D1,⟨rfl,rfl,_,_,_,_,Rh rfl,h1⟩,h2⟩
theorem Pb{m:Sc}(hM:C.M.Ok)(hm:m.Ok C.M)(hr: ∀a,Bf (ld l a))(hn:m.next= .DV):TC C d m l (m.Au C.M l).1 (m.Au C.M l).2:=by
 obtain⟨i,v,Df,Ah,pa,pb,at_,w,AV,add,Ae,nx⟩:=m;obtain rfl:nx= .DV:=hn;rintro cv av nv RN ⟨rfl,rfl⟩;refine⟨220,[AX d],[],rfl,vi,?_⟩;exact Ci 26 Tryz.func220 Z (Ac Aa _) fun w0 D0=>Gu Aa<|AZ 7 [64] Z<|CB Z CN (UN) Aa<|Ls Z CR (YS Aa) Aa Aw<|AY 2 [] Z<|Ey 13 0 4096 (by kernel_rfl)<|AP 9 [] Z<|Fp Z LW Ih Z<|AY 10 [0,8] Z<|T.BJ Z fun W D h=>⟨D,⟨rfl,rfl,_,_,_,_,⟨rfl,rfl⟩,h⟩,fun _ hk=>hk⟩
theorem i6{m:Sc}(hM:C.M.Ok)(hm:m.Ok C.M)(hr: ∀a,Bf (ld l a))(hn:m.next≠ .nil):TC C d m l (m.Au C.M l).1 (m.Au C.M l).2:=by
 cases h:m.next with
 |nil=>exact(hn h).elim
 |head=>exact iZ hM hm hr h
 |count=>exact Zd hM hm hr h
 |L9=>exact jA hM hm hr h
 |En=>exact jB hM hm hr h
 |BR=>exact Wh hM hm hr h
 |DV=>exact Pb hM hm hr h
theorem Sc.G9{m:Sc}(hm:m.Ok M):({m with Ae:=BH}:Sc).Ok M:=⟨hm.i,hm.v,hm.Df,hm.Ah,hm.pa,hm.pb,hm.at_,hm.w,hm.AV,hm.add,hm.sl⟩
theorem uy{m:Sc}(hM:C.M.Ok)(hm:m.Ok C.M)(hr: ∀a,Bf (ld l a)):Cv C 291 [AX d,AX C.s] l (bI C d m) (.bool (decide ((m.step C.M l).1.next= .nil))) (m.step C.M l).2 (bI C d (m.step C.M l).1):=by
 by_cases hn:m.next= .nil
 ·have e:m.step C.M l=({m with Ae:=BH},l):=by unfold Sc.step Sc.Au;rw[show({m with Ae:=BH}:Sc).next= .nil from hn]
  rw[e,show decide (({m with Ae:=BH}:Sc).next= .nil)=true from decide_eq_true hn];exact i5 hn
 exact Pa (i6 hM (Sc.G9 hm) hr hn)
theorem Cl.Ha{v c:Int}(h:Bf c):(Cl.new v c).Ok:=⟨h⟩
theorem jC(hM:M.Ok){i:Int}(h:0≤i∧i<M.Ai):(0≤(M.CS i).entry∧(M.CS i).entry≤200000)∧0≤(M.CS i).BM∧(M.CS i).BM≤100:=by
 have h1:=hM.Iu;have h2:=hM.BK;have h3:=hM.Ai;have h4:0≤i*(2+M.BK):=Int.mul_nonneg h.1 (by omega);have h5:i*(2+M.BK)≤4*10:=Int.mul_le_mul (by omega) (by omega) (by omega) (by omega);refine⟨?_,by show 0≤M.BK;omega,by show M.BK≤100;omega⟩;show 0≤M.IJ i 0∧M.IJ i 0≤200000;unfold Bz.IJ Bz.Ja;rw[if_neg (by omega)];split<;>omega
theorem Dq.jD(hM:M.Ok){i t:Int}(h:0≤i∧i<M.Ai)(ht:Bf t):(Dq.push (M.CS i) t).Ok:=by
 have z:Bf 0:=by unfold Bf;omega
 have h1:=jC hM h;exact⟨h1.1,h1.2,z,z,ht⟩
theorem Dq.i7(hM:M.Ok){i:Int}(h:0≤i∧i<M.Ai):(Dq.Kq (M.CS i)).Ok:=by
 have z:Bf 0:=by unfold Bf;omega
 have h1:=jC hM h;exact⟨h1.1,h1.2,z,z,z⟩
theorem Dq.Dr(hM:M.Ok){i:Int}(h:0≤i∧i<M.Ai):(Dq.NT (M.CS i)).Ok:=by
 have z:Bf 0:=by unfold Bf;omega
 have h1:=jC hM h;exact⟨h1.1,h1.2,z,z,z⟩
theorem Ad.Ha(hM:M.Ok){i t:Int}(h:0≤i∧i<M.Ai)(ht:Bf t):(Ad.new M i t).Ok:=⟨ht,Dq.jD hM h ht,Pk.Su⟩
theorem jE(a b:Int)(h:0≤b∧b≤1000):0≤bound 0 a b∧bound 0 a b≤1000:=by unfold bound;omega
theorem uz(s f ch:Int):(0≤JQ s f∧JQ s f≤1000)∧0≤NF s f ch∧NF s f ch≤1000:=by
 have h1:0≤bound 0 s 1000∧bound 0 s 1000≤1000:=jE _ _ (by omega);exact⟨jE _ _ h1,jE _ _ h1⟩
theorem o9{x:Sc}(h:x.A7= .En):x.at_<x.pb:=by
 unfold Sc.A7 at h;split at h
 ·assumption
 cases h
theorem Sc.Ef(hM:M.Ok){m:Sc}(hm:m.Ok M)(hr: ∀a,Bf (ld l a)):(m.step M l).1.Ok M:=by
 have h1:=Ad.Ef (M:=M) hm.add hr;have h2:=Cl.Ef (M:=M) (l:=l) hm.AV;unfold Sc.step Sc.Au;have iE: ∀(x:Sc) (v f:Int),x.Ok M→EW v→EW f→(x.iE M v f).Ok M:=fun x v f h hv hf=>⟨h.i,h.v,h.Df,h.Ah,h.pa,h.pb,h.at_,h.w,h.AV,Ad.Ha hM h.i (Oz hv hf),fun h=>nomatch h⟩
 split
 ·exact Sc.G9 hm
 ·have:=uz (min (ld l (M.D7 m.v)) (M.CU m.v)) m.Df M.EE;split
  ·exact⟨hm.i,hm.v,hm.Df,hm.Ah,this.1,this.2,this.1,hm.w,hm.AV,hm.add,fun h=>nomatch h⟩
  refine⟨hm.i,hm.v,hm.Df,hm.Ah,this.1,this.2,this.1,hm.w,hm.AV,hm.add,fun h=>?_⟩;simp only at h⊢
  split at h
  ·assumption
  cases h
 ·rename_i hn;have hn':m.next= .count:=hn;exact iE _ _ _ ⟨hm.i,hm.v,hm.Df,hm.Ah,hm.pa,hm.pb,hm.at_,hm.w,hm.AV,hm.add,fun h=>by have h':m.next= .En:=h;rw[hn'] at h';cases h'⟩ hm.v (Db hm.pb)
 ·rename_i hn;have hn':m.next= .L9:=hn;split
  ·exact⟨hm.i,hm.v,hm.Df,hm.Ah,hm.pa,hm.pb,hm.at_,hm.w,hm.AV,h1,fun h=>o9 (x:=m) h⟩
  exact⟨hm.i,hm.v,hm.Df,hm.Ah,hm.pa,hm.pb,hm.at_,hm.w,hm.AV,h1,fun h=>by have h':m.next= .En:=h;rw[hn'] at h';cases h'⟩
 ·rename_i hn;have hlt:=hm.sl hn;have hat:0≤m.at_+1∧m.at_+1≤1000:=by have:=hm.pb;have:=hm.at_;omega
  split
  ·rename_i hw;have hN:=hM.nodes;have hw':EW (ld l (M.H8 m.v m.at_)):=by
    have:=hw.1;have:=hw.2;simp only at*
    unfold EW;omega
   exact⟨hm.i,hm.v,hm.Df,hm.Ah,hm.pa,hm.pb,hat,hw',Cl.Ha hm.Ah,hm.add,fun h=>nomatch h⟩
  refine⟨hm.i,hm.v,hm.Df,hm.Ah,hm.pa,hm.pb,hat,hm.w,hm.AV,hm.add,fun h=>?_⟩;simp only at h⊢
  split at h
  ·assumption
  cases h
 ·rename_i hn;have hn':m.next= .BR:=hn;split
  ·split
   ·exact iE _ _ _ ⟨hm.i,hm.v,hm.Df,hm.Ah,hm.pa,hm.pb,hm.at_,hm.w,h2,hm.add,fun h=>by have h':m.next= .En:=h;rw[hn'] at h';cases h'⟩ hm.w (by unfold EW;omega)
   exact⟨hm.i,hm.v,hm.Df,hm.Ah,hm.pa,hm.pb,hm.at_,hm.w,h2,hm.add,fun h=>o9 (x:=m) h⟩
  exact⟨hm.i,hm.v,hm.Df,hm.Ah,hm.pa,hm.pb,hm.at_,hm.w,h2,hm.add,fun h=>by have h':m.next= .En:=h;rw[hn'] at h';cases h'⟩
 exact⟨hm.i,hm.v,hm.Df,hm.Ah,hm.pa,hm.pb,hm.at_,hm.w,hm.AV,hm.add,fun h=>nomatch h⟩
theorem Sc.D8{m:Sc}(hm:m.Ok M)(hr:Nc l):Nc (m.step M l).2:=by
 have h1:=Ad.D8 (M:=M) hm.add hr;have h2:=Cl.D8 (M:=M) hm.AV hr;unfold Sc.step Sc.Au;split<;>(try split)<;>(try split)<;>first|exact hr|exact hr.XG|exact h1|exact h2
theorem Ds{i t c:Int}(ht:Bf t):Cn C 142 [AX C.m,.int .i64 i,.int .u64 t,.int .u64 c] l Cj l (fun q=>bI C q (.new i t c)):=by
 exact Ci 34 Tryz.func142 Z Aa fun w0 D0=>AZ 7 [] Z<|CB Z Cz (Q4 Aa ht) Aa<|AP 11 [256] Z<|Ic Z DY Gj (KR (TS ht))<|NC Z<|Ic Z DY Gj (KR (KF t))<|NC Z<|Fp Z vp vu Z<|F7 Z CE fun b0=>AP 6 [] Z<|iW Z Z Z Z PK<|AY 15 [32] Z<|T.BC Z fun W D h=>⟨D,⟨_,rfl,rfl,_,_,_,_,⟨rfl,rfl⟩,h⟩,fun _ hk=>hk⟩
theorem Sc.Ha{i t c:Int}(ht:Bf t)(hi:0≤i∧i<M.Ai)(hc:Bf c):(Sc.new i t c).Ok M:=by
 have z:Bf 0:=by unfold Bf;omega
 have z2:EW 0:=by unfold EW;omega
 exact⟨hi,TS ht,KF t,hc,by simp[Sc.new],by simp[Sc.new],by simp[Sc.new],z2,⟨z⟩,⟨z,⟨by simp[Sc.new,Dq.Kq],by simp[Sc.new,Dq.Kq],z,z,z⟩,Pk.Su⟩,fun h=>nomatch h⟩
def Sk.cs(C:Cx)(x:Sk)(qv pv nv:Value):List Value:=
 [AX C.m,.int .i64 x.i,.int .i64 x.FY.BI,.int .i64 x.FY.at_,.int .i64 x.FY.Bq,.int .i64 x.ER,qv,pv,.int .u64 x.BN,.bool x.Ep,nv]
def ve(C:Cx)(d:Nat)(x:Sk)(qv pv nv:Value)(RN:BB):Prop:=match x.next with
 | .nil=>nv= .nilFunc∧RN=Cj
 | .own=>nv=fm 106 d∧ ∃q,qv=AX q∧RN=QP q x.CS
 | .first=>nv=fm 169 d∧RN=Cj
 | .Jr=>nv=fm 171 d∧ ∃q,pv=AX q∧RN=mO C q x.Dx
 | .take=>nv=fm 173 d∧ ∃q,pv=AX q∧RN=mO C q x.Dx
 | .Bq=>nv=fm 194 d∧ ∃q,pv=AX q∧x.Dx.next= .nil∧RN=mO C q x.Dx
 | .NT=>nv=fm 197 d∧ ∃q,qv=AX q∧RN=QP q x.CS
theorem GX{m:Sk}{qv pv:Value}(nv:Value)(RN:BB)(h:ve C d m qv pv nv RN):CV RN:=by
 unfold ve at h;split at h<;>first
  |(obtain⟨-,rfl⟩:=h;exact Aa)
  |(obtain⟨-,q,-,rfl⟩:=h;first|exact EJ|exact CP)
  |(obtain⟨-,q,-,-,rfl⟩:=h;exact CP)
theorem DA{m:Sk}{qv pv:Value}(h:ve C d m qv pv nv RN):VW nv (decide (m.next= .nil)):=by
 unfold ve at h;split at h<;>rename_i hn<;>rw[hn]<;>obtain⟨rfl,-⟩:=h<;>first|exact .inl ⟨rfl,rfl⟩|exact .inr ⟨_,_,_,rfl,rfl⟩
structure Sk.Ok (M:Bz) (m:Sk):Prop where
 i:0≤m.i∧m.i<M.Ai
 BI:EW m.FY.BI
 at_:0≤m.FY.at_∧m.FY.at_≤4
 Bq:0≤m.FY.Bq∧m.FY.Bq≤4
 CS:m.CS.Ok
 Dx:m.Dx.Ok
 BN:Bf m.BN
 fs:m.next= .first→m.FY.at_<m.FY.Bq
theorem WP{p a m:Int}(h: ¬(p=0∧a=0∧m=0))(w:World):(binOp .neq 122 (.agg #[.int .i64 p,.int .i64 a,.int .i64 m]) (.agg #[.int .i64 0,.int .i64 0,.int .i64 0])).run Tryz.prog w= .ok (.bool true) w:=by
 rcases oZ p with rfl|⟨n,rfl⟩|⟨n,rfl⟩
 ·rcases oZ a with rfl|⟨n,rfl⟩|⟨n,rfl⟩
  ·rcases oZ m with rfl|⟨n,rfl⟩|⟨n,rfl⟩
   ·exact(h ⟨rfl,rfl,rfl⟩).elim
   ·kernel_rfl
   kernel_rfl
  ·kernel_rfl
  kernel_rfl
 ·kernel_rfl
 kernel_rfl
theorem W5(w:World):(binOp .neq 122 (.agg #[.int .i64 0,.int .i64 0,.int .i64 0]) (.agg #[.int .i64 0,.int .i64 0,.int .i64 0])).run Tryz.prog w= .ok (.bool false) w:=by kernel_rfl
theorem zW{x:Operand}{u v:Array Value}(w:World):(eqGuard .neq 122 x y (.agg u) (.agg v)).run Tryz.prog w= .ok () w:=by kernel_rfl
theorem OA{a b:Int}(hb:b≠0)(w:World):(binOp .rem t (.int .i64 a) (.int .i64 b)).run Tryz.prog w= .ok (.int .i64 (a.tmod b)) w:=by
 simp[binOp,Op.intDiv,go_sem,hb]
theorem C'{a n:Int}(hn:0<n):((a.tmod n)+n).tmod n=a % n:=by
 have h1:=Int.tmod_lt_of_pos a hn;have h2: -n<a.tmod n:=by
  have:=Int.lt_tmod_of_pos a hn;omega
 rw[Int.tmod_eq_emod_of_nonneg (by omega),Int.add_emod_right];have h3:=Int.mul_tdiv_add_tmod a n;have h4:a.tmod n=a+n*(-a.tdiv n):=by
  have e:n*(-a.tdiv n)= -(n*a.tdiv n):=Int.mul_neg ..
  omega
 rw[h4,Int.add_mul_emod_self_left]
theorem TV{n i d:Int}(hi:0≤i∧i<n)(h:JR n i d≥0):0≤JR n i d∧JR n i d<n:=by
 refine⟨h,?_⟩;unfold JR at*
 have h1:=Int.emod_lt_of_pos d (show 0<n by omega);have h2:=Int.emod_lt_of_pos (d % n+1) (show 0<n by omega);split
 ·omega
 split<;>omega
def wF(C:Cx)(d:Nat)(m:Sk):BB:=fun D w=> ∃qv:Value,∃pv:Value,uF 182 d (m.cs C qv pv) (ve C d m qv pv) D w
theorem Gz{m:Sk}:CV (wF C d m):=AQ fun _=>AQ fun _=>Bd GX
def Xr(C:Cx)(d:Nat)(m:Sk)(l:Dk)(m':Sk)(l':Dk):Prop:= ∀(qv:Value) (pv:Value) nv RN,ve C d m qv pv nv RN→ ∃KZ fs cs,nv= .func (.func KZ) (List.toArray fs) (List.toArray cs)∧Cm KZ=true∧Cv C KZ (fs++[AX C.s]++cs) l (Az [⟨d,182,m.cs C qv pv nv⟩] RN) (.tuple #[]) l' (wF C d m')
theorem E':Pm 24 1 5=true:=by kernel_rfl
theorem vv:Cm 104=true:=by kernel_rfl
theorem vx:Cm 106=true:=by kernel_rfl
theorem i9:Cm 140=true:=by kernel_rfl
theorem G':Cm 141=true:=by kernel_rfl
theorem vy:Cm 169=true:=by kernel_rfl
theorem Pc:Cm 170=true:=by kernel_rfl
theorem wa:Cm 171=true:=by kernel_rfl
theorem DB:Cm 172=true:=by kernel_rfl
theorem wc:Cm 173=true:=by kernel_rfl
theorem I':Cm 193=true:=by kernel_rfl
theorem wd:Cm 194=true:=by kernel_rfl
theorem we:Cm 195=true:=by kernel_rfl
theorem wg:Cm 196=true:=by kernel_rfl
theorem wh:Cm 197=true:=by kernel_rfl
theorem wG:Jv 122 [(0,1),(1,1),(2,1)]=true:=by kernel_rfl
theorem wi:Jv 182 [(0,1),(1,1),(2,3),(5,1),(6,1),(7,1),(8,1),(9,1),(10,1)]=true:=by kernel_rfl
theorem wj:Bq 122 3=true:=by kernel_rfl
theorem J':aX 24 1 3=true:=by kernel_rfl
theorem pF:LU 122=some [.int .i64 0,.int .i64 0,.int .i64 0]:=by kernel_rfl
theorem wl:LU 182=some [.pointer none,.int .i64 0,.int .i64 0,.int .i64 0,.int .i64 0,.int .i64 0,.pointer none,.pointer none,.int .u64 0,.bool false,.nilFunc]:=by kernel_rfl
theorem Pd{m m':Sk}(hrun:Xr C d m l m' l'):Cv C 107 [AX d,AX C.s] l (wF C d m) (.bool (decide (m'.next= .nil))) l' (wF C d m'):=by
 refine Ci 25 Tryz.func107 Z Gz fun w0 D0=>T.ex (fun _=>AQ fun _=>Bd GX) ?_
 intro qv;refine T.ex (fun _=>Bd GX) ?_;intro pv;refine T.MX (H:=[]) GX ?_;intro nv RN hN hl;obtain⟨KZ,fs,cs,rfl,hg,hc⟩:=hrun qv pv nv RN hN;refine AZ 14 [] Z<|zF Z Z Z Z CG<|Hz Z<|AP 10 [32] Z<|RV (H1:=[]) (H2:=[_]) Z hg Z hc Gz Aw<|AY 2 [] Z<|T.ex (fun _=>AQ fun _=>Bd GX) ?_;intro ut;refine T.ex (fun _=>Bd GX) ?_;intro pv';refine T.MX GX ?_;intro Lc Y0 hN' hl';exact AZ 5 [] Z<|Le Z (IL (DA hN')) (Jl (DA hN') CG)<|AY 2 [] Z<|T.BC Z fun W D h=>⟨D,⟨rfl,rfl,ut,pv',Lc,Y0,hN',h⟩,fun _ hk=>hk⟩
theorem DE{m:Sk}(hn:m.next= .nil):Cv C 107 [AX d,AX C.s] l (wF C d m) (.bool true) l (wF C d m):=by
 refine Ci 25 Tryz.func107 Z Gz fun w0 D0=>T.ex (fun _=>AQ fun _=>Bd GX) ?_
 intro qv;refine T.ex (fun _=>Bd GX) ?_;intro pv;refine T.MX (H:=[]) GX ?_;intro nv RN hN hl;have hi:=DA hN;rw[hn] at hi;exact AZ 14 [] Z<|Le Z (IL hi) (Jl hi CG)<|Hz Z<|AY 6 [] Z<|T.BC Z fun W D h=>⟨D,⟨rfl,rfl,qv,pv,nv,RN,hN,h⟩,fun _ hk=>hk⟩
theorem at4{x:Int}(h:0≤x∧x≤4): -9223372036854775808≤x+1∧x+1≤9223372036854775807:=by omega
theorem Pf{x:Int}(h:Bf x): -9223372036854775808≤min x 4∧min x 4≤9223372036854775807:=by have:=h.1;omega
theorem M'(hM:M.Ok):M.Ai≤1000:=by have:=hM.Ai;omega
theorem vg{n i d:Int}(hn:n≤1000):Cv C 195 [.int .i64 n,.int .i64 i,.int .i64 d] l Cj (.int .i64 (JR n i d)) l Cj:=by
 refine Ci 25 Tryz.func195 Z Aa fun w0 D0=>CW 10 [] Z<|T.cond Z ?_ ?_
 ·intro hb0;refine CW 4 [] Z<|T.BC Z fun W D h=>?_
  rw[show JR n i d=_ from if_pos (of_decide_eq_true hb0)];exact⟨D,⟨rfl,rfl,h⟩,fun _ hk=>hk⟩
 intro hb0;have hc: ¬n<2:=of_decide_eq_false hb0;have hn0:n≠0:=by omega
 have h1:=Int.emod_lt_of_pos d (show 0<n by omega);have h0:=Int.emod_nonneg d hn0;have h3:=Int.tmod_lt_of_pos d (show 0<n by omega);have h4:=Int.lt_tmod_of_pos d (show 0<n by omega);have hA: -9223372036854775808≤d.tmod n+n∧d.tmod n+n≤9223372036854775807:=by omega
 have hB: -9223372036854775808≤d % n+1∧d % n+1≤9223372036854775807:=by omega
 refine AZ 5 [] Z<|Le Z (fun w=>Iy w) (fun w=>OA hn0 w)<|NC Z<|BU (c:=d.tmod n+n) Z (EG hA)<|NC Z<|Le (v:= .int .i64 (d % n)) Z (fun w=>Iy w) (fun w=>by rw[OA hn0 w,C' (by omega)])<|AY 9 [] Z<|T.cond Z ?_ ?_
 ·intro hb1;refine AZ 2 [] Z<|BU (c:=d % n+1) Z (EG hB)<|NC Z<|Le (v:= .int .i64 ((d % n+1) % n)) Z (fun w=>Iy w) (fun w=>by rw[OA hn0 w,Int.tmod_eq_emod_of_nonneg (by omega)])<|AY 7 [] Z<|T.BC Z fun W D h=>?_
  rw[show JR n i d=_ from(if_neg hc).trans (if_pos (eq_of_beq hb1))];exact⟨D,⟨rfl,rfl,h⟩,fun _ hk=>hk⟩
 intro hb1;refine CW 6 [] Z<|T.BC Z fun W D h=>?_
 rw[show JR n i d=_ from(if_neg hc).trans (if_neg (ne_of_beq_false hb1))];exact⟨D,⟨rfl,rfl,h⟩,fun _ hk=>hk⟩
theorem Ze{R:BB}(hl:CV R){a0 a1 a2 a3 a4 a5 a6 a7 a8 a9 a10:Value}{t:Int}:Cv C 140 [AX d,.int .u64 t] l (Az (⟨d,182,[a0,a1,a2,a3,a4,a5,a6,a7,a8,a9,a10]⟩::Hx) R) (.tuple #[]) l (Az (⟨d,182,[a0,a1,a2,a3,a4,a5,a6,a7,.int .u64 t,.bool true,.nilFunc]⟩::Hx) R):=by
 exact Ci 14 Tryz.func140 Z (Ac hl _) fun w0 D0=>VY hl<|CW 15 [4672] Z<|T.BJ Z fun W D h=>⟨D,⟨rfl,rfl,h⟩,fun _ hk=>hk⟩
theorem Xt{R:BB}(hl:CV R){m:Sk}{qv pv:Value}(hp:EW m.FY.BI):Cv C 141 [AX d] l (Az [⟨d,182,m.cs C qv pv nv⟩] R) (.tuple #[]) l (wF C d (m.JS C.M)):=by
 obtain⟨i,⟨bp,ba,bm⟩,ER,CS,Dx,BN,Ep,nx⟩:=m;refine Ci 76 Tryz.func141 Z (Ac hl _) fun w0 D0=>Gu hl<|CW 2 [] Z ?_
 by_cases hq:bp=0
 ·skip;refine Ey 19 0 0 (by kernel_rfl)<|AP 5 [] Z<|Du (c:=false) Z (by simp[TR,hq])<|AP 12 [] Z<|Hz Z<|AY 14 [] Z ?_;by_cases hz:bp=0∧ba=0∧bm=0
  ·obtain⟨rfl,rfl,rfl⟩:=hz;refine AZ 5 [] Z<|Fp Z wG pF Z<|Le Z zW W5<|AP 11 [576] Z<|UF Z Pc (Sr hp) (fun _=>CP) CE fun q0=>AP 20 [0,32] Z<|CB Z tA (O0) CP<|AY 2 [] Z<|T.cond Z ?_ ?_
   ·intro hb2;refine AZ 7 [288] Z<|UF Z DB (PO) (fun _=>CP) CE fun q1=>AY 12 [0,32] Z<|T.BJ Z fun W D h=>?_
    rw[show(⟨i,⟨0,0,0⟩,ER,CS,Dx,BN,Ep,nx⟩:Sk).JS C.M=_ from(if_neg (fun h=>h.1 rfl)).trans (if_pos (show C.M.FI 0<0 from of_decide_eq_true hb2))];exact⟨D,⟨rfl,rfl,_,_,_,_,⟨rfl,_,rfl,rfl⟩,h⟩,fun _ hk=>hk⟩
   intro hb2;refine T.skip<|T.BJ Z fun W D h=>?_
   rw[show(⟨i,⟨0,0,0⟩,ER,CS,Dx,BN,Ep,nx⟩:Sk).JS C.M=_ from(if_neg (fun h=>h.1 rfl)).trans (if_neg (show¬C.M.FI 0<0 from of_decide_eq_false hb2))];exact⟨D,⟨rfl,rfl,_,_,_,_,⟨rfl,_,rfl,rfl⟩,h⟩,fun _ hk=>hk⟩
  skip;refine AZ 5 [] Z<|Fp Z wG pF Z<|Le Z zW (WP hz)<|AP 4 [16] Z<|Fp Z wG pF Z<|AP 12 [0,576] Z<|UF Z Pc (Sr hp) (fun _=>CP) CE fun q2=>AP 20 [0,32] Z<|CB Z tA (O0) CP<|AY 2 [] Z<|T.cond Z ?_ ?_
  ·intro hb2;refine AZ 7 [288] Z<|UF Z DB (PO) (fun _=>CP) CE fun q3=>AY 12 [0,32] Z<|T.BJ Z fun W D h=>?_
   rw[show(⟨i,⟨bp,ba,bm⟩,ER,CS,Dx,BN,Ep,nx⟩:Sk).JS C.M=_ from(if_neg (fun h=>h.1 hq)).trans (if_pos (show C.M.FI bp<0 from of_decide_eq_true hb2))];exact⟨D,⟨rfl,rfl,_,_,_,_,⟨rfl,_,rfl,rfl⟩,h⟩,fun _ hk=>hk⟩
  intro hb2;refine T.skip<|T.BJ Z fun W D h=>?_
  rw[show(⟨i,⟨bp,ba,bm⟩,ER,CS,Dx,BN,Ep,nx⟩:Sk).JS C.M=_ from(if_neg (fun h=>h.1 hq)).trans (if_neg (show¬C.M.FI bp<0 from of_decide_eq_false hb2))];exact⟨D,⟨rfl,rfl,_,_,_,_,⟨rfl,_,rfl,rfl⟩,h⟩,fun _ hk=>hk⟩
 skip;refine Ey 19 0 0 (by kernel_rfl)<|AP 5 [] Z<|Du (c:=true) Z (by simp[TR,hq])<|AP 12 [] Z<|Hz Z<|X.nil<|T.cond Z ?_ ?_
 ·intro hb1;refine CW 9 [32] Z<|T.J6 Z fun W D h=>?_
  rw[show(⟨i,⟨bp,ba,bm⟩,ER,CS,Dx,BN,Ep,nx⟩:Sk).JS C.M=_ from if_pos ⟨hq,of_decide_eq_true hb1⟩];obtain⟨D1,h1,h2⟩:=Eo h;exact⟨D1,⟨rfl,rfl,_,_,_,_,⟨rfl,rfl⟩,h1⟩,h2⟩
 intro hb1;refine CW 12 [] Z ?_;by_cases hz:bp=0∧ba=0∧bm=0
 ·obtain⟨rfl,rfl,rfl⟩:=hz;refine AZ 5 [] Z<|Fp Z wG pF Z<|Le Z zW W5<|AP 11 [576] Z<|UF Z Pc (Sr hp) (fun _=>CP) CE fun q4=>AP 20 [0,32] Z<|CB Z tA (O0) CP<|AY 2 [] Z<|T.cond Z ?_ ?_
  ·intro hb3;refine AZ 7 [288] Z<|UF Z DB (PO) (fun _=>CP) CE fun q5=>AY 12 [0,32] Z<|T.BJ Z fun W D h=>?_
   rw[show(⟨i,⟨0,0,0⟩,ER,CS,Dx,BN,Ep,nx⟩:Sk).JS C.M=_ from(if_neg (fun h=>h.1 rfl)).trans (if_pos (show C.M.FI 0<0 from of_decide_eq_true hb3))];exact⟨D,⟨rfl,rfl,_,_,_,_,⟨rfl,_,rfl,rfl⟩,h⟩,fun _ hk=>hk⟩
  intro hb3;refine T.skip<|T.BJ Z fun W D h=>?_
  rw[show(⟨i,⟨0,0,0⟩,ER,CS,Dx,BN,Ep,nx⟩:Sk).JS C.M=_ from(if_neg (fun h=>h.1 rfl)).trans (if_neg (show¬C.M.FI 0<0 from of_decide_eq_false hb3))];exact⟨D,⟨rfl,rfl,_,_,_,_,⟨rfl,_,rfl,rfl⟩,h⟩,fun _ hk=>hk⟩
 skip;refine AZ 5 [] Z<|Fp Z wG pF Z<|Le Z zW (WP hz)<|AP 4 [16] Z<|Fp Z wG pF Z<|AP 12 [0,576] Z<|UF Z Pc (Sr hp) (fun _=>CP) CE fun q6=>AP 20 [0,32] Z<|CB Z tA (O0) CP<|AY 2 [] Z<|T.cond Z ?_ ?_
 ·intro hb3;refine AZ 7 [288] Z<|UF Z DB (PO) (fun _=>CP) CE fun q7=>AY 12 [0,32] Z<|T.BJ Z fun W D h=>?_
  rw[show(⟨i,⟨bp,ba,bm⟩,ER,CS,Dx,BN,Ep,nx⟩:Sk).JS C.M=_ from(if_neg (fun h=>of_decide_eq_false hb1 h.2)).trans (if_pos (show C.M.FI bp<0 from of_decide_eq_true hb3))];exact⟨D,⟨rfl,rfl,_,_,_,_,⟨rfl,_,rfl,rfl⟩,h⟩,fun _ hk=>hk⟩
 intro hb3;refine T.skip<|T.BJ Z fun W D h=>?_
 rw[show(⟨i,⟨bp,ba,bm⟩,ER,CS,Dx,BN,Ep,nx⟩:Sk).JS C.M=_ from(if_neg (fun h=>of_decide_eq_false hb1 h.2)).trans (if_neg (show¬C.M.FI bp<0 from of_decide_eq_false hb3))];exact⟨D,⟨rfl,rfl,_,_,_,_,⟨rfl,_,rfl,rfl⟩,h⟩,fun _ hk=>hk⟩
theorem jN{m:Sk}(hM:C.M.Ok)(hm:m.Ok C.M)(hr: ∀a,Bf (ld l a))(hn:m.next= .own):Xr C d m l (m.step C.M l).1 (m.step C.M l).2:=by
 obtain⟨i,⟨bp,ba,bm⟩,ER,CS,Dx,BN,Ep,nx⟩:=m;obtain rfl:nx= .own:=hn;rintro qv pv nv RN ⟨rfl,q,rfl,rfl⟩;refine⟨106,[AX d],[],rfl,vx,?_⟩;refine Ci 28 Tryz.func106 Z (Ac EJ _) fun w0 D0=>Gu EJ<|AZ 8 [32] Z<|Ls Z gF (V5 hm.CS hr) EJ Aw<|QO Z Z Z<|X.nil<|T.cond Z ?_ ?_
 ·intro hb0;refine T.J6 Z fun W D h=>?_
  have hn: ¬(CS.step l).1.next= .nil:=by simpa using hb0
  rw[show(⟨i,⟨bp,ba,bm⟩,ER,CS,Dx,BN,Ep,.own⟩:Sk).step C.M l=_ from if_neg hn];exact⟨D,⟨rfl,rfl,_,_,_,_,⟨rfl,_,rfl,rfl⟩,h⟩,fun _ hk=>hk⟩
 intro hb0;have hn0:(CS.step l).1.next= .nil:=by simpa using hb0
 refine AZ 8 [] Z<|CB Z gH (V4 hn0) EJ<|AY 11 [] Z<|T.cond Z ?_ ?_
 ·intro hb1;refine AZ 4 [4] Z<|Kt (H1:=[]) (H2:=_::_) (Ju:=_::_) Z i9 Z (Ze EJ) EJ Z Aw<|X.nil<|T.J6 Z fun W D h=>?_
  rw[show(⟨i,⟨bp,ba,bm⟩,ER,CS,Dx,BN,Ep,.own⟩:Sk).step C.M l=_ from(if_pos hn0).trans (if_pos (eq_of_beq hb1))];obtain⟨D1,h1,h2⟩:=Eo h;exact⟨D1,⟨rfl,rfl,_,_,_,_,⟨rfl,rfl⟩,h1⟩,h2⟩
 intro hb1;refine AZ 3 [2] Z<|RV (H1:=[]) (H2:=[_]) Z G' Z (Xt EJ (m:=⟨i,⟨bp,ba,bm⟩,ER,(CS.step l).1,Dx,BN,Ep,.own⟩) hm.BI) Gz Aw<|X.nil<|T.BJ Z fun W D h=>?_
 rw[show(⟨i,⟨bp,ba,bm⟩,ER,CS,Dx,BN,Ep,.own⟩:Sk).step C.M l=_ from(if_pos hn0).trans (if_neg (ne_of_beq_false hb1))];exact⟨D,⟨rfl,rfl,h⟩,fun _ hk=>hk⟩
theorem DG{m:Sk}(hM:C.M.Ok)(hm:m.Ok C.M)(hr: ∀a,Bf (ld l a))(hn:m.next= .first):Xr C d m l (m.step C.M l).1 (m.step C.M l).2:=by
 obtain⟨i,⟨bp,ba,bm⟩,ER,CS,Dx,BN,Ep,nx⟩:=m;obtain rfl:nx= .first:=hn;rintro qv pv nv RN ⟨rfl,rfl⟩;refine⟨169,[AX d],[],rfl,vy,?_⟩;exact Ci 34 Tryz.func169 Z (Ac Aa _) fun w0 D0=>Gu Aa<|T.seq<|Ey 18 0 0 (by kernel_rfl)<|AP 15 [] Z<|CB Z wN (zJ) Aa<|CB Z UT (EH Aa) Aa<|AP 9 [512] Z<|BU (c:=ba+1) Z (EG (at4 hm.at_))<|AP 8 [0,4] Z<|Kt (H1:=[]) (H2:=_::_) (Ju:=_::_) Z i9 Z (Ze Aa) Aa Z Aw<|X.nil<|T.BJ Z fun W D h=>⟨D,⟨rfl,rfl,_,_,_,_,⟨rfl,rfl⟩,h⟩,fun _ hk=>hk⟩
theorem Pi{m:Sk}(hM:C.M.Ok)(hm:m.Ok C.M)(hr: ∀a,Bf (ld l a))(hn:m.next= .Jr):Xr C d m l (m.step C.M l).1 (m.step C.M l).2:=by
 obtain⟨i,⟨bp,ba,bm⟩,ER,CS,Dx,BN,Ep,nx⟩:=m;obtain rfl:nx= .Jr:=hn;rintro qv pv nv RN ⟨rfl,q,rfl,rfl⟩;refine⟨171,[AX d],[],rfl,wa,?_⟩;refine Ci 23 Tryz.func171 Z (Ac CP _) fun w0 D0=>Gu CP<|AZ 7 [32] Z<|Ls Z C3 (PN hm.Dx hr) CP Aw<|X.nil<|T.cond Z ?_ ?_
 ·intro hb0;refine AZ 7 [288] Z<|UF Z DB (PO) (fun _=>CP) CE fun q0=>AY 12 [0,32] Z<|T.BJ Z fun W D h=>?_
  rw[show(⟨i,⟨bp,ba,bm⟩,ER,CS,Dx,BN,Ep,.Jr⟩:Sk).step C.M l=_ from if_pos (of_decide_eq_true hb0)];exact⟨D,⟨rfl,rfl,_,_,_,_,⟨rfl,_,rfl,rfl⟩,h⟩,fun _ hk=>hk⟩
 intro hb0;refine T.skip<|T.BJ Z fun W D h=>?_
 rw[show(⟨i,⟨bp,ba,bm⟩,ER,CS,Dx,BN,Ep,.Jr⟩:Sk).step C.M l=_ from if_neg (of_decide_eq_false hb0)];exact⟨D,⟨rfl,rfl,_,_,_,_,⟨rfl,_,rfl,rfl⟩,h⟩,fun _ hk=>hk⟩
theorem Pp{m:Sk}(hM:C.M.Ok)(hm:m.Ok C.M)(hr: ∀a,Bf (ld l a))(hn:m.next= .take):Xr C d m l (m.step C.M l).1 (m.step C.M l).2:=by
 obtain⟨i,⟨bp,ba,bm⟩,ER,CS,Dx,BN,Ep,nx⟩:=m;obtain rfl:nx= .take:=hn;rintro qv pv nv RN ⟨rfl,q,rfl,rfl⟩;refine⟨173,[AX d],[],rfl,wc,?_⟩;refine Ci 58 Tryz.func173 Z (Ac CP _) fun w0 D0=>Gu CP<|AZ 8 [32] Z<|Ls Z C3 (PN hm.Dx hr) CP Aw<|QO Z Z Z<|X.nil<|T.cond Z ?_ ?_
 ·intro hb0;refine T.J6 Z fun W D h=>?_
  have hn: ¬(Dx.step C.M l).1.next= .nil:=by simpa using hb0
  rw[show(⟨i,⟨bp,ba,bm⟩,ER,CS,Dx,BN,Ep,.take⟩:Sk).step C.M l=_ from if_neg hn];exact⟨D,⟨rfl,rfl,_,_,_,_,⟨rfl,_,rfl,rfl⟩,h⟩,fun _ hk=>hk⟩
 intro hb0;have hn0:(Dx.step C.M l).1.next= .nil:=by simpa using hb0
 refine AZ 8 [] Z<|CB Z I' (dW hn0) CP<|AY 2 [] Z<|T.cond Z ?_ ?_
 ·intro hb1;have hp1:(Dx.step C.M l).1.p≠0:=by simpa[TR] using hb1
  refine CW 9 [32] Z<|T.J6 Z fun W D h=>?_
  rw[show(⟨i,⟨bp,ba,bm⟩,ER,CS,Dx,BN,Ep,.take⟩:Sk).step C.M l=_ from(if_pos hn0).trans (if_pos hp1)];exact⟨D,⟨rfl,rfl,_,_,_,_,⟨rfl,_,rfl,hn0,rfl⟩,h⟩,fun _ hk=>hk⟩
 intro hb1;have hp1: ¬(Dx.step C.M l).1.p≠0:=by simpa[TR] using hb1
 refine CW 9 [8] Z<|Ey 16 0 0 (by kernel_rfl)<|AP 4 [] Z<|CB Z V3 (GN CP) CP<|Bp Z Z Z E' J' o3 Z<|AP 8 [] Z<|CB Z we (Cv.frame CP (vg (M' hM))) CP<|AY 7 [] Z<|T.cond Z ?_ ?_
 ·intro hb2;refine AZ 8 [1152] Z<|CB Z gE (Cv.frame CP iV) CP<|UF Z wg (Cu (e:=C.M.CS (JR C.M.Ai i ER))) (fun _=>EJ) CE fun q0=>AY 12 [0,32] Z<|T.BJ Z fun W D h=>?_
  rw[show(⟨i,⟨bp,ba,bm⟩,ER,CS,Dx,BN,Ep,.take⟩:Sk).step C.M l=_ from(if_pos hn0).trans ((if_neg hp1).trans (if_pos (of_decide_eq_true hb2)))];exact⟨D,⟨rfl,rfl,_,_,_,_,⟨rfl,_,rfl,rfl⟩,h⟩,fun _ hk=>hk⟩
 intro hb2;refine T.skip<|T.BJ Z fun W D h=>?_
 rw[show(⟨i,⟨bp,ba,bm⟩,ER,CS,Dx,BN,Ep,.take⟩:Sk).step C.M l=_ from(if_pos hn0).trans ((if_neg hp1).trans (if_neg (of_decide_eq_false hb2)))];obtain⟨D1,h1,h2⟩:=Eo h;exact⟨D1,⟨rfl,rfl,_,_,_,_,⟨rfl,rfl⟩,h1⟩,h2⟩
theorem Ps{m:Sk}(hM:C.M.Ok)(hm:m.Ok C.M)(hr: ∀a,Bf (ld l a))(hn:m.next= .Bq):Xr C d m l (m.step C.M l).1 (m.step C.M l).2:=by
 obtain⟨i,⟨bp,ba,bm⟩,ER,CS,Dx,BN,Ep,nx⟩:=m;obtain rfl:nx= .Bq:=hn;rintro qv pv nv RN ⟨rfl,q,rfl,hp0,rfl⟩;refine⟨194,[AX d],[],rfl,wd,?_⟩;exact Ci 27 Tryz.func194 Z (Ac CP _) fun w0 D0=>Gu CP<|AZ 6 [] Z<|CB Z I' (dW hp0) CP<|AP 12 [32768] Z<|CB Z xL (zI) CP<|CB Z UT (EH CP) CP<|UG Z Z Z<|Ic Z DY Eu (EG (Pf (hr _)))<|Fp Z wG pF Z<|AP 6 [0,2] Z<|RV (H1:=[]) (H2:=[_]) Z G' Z (Xt CP (m:=⟨i,⟨Dx.p,0,min (ld l (C.M.FZ Dx.p)) 4⟩,ER,CS,Dx,BN,Ep,.Bq⟩) hm.Dx.p) Gz Aw<|X.nil<|T.BJ Z fun W D h=>⟨D,⟨rfl,rfl,h⟩,fun _ hk=>hk⟩
theorem DM{m:Sk}(hM:C.M.Ok)(hm:m.Ok C.M)(hr: ∀a,Bf (ld l a))(hn:m.next= .NT):Xr C d m l (m.step C.M l).1 (m.step C.M l).2:=by
 obtain⟨i,⟨bp,ba,bm⟩,ER,CS,Dx,BN,Ep,nx⟩:=m;obtain rfl:nx= .NT:=hn;rintro qv pv nv RN ⟨rfl,q,rfl,rfl⟩;refine⟨197,[AX d],[],rfl,wh,?_⟩;refine Ci 29 Tryz.func197 Z (Ac EJ _) fun w0 D0=>Gu EJ<|AZ 8 [32] Z<|Ls Z gF (V5 hm.CS hr) EJ Aw<|QO Z Z Z<|X.nil<|T.cond Z ?_ ?_
 ·intro hb0;refine T.J6 Z fun W D h=>?_
  have hn: ¬(CS.step l).1.next= .nil:=by simpa using hb0
  rw[show(⟨i,⟨bp,ba,bm⟩,ER,CS,Dx,BN,Ep,.NT⟩:Sk).step C.M l=_ from if_neg hn];exact⟨D,⟨rfl,rfl,_,_,_,_,⟨rfl,_,rfl,rfl⟩,h⟩,fun _ hk=>hk⟩
 intro hb0;have hn0:(CS.step l).1.next= .nil:=by simpa using hb0
 refine AZ 14 [8] Z<|CB Z gH (V4 hn0) EJ<|AY 11 [] Z<|T.cond Z ?_ ?_
 ·intro hb1;refine AZ 3 [4] Z<|Kt (H1:=[]) (H2:=_::_) (Ju:=_::_) Z i9 Z (Ze EJ) EJ Z Aw<|X.nil<|T.BJ Z fun W D h=>?_
  rw[show(⟨i,⟨bp,ba,bm⟩,ER,CS,Dx,BN,Ep,.NT⟩:Sk).step C.M l=_ from(if_pos hn0).trans (if_pos (eq_of_beq hb1))];obtain⟨D1,h1,h2⟩:=Eo h;exact⟨D1,⟨rfl,rfl,_,_,_,_,⟨rfl,rfl⟩,h1⟩,h2⟩
 intro hb1;refine T.skip<|T.BJ Z fun W D h=>?_
 rw[show(⟨i,⟨bp,ba,bm⟩,ER,CS,Dx,BN,Ep,.NT⟩:Sk).step C.M l=_ from(if_pos hn0).trans (if_neg (ne_of_beq_false hb1))];obtain⟨D1,h1,h2⟩:=Eo h;exact⟨D1,⟨rfl,rfl,_,_,_,_,⟨rfl,rfl⟩,h1⟩,h2⟩
theorem j9{m:Sk}(hM:C.M.Ok)(hm:m.Ok C.M)(hr: ∀a,Bf (ld l a))(hn:m.next≠ .nil):Xr C d m l (m.step C.M l).1 (m.step C.M l).2:=by
 cases h:m.next with
 |nil=>exact(hn h).elim
 |own=>exact jN hM hm hr h
 |first=>exact DG hM hm hr h
 |Jr=>exact Pi hM hm hr h
 |take=>exact Pp hM hm hr h
 |Bq=>exact Ps hM hm hr h
 |NT=>exact DM hM hm hr h
theorem vk{m:Sk}(hM:C.M.Ok)(hm:m.Ok C.M)(hr: ∀a,Bf (ld l a)):Cv C 107 [AX d,AX C.s] l (wF C d m) (.bool (decide ((m.step C.M l).1.next= .nil))) (m.step C.M l).2 (wF C d (m.step C.M l).1):=by
 by_cases hn:m.next= .nil
 ·have e:m.step C.M l=(m,l):=by unfold Sk.step;rw[hn]
  rw[e];simp only[hn,decide_true];exact DE hn
 exact Pd (j9 hM hm hr hn)
theorem Sk.eF{x:Sk}(h:x.Ok M):(x.JS M).Ok M:=by
 have z:EW 0:=by unfold EW;omega
 unfold Sk.JS;split
 ·rename_i hc;exact⟨h.i,h.BI,h.at_,h.Bq,h.CS,h.Dx,h.BN,fun _=>hc.2⟩
 split
 ·exact⟨h.i,z,by simp[QT],by simp[QT],h.CS,Pk.Su,h.BN,fun h=>nomatch h⟩
 exact⟨h.i,z,by simp[QT],by simp[QT],h.CS,Pk.Of h.BI,h.BN,fun h=>nomatch h⟩
theorem Sk.zX{x:Sk}{t:Int}(h:x.Ok M)(ht:Bf t):(x.done t).Ok M:=⟨h.i,h.BI,h.at_,h.Bq,h.CS,h.Dx,ht,fun h=>nomatch h⟩
theorem Sk.Ef(hM:M.Ok){m:Sk}(hm:m.Ok M)(hr: ∀a,Bf (ld l a)):(m.step M l).1.Ok M:=by
 have h1:=Dq.Ef hm.CS hr;have h2:=Pk.Ef (M:=M) hm.Dx hr;unfold Sk.step;split
 ·exact hm
 ·rename_i hn;have hx:({m with CS:=(m.CS.step l).1}:Sk).Ok M:=⟨hm.i,hm.BI,hm.at_,hm.Bq,h1,hm.Dx,hm.BN,hm.fs⟩;split
  ·split
   ·exact Sk.zX hx h1.w
   exact Sk.eF hx
  exact hx
 ·rename_i hn;have:=hm.fs hn;have:=hm.at_;have:=hm.Bq;exact⟨hm.i,hm.BI,by simp only[Sk.done];omega,hm.Bq,hm.CS,hm.Dx,hr _,fun h=>nomatch h⟩
 ·rename_i hn;split
  ·exact⟨hm.i,hm.BI,hm.at_,hm.Bq,hm.CS,Pk.Su,hm.BN,fun h=>nomatch h⟩
  exact⟨hm.i,hm.BI,hm.at_,hm.Bq,hm.CS,h2,hm.BN,hm.fs⟩
 ·rename_i hn;split
  ·split
   ·exact⟨hm.i,hm.BI,hm.at_,hm.Bq,hm.CS,h2,hm.BN,fun h=>nomatch h⟩
   split
   ·rename_i hv;exact⟨hm.i,hm.BI,hm.at_,hm.Bq,Dq.Dr hM (TV hm.i hv),h2,hm.BN,fun h=>nomatch h⟩
   exact⟨hm.i,hm.BI,hm.at_,hm.Bq,hm.CS,h2,hm.BN,fun h=>nomatch h⟩
  exact⟨hm.i,hm.BI,hm.at_,hm.Bq,hm.CS,h2,hm.BN,hm.fs⟩
 ·rename_i hn;have h3:=(hr (M.FZ m.Dx.p)).1;exact Sk.eF ⟨hm.i,hm.Dx.p,by simp,by simp only;omega,hm.CS,hm.Dx,hm.BN,fun h=>(by have h':m.next= .first:=h;rw[hn] at h';cases h')⟩
 rename_i hn;have hx:({m with CS:=(m.CS.step l).1}:Sk).Ok M:=⟨hm.i,hm.BI,hm.at_,hm.Bq,h1,hm.Dx,hm.BN,hm.fs⟩;split
 ·split
  ·exact Sk.zX hx h1.w
  exact⟨hm.i,hm.BI,hm.at_,hm.Bq,h1,hm.Dx,hm.BN,fun h=>nomatch h⟩
 exact hx
theorem Sk.D8{m:Sk}(hm:m.Ok M)(hr:Nc l):Nc (m.step M l).2:=by
 have h1:Nc (m.CS.step l).2:=Dq.D8 hm.CS hr;have h2:=Pk.D8 (M:=M) hm.Dx hr;unfold Sk.step;split<;>(try split)<;>(try split)<;>(try split)<;>first|exact hr|exact h1|exact h2
theorem DO(hM:C.M.Ok){i:Int}{b:uI}(hi:0≤i∧i<C.M.Ai):Cn C 85 [AX C.m,.int .i64 i,.agg #[.int .i64 b.BI,.int .i64 b.at_,.int .i64 b.Bq],.int .i64 dr] l Cj l (fun q=>wF C q (.new C.M i b dr)):=by
 refine Ci 50 Tryz.func85 Z Aa fun w0 D0=>AZ 2 [1] Z<|F7 Z CE fun b0=>AP 8 [32] Z<|Fp Z wi wl Z<|F7 Z CE fun b1=>AP 7 [] Z<|CB Z ko (iO Aa) Aa<|Du (c:=false) Z (decide_eq_false (Int.not_lt.2 (wC hM hi)))<|AP 8 [256,1] Z<|aW Z Z Z<|UG Z Z Z<|AP 10 [0,256,1] Z<|aW Z Z Z<|UG Z Z Z<|AP 10 [0,144] Z<|CB Z gE (iV) Aa<|UF Z vv (eZ (e:=C.M.CS i)) (fun _=>EJ) CE fun q2=>AY 18 [0,32] Z<|T.BC Z fun W D h=>?_
 obtain⟨D1,h1,h2⟩:=D6 [0] (by decide) h;exact⟨D1,⟨_,rfl,rfl,_,_,_,_,⟨rfl,_,rfl,rfl⟩,h1⟩,h2⟩
theorem Sk.Ha(hM:M.Ok){i:Int}{b:uI}(hi:0≤i∧i<M.Ai)(hp:EW b.BI):(Sk.new M i b dr).Ok M:=by
 have z:Bf 0:=by unfold Bf;omega
 exact⟨hi,hp,by simp only[Sk.new];omega,by simp only[Sk.new];omega,Dq.i7 hM hi,Pk.Su,z,fun h=>nomatch h⟩
theorem Pt{m:Sk}:Cv C 109 [AX d] l (wF C d m) (.tuple #[.int .u64 (if m.Ep=true then m.BN else 0),.bool m.Ep]) l (wF C d m):=by
 refine Ci 17 Tryz.func109 Z Gz fun w0 D0=>T.ex (fun _=>AQ fun _=>Bd GX) ?_
 intro qv;refine T.ex (fun _=>Bd GX) ?_;intro pv;refine T.MX (H:=[]) GX ?_;intro nv RN hN hl;refine AZ 15 [] Z<|QO Z Z Z<|Hz Z<|X.nil<|T.cond Z ?_ ?_
 ·intro hb0;refine CW 5 [] Z<|T.YJ Z fun W D h=>?_
  have hf:m.Ep=false:=by simpa using hb0
  rw[show(if m.Ep=true then m.BN else 0)=0 by simp[hf],show(Value.bool m.Ep)= .bool false by rw[hf]];exact⟨D,⟨rfl,rfl,qv,pv,nv,RN,hN,h⟩,fun _ hk=>hk⟩
 intro hb0;refine CW 10 [] Z<|T.YJ Z fun W D h=>?_
 have hf:m.Ep=true:=by simpa using hb0
 rw[show(if m.Ep=true then m.BN else 0)=m.BN by simp[hf],show(Value.bool m.Ep)= .bool true by rw[hf]];exact⟨D,⟨rfl,rfl,qv,pv,nv,RN,hN,h⟩,fun _ hk=>hk⟩
theorem kA{m:Sk}:Cv C 108 [AX d] l (wF C d m) (.agg #[.int .i64 m.FY.BI,.int .i64 m.FY.at_,.int .i64 m.FY.Bq]) l (wF C d m):=by
 refine Ci 10 Tryz.func108 Z Gz fun w0 D0=>T.ex (fun _=>AQ fun _=>Bd GX) ?_
 intro qv;refine T.ex (fun _=>Bd GX) ?_;intro pv;refine T.MX (H:=[]) GX ?_;intro nv RN hN hl;refine AZ 2 [1] Z<|Hg Z pF CE fun b0=>AY 17 [0,16,1] Z<|T.Io Z Z wj .z Z fun W D h=>?_
 obtain⟨D1,h1,h2⟩:=A8 h;exact⟨D1,⟨rfl,rfl,qv,pv,nv,RN,hN,h1⟩,h2⟩
def Sw.cs(C:Cx)(x:Sw)(pv nv:Value):List Value:=
 [AX C.m,.int .u64 x.Ah,.int .u64 x.w,.int .i64 x.part,.int .i64 x.v,.int .i64 x.DV,pv,.int .i64 x.Ae.kind,.int .i64 x.Ae.Di,.int .i64 x.Ae.a,.int .i64 x.Ae.b,.int .i64 x.Ae.c,nv]
def pG(C:Cx)(d:Nat)(x:Sw)(pv nv:Value)(RN:BB):Prop:=match x.next with
 | .nil=>nv= .nilFunc∧RN=Cj
 | .DZ=>nv=fm 111 d∧RN=Cj
 | .take=>nv=fm 146 d∧RN=Cj
 | .state=>nv=fm 201 d∧RN=Cj
 | .mark=>nv=fm 223 d∧RN=Cj
 | .free=>nv=fm 241 d∧RN=Cj
 | .MW=>nv=fm 252 d∧ ∃q,pv=AX q∧RN=oN C q x.push
 | .done=>nv=fm 202 d∧RN=Cj
theorem LC{m:Sw}{pv:Value}(nv:Value)(RN:BB)(h:pG C d m pv nv RN):CV RN:=by
 unfold pG at h;split at h<;>first
  |(obtain⟨-,rfl⟩:=h;exact Aa)
  |(obtain⟨-,q,-,rfl⟩:=h;exact Ez)
theorem DP{m:Sw}{pv:Value}(h:pG C d m pv nv RN):VW nv (decide (m.next= .nil)):=by
 unfold pG at h;split at h<;>rename_i hn<;>rw[hn]<;>obtain⟨rfl,-⟩:=h<;>first|exact .inl ⟨rfl,rfl⟩|exact .inr ⟨_,_,_,rfl,rfl⟩
structure Sw.Ok (m:Sw):Prop where
 Ah:Bf m.Ah
 w:Bf m.w
 v:0≤m.v∧m.v≤2000000
 DV:m.DV≤60
 push:m.push.Ok
 vl:m.next= .state∨m.next= .mark∨m.next= .free∨m.next= .MW→m.v≤m.DV
def W6(a b:Int):Nat:=bif decide (a≤b) then 201 else 202
theorem U0{x:Sw}{pv:Value}(h:x.next=if x.v≤x.DV then .state else .done):pG C d x pv (fm (W6 x.v x.DV) d) Cj:=by
 unfold pG W6;by_cases hc:x.v≤x.DV
 ·rw[if_pos hc] at h;rw[h];simp[hc]
 rw[if_neg hc] at h;rw[h];simp[hc]
theorem DQ(hM:M.Ok)(j:Int):M.Ll j≤60:=by
 have:=hM.nodes;unfold Bz.Ll;split<;>omega
theorem vz(hM:M.Ok)(j:Int):0≤M.KN j∧M.KN j≤2000000:=by
 have h2:=hM.parts;have h3:=hM.AO;unfold Bz.KN;split
 ·omega
 have h4:0≤j*M.AO:=Int.mul_nonneg (by omega) (by omega);have h5:j*M.AO≤100000*16:=Int.mul_le_mul (by omega) h3.2 (by omega) (by omega);omega
def Bs(C:Cx)(d:Nat)(m:Sw):BB:=fun D w=> ∃pv:Value,uF 193 d (m.cs C pv) (pG C d m pv) D w
theorem Jn{m:Sw}:CV (Bs C d m):=AQ fun _=>Bd LC
def U3(C:Cx)(d:Nat)(m:Sw)(l:Dk)(m':Sw)(l':Dk):Prop:= ∀(pv:Value) nv RN,pG C d m pv nv RN→ ∃KZ fs cs,nv= .func (.func KZ) (List.toArray fs) (List.toArray cs)∧Cm KZ=true∧Cv C KZ (fs++[AX C.s]++cs) l (Az [⟨d,193,m.cs C pv nv⟩] RN) (.tuple #[]) l' (Bs C d m')
theorem wm:Cm 111=true:=by kernel_rfl
theorem kB:Cm 143=true:=by kernel_rfl
theorem wn:Cm 146=true:=by kernel_rfl
theorem kI:Cm 166=true:=by kernel_rfl
theorem wq:Cm 176=true:=by kernel_rfl
theorem N':Cm 177=true:=by kernel_rfl
theorem wt:Cm 201=true:=by kernel_rfl
theorem ww:Cm 202=true:=by kernel_rfl
theorem wx:Cm 223=true:=by kernel_rfl
theorem kO:Cm 224=true:=by kernel_rfl
theorem wy:Cm 241=true:=by kernel_rfl
theorem xa:Cm 252=true:=by kernel_rfl
theorem ky:Cm 33=true:=by kernel_rfl
theorem lf:Cm 35=true:=by kernel_rfl
theorem g37:Cm 37=true:=by kernel_rfl
theorem xc:Jv 193 [(0,1),(1,1),(2,1),(3,1),(4,1),(5,1),(6,1),(7,5),(12,1)]=true:=by kernel_rfl
theorem xd:LU 193=some [.pointer none,.int .u64 0,.int .u64 0,.int .i64 0,.int .i64 0,.int .i64 0,.pointer none,.int .i64 0,.int .i64 0,.int .i64 0,.int .i64 0,.int .i64 0,.nilFunc]:=by kernel_rfl
theorem lA{m:Sw}(hn:m.next= .nil):Cv C 289 [AX d,AX C.s] l (Bs C d m) (.bool true) l (Bs C d {m with Ae:=BH}):=by
 refine Ci 27 Tryz.func289 Z Jn fun w0 D0=>T.ex (fun _=>Bd LC) ?_
 intro pv;refine T.MX (H:=[]) LC ?_;intro nv RN hN hl;have hi:=DP hN;rw[hn] at hi;exact AZ 15 [0,0,16] Z<|Fp Z LW Ih Z<|AP 11 [] Z<|Le Z (IL hi) (Jl hi CG)<|AY 6 [] Z<|T.BC Z fun W D h=>⟨D,⟨rfl,rfl,pv,nv,RN,hN,h⟩,fun _ hk=>hk⟩
theorem Pu{m m':Sw}(hrun:U3 C d {m with Ae:=BH} l m' l'):Cv C 289 [AX d,AX C.s] l (Bs C d m) (.bool (decide (m'.next= .nil))) l' (Bs C d m'):=by
 refine Ci 27 Tryz.func289 Z Jn fun w0 D0=>T.ex (fun _=>Bd LC) ?_
 intro pv;refine T.MX (H:=[]) LC ?_;intro nv RN hN hl;obtain⟨KZ,fs,cs,rfl,hg,hc⟩:=hrun pv nv RN hN;refine AZ 15 [0,0,16] Z<|Fp Z LW Ih Z<|AP 11 [] Z<|zF Z Z Z Z CG<|AP 10 [32] Z<|RV (H1:=[]) (H2:=[_]) Z hg Z hc Jn Aw<|AY 2 [] Z<|T.ex (fun _=>Bd LC) ?_;intro pv';refine T.MX LC ?_;intro Lc Y0 hN' hl';exact AZ 5 [] Z<|Le Z (IL (DP hN')) (Jl (DP hN') CG)<|AY 2 [] Z<|T.BC Z fun W D h=>⟨D,⟨rfl,rfl,pv',Lc,Y0,hN',h⟩,fun _ hk=>hk⟩
theorem DS{m:Sw}:Cv C 288 [AX d] l (Bs C d m) (.agg m.Ae.cells.toArray) l (Bs C d m):=by
 refine Ci 10 Tryz.func288 Z Jn fun w0 D0=>T.ex (fun _=>Bd LC) ?_
 intro pv;refine T.MX (H:=[]) LC ?_;intro nv RN hN hl;refine AZ 2 [1] Z<|Hg Z Ih CE fun b0=>AY 17 [0,16,1] Z<|T.Io Z Z Xq .z Z fun W D h=>?_
 obtain⟨D1,h1,h2⟩:=A8 h;exact⟨D1,⟨rfl,rfl,pv,nv,RN,hN,h1⟩,h2⟩
theorem pI{R:BB}(hl:CV R){a0 a1 a2 a3 a6 a7 a8 a9 a10 a11 a12:Value}{v la:Int}:Cv C 177 [AX d] l (Az (⟨d,193,[a0,a1,a2,a3,.int .i64 v,.int .i64 la,a6,a7,a8,a9,a10,a11,a12]⟩::Hx) R) (fm (W6 v la) d) l (Az (⟨d,193,[a0,a1,a2,a3,.int .i64 v,.int .i64 la,a6,a7,a8,a9,a10,a11,a12]⟩::Hx) R):=by
 refine Ci 16 Tryz.func177 Z (Ac hl _) fun w0 D0=>VY hl<|CW 6 [] Z<|Ey 9 0 0 (by kernel_rfl)<|AY 10 [] Z<|T.cond Z ?_ ?_
 ·intro hb0;refine CW 6 [] Z<|T.BC Z fun W D h=>?_
  rw[show W6 v la=201 by unfold W6;rw[show decide (v≤la)=true from hb0];rfl];exact⟨D,⟨rfl,rfl,h⟩,fun _ hk=>hk⟩
 intro hb0;refine CW 7 [] Z<|T.BC Z fun W D h=>?_
 rw[show W6 v la=202 by unfold W6;rw[show decide (v≤la)=false from hb0];rfl];exact⟨D,⟨rfl,rfl,h⟩,fun _ hk=>hk⟩
theorem jF{R:BB}(hl:CV R){a0 a1 a2 a3 a6 a7 a8 a9 a10 a11 a12:Value}{v la:Int}(hv:0≤v∧v≤1000):Cv C 224 [AX d] l (Az (⟨d,193,[a0,a1,a2,a3,.int .i64 v,.int .i64 la,a6,a7,a8,a9,a10,a11,a12]⟩::Hx) R) (.tuple #[]) l (Az (⟨d,193,[a0,a1,a2,a3,.int .i64 (v+1),.int .i64 la,a6,a7,a8,a9,a10,a11,fm (W6 (v+1) la) d]⟩::Hx) R):=by
 exact Ci 14 Tryz.func224 Z (Ac hl _) fun w0 D0=>VY hl<|AZ 6 [128] Z<|BU (c:=v+1) Z (EG (by simp only[FC];omega))<|AP 7 [0,32] Z<|OT (H1:=[]) (H2:=_::_) Z N' Z (pI hl) hl<|AY 4 [] Z<|T.BJ Z fun W D h=>⟨D,⟨rfl,rfl,h⟩,fun _ hk=>hk⟩
theorem Pw{m:Sw}(hM:C.M.Ok)(hm:m.Ok)(hr: ∀a,Bf (ld l a))(hn:m.next= .DZ):U3 C d m l (m.Au C.M l).1 (m.Au C.M l).2:=by
 obtain⟨Ah,w,part,v,DV,push,Ae,nx⟩:=m;obtain rfl:nx= .DZ:=hn;rintro pv nv RN ⟨rfl,rfl⟩;refine⟨111,[AX d],[],rfl,wm,?_⟩;refine Ci 49 Tryz.func111 Z (Ac Aa _) fun w0 D0=>Gu Aa<|AZ 8 [1024] Z<|CB Z kB (YT) Aa<|CB Z UT (EH Aa) Aa<|AP 10 [] Z<|CB Z Cz (Q4 Aa (hr _)) Aa<|AY 14 [8] Z ?_
 by_cases hq:hi (ld l 2)=NR Ah
 ·skip;refine AZ 6 [] Z<|Ic Z FP Eu (RX _)<|Du (c:=true) Z (beq_iff_eq.2 hq)<|AP 2 [] Z<|Ic Z DY Gj (KR (KF _))<|AP 4 [] Z<|CB Z gN (YV) Aa<|Du Z Z<|Hz Z<|X.nil<|T.cond Z ?_ ?_
  ·intro hb1;refine CW 8 [32] Z<|T.BJ Z fun W D h=>?_
   rw[show(⟨Ah,w,part,v,DV,push,Ae,.DZ⟩:Sw).Au C.M l=_ from if_pos ⟨hq,of_decide_eq_true hb1⟩];exact⟨D,⟨rfl,rfl,_,_,_,⟨rfl,rfl⟩,h⟩,fun _ hk=>hk⟩
  intro hb1;refine T.skip<|T.BJ Z fun W D h=>?_
  rw[show(⟨Ah,w,part,v,DV,push,Ae,.DZ⟩:Sw).Au C.M l=_ from if_neg (fun h=>of_decide_eq_false hb1 h.2)];exact⟨D,⟨rfl,rfl,_,_,_,⟨rfl,rfl⟩,h⟩,fun _ hk=>hk⟩
 skip;refine AZ 6 [] Z<|Ic Z FP Eu (RX _)<|Du (c:=false) Z (beq_eq_false_iff_ne.2 hq)<|AP 9 [] Z<|Hz Z<|AY 3 [] Z<|T.BJ Z fun W D h=>?_
 rw[show(⟨Ah,w,part,v,DV,push,Ae,.DZ⟩:Sw).Au C.M l=_ from if_neg (fun h=>hq h.1)];exact⟨D,⟨rfl,rfl,_,_,_,⟨rfl,rfl⟩,h⟩,fun _ hk=>hk⟩
theorem PA{m:Sw}(hM:C.M.Ok)(hm:m.Ok)(hr: ∀a,Bf (ld l a))(hn:m.next= .take):U3 C d m l (m.Au C.M l).1 (m.Au C.M l).2:=by
 obtain⟨Ah,w,part,v,DV,push,Ae,nx⟩:=m;obtain rfl:nx= .take:=hn;rintro pv nv RN ⟨rfl,rfl⟩;refine⟨146,[AX d],[],rfl,wn,?_⟩;refine Ci 60 Tryz.func146 Z (Ac Aa _) fun w0 D0=>Gu Aa<|AZ 6 [] Z<|CB Z Cz (Q4 Aa hm.w) Aa<|AY 14 [8] Z<|Ey 15 0 16384 (by kernel_rfl)<|AP 5 [] Z<|CB Z kB (YT) Aa<|AP 6 [] Z<|BU Z (RX _)<|CB Z iX (UR (TS hm.w) (Kv _)) Aa<|Ls Z ry (Si Aa (Oz (TS hm.w) (Kv _))) Aa Aw<|X.nil<|T.cond Z ?_ ?_
 ·intro hb0;refine AZ 4 [32] Z<|Ic Z DY Gj (KR (KF _))<|AY 5 [] Z<|Ey 20 8194 589824 (by kernel_rfl)<|AP 10 [] Z<|CB Z wq (OP Aa hM) Aa<|AP 5 [] Z<|KQ Z o3 Z .z Z .z (Nt Z Z Z (Bv Z Aw))<|AP 2 [] Z<|KQ Z o3 Z .z Z .z (Aj (by kernel_rfl) (Aj (by kernel_rfl) Aw))<|AP 4 [32] Z<|OT (H1:=[]) (H2:=_::_) Z N' Z (pI Aa) Aa<|AY 4 [] Z<|T.BJ Z fun W D h=>?_
  rw[show(⟨Ah,w,part,v,DV,push,Ae,.take⟩:Sw).Au C.M l=_ from if_pos hb0];exact⟨D,⟨rfl,rfl,_,_,_,U0 rfl,h⟩,fun _ hk=>hk⟩
 intro hb0;refine T.skip<|T.BJ Z fun W D h=>?_
 rw[show(⟨Ah,w,part,v,DV,push,Ae,.take⟩:Sw).Au C.M l=_ from if_neg (by rw[hb0];exact Bool.false_ne_true)];exact⟨D,⟨rfl,rfl,_,_,_,⟨rfl,rfl⟩,h⟩,fun _ hk=>hk⟩
theorem D4{m:Sw}(hM:C.M.Ok)(hm:m.Ok)(hr: ∀a,Bf (ld l a))(hn:m.next= .state):U3 C d m l (m.Au C.M l).1 (m.Au C.M l).2:=by
 obtain⟨Ah,w,part,v,DV,push,Ae,nx⟩:=m;obtain rfl:nx= .state:=hn;have hv:0≤v∧v≤1000:=by have h1:v≤DV:=hm.vl (by simp);have h2:DV≤60:=hm.DV;have h3:0≤v:=hm.v.1;omega
 rintro pv nv RN ⟨rfl,rfl⟩;refine⟨201,[AX d],[],rfl,wt,?_⟩;refine Ci 23 Tryz.func201 Z (Ac Aa _) fun w0 D0=>Gu Aa<|CW 2 [] Z<|Ey 12 0 0 (by kernel_rfl)<|AP 9 [] Z<|CB Z ky (Q3) Aa<|CB Z UT (EH Aa) Aa<|AY 2 [] Z<|T.cond Z ?_ ?_
 ·intro hb0;refine CW 9 [32] Z<|T.J6 Z fun W D h=>?_
  rw[show(⟨Ah,w,part,v,DV,push,Ae,.state⟩:Sw).Au C.M l=_ from if_pos (eq_of_beq hb0)];exact⟨D,⟨rfl,rfl,_,_,_,⟨rfl,rfl⟩,h⟩,fun _ hk=>hk⟩
 intro hb0;refine AZ 3 [2] Z<|Kt (H1:=[]) (H2:=_::_) (Ju:=_::_) Z kO Z (jF Aa hv) Aa Z Aw<|X.nil<|T.BJ Z fun W D h=>?_
 rw[show(⟨Ah,w,part,v,DV,push,Ae,.state⟩:Sw).Au C.M l=_ from if_neg (ne_of_beq_false hb0)];exact⟨D,⟨rfl,rfl,_,_,_,U0 rfl,h⟩,fun _ hk=>hk⟩
theorem PC{m:Sw}(hM:C.M.Ok)(hm:m.Ok)(hr: ∀a,Bf (ld l a))(hn:m.next= .mark):U3 C d m l (m.Au C.M l).1 (m.Au C.M l).2:=by
 obtain⟨Ah,w,part,v,DV,push,Ae,nx⟩:=m;obtain rfl:nx= .mark:=hn;have hv:0≤v∧v≤1000:=by have h1:v≤DV:=hm.vl (by simp);have h2:DV≤60:=hm.DV;have h3:0≤v:=hm.v.1;omega
 rintro pv nv RN ⟨rfl,rfl⟩;refine⟨223,[AX d],[],rfl,wx,?_⟩;refine Ci 27 Tryz.func223 Z (Ac Aa _) fun w0 D0=>Gu Aa<|CW 2 [] Z<|Ey 16 0 0 (by kernel_rfl)<|AP 9 [] Z<|CB Z N1 (XZ) Aa<|CB Z UT (EH Aa) Aa<|AY 6 [] Z<|T.cond Z ?_ ?_
 ·intro hb0;refine CW 9 [32] Z<|T.J6 Z fun W D h=>?_
  rw[show(⟨Ah,w,part,v,DV,push,Ae,.mark⟩:Sw).Au C.M l=_ from if_pos (of_decide_eq_true hb0)];exact⟨D,⟨rfl,rfl,_,_,_,⟨rfl,rfl⟩,h⟩,fun _ hk=>hk⟩
 intro hb0;refine AZ 3 [2] Z<|Kt (H1:=[]) (H2:=_::_) (Ju:=_::_) Z kO Z (jF Aa hv) Aa Z Aw<|X.nil<|T.BJ Z fun W D h=>?_
 rw[show(⟨Ah,w,part,v,DV,push,Ae,.mark⟩:Sw).Au C.M l=_ from if_neg (of_decide_eq_false hb0)];exact⟨D,⟨rfl,rfl,_,_,_,U0 rfl,h⟩,fun _ hk=>hk⟩
theorem PF{m:Sw}(hM:C.M.Ok)(hm:m.Ok)(hr: ∀a,Bf (ld l a))(hn:m.next= .free):U3 C d m l (m.Au C.M l).1 (m.Au C.M l).2:=by
 obtain⟨Ah,w,part,v,DV,push,Ae,nx⟩:=m;obtain rfl:nx= .free:=hn;have hv:0≤v∧v≤1000:=by have h1:v≤DV:=hm.vl (by simp);have h2:DV≤60:=hm.DV;have h3:0≤v:=hm.v.1;omega
 rintro pv nv RN ⟨rfl,rfl⟩;refine⟨241,[AX d],[],rfl,wy,?_⟩;exact Ci 55 Tryz.func241 Z (Ac Aa _) fun w0 D0=>Gu Aa<|T.seq<|Ey 11 0 1024 (by kernel_rfl)<|AP 9 [] Z<|CB Z ky (Q3) Aa<|Ls Z Q7 (Jw Aa (by omega)) Aa Aw<|AP 8 [256] Z<|Fp Z LW Ih Z<|AY 5 [] Z<|Ey 28 1 150994944 (by kernel_rfl)<|AP 13 [] Z<|CB Z g37 (UY Aa hM (show v≤9223372036854775807 by omega)) Aa<|CB Z lf (UO) Aa<|AP 9 [] Z<|UF Z fL (V6 (node:=true) (show EW v by unfold EW;omega)) (fun _=>Ez) (fun _=>(Bv Z Aw)) fun q0=>AP 2 [] Z<|KQ Z fT Z .z Z .z (Aj (by kernel_rfl) Aw)<|AY 9 [32] Z<|T.BJ Z fun W D h=>⟨D,⟨rfl,rfl,_,_,_,⟨rfl,_,rfl,rfl⟩,h⟩,fun _ hk=>hk⟩
theorem PJ{m:Sw}(hM:C.M.Ok)(hm:m.Ok)(hr: ∀a,Bf (ld l a))(hn:m.next= .MW):U3 C d m l (m.Au C.M l).1 (m.Au C.M l).2:=by
 obtain⟨Ah,w,part,v,DV,push,Ae,nx⟩:=m;obtain rfl:nx= .MW:=hn;have hv:0≤v∧v≤1000:=by have h1:v≤DV:=hm.vl (by simp);have h2:DV≤60:=hm.DV;have h3:0≤v:=hm.v.1;omega
 rintro pv nv RN ⟨rfl,q,rfl,rfl⟩;refine⟨252,[AX d],[],rfl,xa,?_⟩;refine Ci 12 Tryz.func252 Z (Ac Ez _) fun w0 D0=>Gu Ez<|AZ 7 [32] Z<|Ls Z xS (dR hm.push hr) Ez Aw<|X.nil<|T.cond Z ?_ ?_
 ·intro hb0;refine AZ 2 [2] Z<|Kt (H1:=[]) (H2:=_::_) (Ju:=_::_) Z kO Z (jF Ez hv) Ez Z Aw<|X.nil<|T.BJ Z fun W D h=>?_
  rw[show(⟨Ah,w,part,v,DV,push,Ae,.MW⟩:Sw).Au C.M l=_ from if_pos (of_decide_eq_true hb0)];obtain⟨D1,h1,h2⟩:=Eo h;exact⟨D1,⟨rfl,rfl,_,_,_,U0 rfl,h1⟩,h2⟩
 intro hb0;refine T.skip<|T.BJ Z fun W D h=>?_
 rw[show(⟨Ah,w,part,v,DV,push,Ae,.MW⟩:Sw).Au C.M l=_ from if_neg (of_decide_eq_false hb0)];exact⟨D,⟨rfl,rfl,_,_,_,⟨rfl,_,rfl,rfl⟩,h⟩,fun _ hk=>hk⟩
theorem PP{m:Sw}(hM:C.M.Ok)(hm:m.Ok)(hr: ∀a,Bf (ld l a))(hn:m.next= .done):U3 C d m l (m.Au C.M l).1 (m.Au C.M l).2:=by
 obtain⟨Ah,w,part,v,DV,push,Ae,nx⟩:=m;obtain rfl:nx= .done:=hn;rintro pv nv RN ⟨rfl,rfl⟩;refine⟨202,[AX d],[],rfl,ww,?_⟩;exact Ci 22 Tryz.func202 Z (Ac Aa _) fun w0 D0=>Gu Aa<|AZ 7 [64] Z<|CB Z kI (iL) Aa<|Ls Z CR (YS Aa) Aa Aw<|AP 8 [256] Z<|Fp Z LW Ih Z<|AY 10 [0,8] Z<|T.BJ Z fun W D h=>⟨D,⟨rfl,rfl,_,_,_,⟨rfl,rfl⟩,h⟩,fun _ hk=>hk⟩
theorem lB{m:Sw}(hM:C.M.Ok)(hm:m.Ok)(hr: ∀a,Bf (ld l a))(hn:m.next≠ .nil):U3 C d m l (m.Au C.M l).1 (m.Au C.M l).2:=by
 cases h:m.next with
 |nil=>exact(hn h).elim
 |DZ=>exact Pw hM hm hr h
 |take=>exact PA hM hm hr h
 |state=>exact D4 hM hm hr h
 |mark=>exact PC hM hm hr h
 |free=>exact PF hM hm hr h
 |MW=>exact PJ hM hm hr h
 |done=>exact PP hM hm hr h
theorem Sw.G9{m:Sw}(hm:m.Ok):({m with Ae:=BH}:Sw).Ok:=⟨hm.Ah,hm.w,hm.v,hm.DV,hm.push,hm.vl⟩
theorem wu{m:Sw}(hM:C.M.Ok)(hm:m.Ok)(hr: ∀a,Bf (ld l a)):Cv C 289 [AX d,AX C.s] l (Bs C d m) (.bool (decide ((m.step C.M l).1.next= .nil))) (m.step C.M l).2 (Bs C d (m.step C.M l).1):=by
 by_cases hn:m.next= .nil
 ·have e:m.step C.M l=({m with Ae:=BH},l):=by unfold Sw.step Sw.Au;rw[show({m with Ae:=BH}:Sw).next= .nil from hn]
  rw[e,show decide (({m with Ae:=BH}:Sw).next= .nil)=true from decide_eq_true hn];exact lA hn
 exact Pu (lB hM (Sw.G9 hm) hr hn)
theorem Sw.Ek{m:Sw}(h:m.Ok)(hv:m.v≤m.DV):(m.on).Ok:=by
 have h1:=h.DV;have h2:=h.v;refine⟨h.Ah,h.w,by simp only[Sw.on];omega,h.DV,h.push,fun hx=>?_⟩;simp only[Sw.on] at hx⊢
 split at hx
 ·assumption
 simp at hx
theorem St.jD{h:Int}{n:Bool}{v:Int}(hv:EW v):(St.push h n v).Ok:=⟨hv,by unfold Bf;simp[St.push],by unfold EW;simp[St.push]⟩
theorem Sw.Ef(hM:M.Ok){m:Sw}(hm:m.Ok)(hr: ∀a,Bf (ld l a)):(m.step M l).1.Ok:=by
 have h1:=St.Ef (M:=M) hm.push hr;unfold Sw.step Sw.Au;split
 ·exact Sw.G9 hm
 ·split<;>exact⟨hm.Ah,hr _,hm.v,hm.DV,hm.push,by simp⟩
 ·split
  ·refine⟨hm.Ah,hm.w,vz hM _,DQ hM _,hm.push,fun hx=>?_⟩;simp only at hx⊢
   split at hx
   ·assumption
   simp at hx
  exact⟨hm.Ah,hm.w,hm.v,hm.DV,hm.push,by simp⟩
 ·rename_i hn;have hv:=hm.vl (.inl hn);split
  ·exact⟨hm.Ah,hm.w,hm.v,hm.DV,hm.push,fun _=>hv⟩
  exact Sw.Ek (Sw.G9 hm) hv
 ·rename_i hn;have hv:=hm.vl (.inr (.inl hn));split
  ·exact⟨hm.Ah,hm.w,hm.v,hm.DV,hm.push,fun _=>hv⟩
  exact Sw.Ek (Sw.G9 hm) hv
 ·rename_i hn;have hv:=hm.vl (.inr (.inr (.inl hn)));have h2:=hm.DV;have h3:=hm.v;exact⟨hm.Ah,hm.w,hm.v,hm.DV,St.jD (by unfold EW;simp only;omega),fun _=>hv⟩
 ·rename_i hn;have hv:=hm.vl (.inr (.inr (.inr hn)));split
  ·exact Sw.Ek (m:={m with Ae:=BH,push:=(m.push.step M l).1}) ⟨hm.Ah,hm.w,hm.v,hm.DV,h1,fun _=>hv⟩ hv
  exact⟨hm.Ah,hm.w,hm.v,hm.DV,h1,fun _=>hv⟩
 exact⟨hm.Ah,hm.w,hm.v,hm.DV,hm.push,by simp⟩
theorem Sw.D8{m:Sw}(hm:m.Ok)(hr:Nc l):Nc (m.step M l).2:=by
 have h1:=St.D8 (M:=M) hm.push hr;unfold Sw.step Sw.Au;split<;>(try split)<;>first|exact hr|exact hr.XG|exact h1|exact hr.KL (Oz (TS hm.w) (Kv _))|exact hr.put (by unfold Bf;omega)
theorem El{c:Int}:Cn C 88 [AX C.m,.int .u64 c] l Cj l (fun q=>Bs C q (.new c)):=by
 exact Ci 18 Tryz.func88 Z Aa fun w0 D0=>AZ 8 [0,8] Z<|Fp Z xc xd Z<|F7 Z CE fun b0=>AP 6 [] Z<|iW Z Z Z Z PK<|AY 15 [32] Z<|T.BC Z fun W D h=>⟨D,⟨_,rfl,rfl,_,_,_,⟨rfl,rfl⟩,h⟩,fun _ hk=>hk⟩
theorem Sw.Ha{c:Int}(h:Bf c):(Sw.new c).Ok:=⟨h,by unfold Bf;simp[Sw.new],by simp[Sw.new],by simp[Sw.new],⟨by unfold EW;simp[Sw.new,sT],by unfold Bf;simp[Sw.new,sT],by unfold EW;simp[Sw.new,sT]⟩,by simp[Sw.new]⟩
def Mk.cs(C:Cx)(x:Mk)(dv sv wv nv:Value):List Value:=
 [AX C.m,.int .i64 x.i,dv,sv,wv,.int .i64 x.FY.BI,.int .i64 x.FY.at_,.int .i64 x.FY.Bq,.int .u64 x.BN,.bool x.has,.int .i64 x.Ae.kind,.int .i64 x.Ae.Di,.int .i64 x.Ae.a,.int .i64 x.Ae.b,.int .i64 x.Ae.c,nv]
def pJ(C:Cx)(d:Nat)(x:Mk)(dv sv wv nv:Value)(RN:BB):Prop:=match x.next with
 | .DZ=>nv=fm 58 d∧RN=Cj
 | .QU=>nv=fm 87 d∧ ∃q,sv=AX q∧RN=wF C q x.Hq
 | .Ym=>nv=fm 110 d∧RN=Cj
 | .Ee=>nv=fm 89 d∧ ∃q,wv= .iface 208 (AX q)∧RN=bI C q x.AU
 | .EN=>nv=fm 89 d∧ ∃q,wv= .iface 163 (AX q)∧RN=Bs C q x.AO
theorem LD{m:Mk}{dv wv:Value}(nv:Value)(RN:BB)(h:pJ C d m dv sv wv nv RN):CV RN:=by
 unfold pJ at h;split at h<;>first
  |(obtain⟨-,rfl⟩:=h;exact Aa)
  |(obtain⟨-,q,-,rfl⟩:=h;first|exact Gz|exact G8|exact Jn)
structure Mk.Ok (M:Bz) (m:Mk):Prop where
 i:0≤m.i∧m.i<M.Ai
 Hq:m.Hq.Ok M
 AU:m.AU.Ok M
 AO:m.AO.Ok
 BI:EW m.FY.BI
 BN:Bf m.BN
theorem P0{x:Mk}{dv wv:Value}(h:x.next= .DZ):pJ C d x dv sv wv (fm 58 d) Cj:=by unfold pJ;rw[h];exact⟨rfl,rfl⟩
theorem P3{x:Mk}{dv wv:Value}(h:x.next= .Ym):pJ C d x dv sv wv (fm 110 d) Cj:=by unfold pJ;rw[h];exact⟨rfl,rfl⟩
theorem lE (q : Nat) (w : World) : (method (Tryz.prog.types.size + Made.depth) 208 (AX q) "Step").run Tryz.prog w = .ok (291, AX q) w := by kernel_rfl
theorem Qf (q : Nat) (w : World) : (method (Tryz.prog.types.size + Made.depth) 208 (AX q) "Event").run Tryz.prog w = .ok (290, AX q) w := by kernel_rfl
theorem lO (q : Nat) (w : World) : (method (Tryz.prog.types.size + Made.depth) 163 (AX q) "Step").run Tryz.prog w = .ok (289, AX q) w := by kernel_rfl
theorem Qt (q : Nat) (w : World) : (method (Tryz.prog.types.size + Made.depth) 163 (AX q) "Event").run Tryz.prog w = .ok (288, AX q) w := by kernel_rfl
def Uj(C:Cx)(d:Nat)(m:Mk):BB:=fun D w=> ∃dv:Value,∃sv:Value,∃wv:Value,uF 125 d (m.cs C dv sv wv) (pJ C d m dv sv wv) D w
theorem HY{m:Mk}:CV (Uj C d m):=AQ fun _=>AQ fun _=>AQ fun _=>Bd LD
def Zf(C:Cx)(d:Nat)(m:Mk)(dr:Int)(l:Dk)(m':Mk)(l':Dk):Prop:= ∀(dv:Value) (sv:Value) (wv:Value) nv RN,pJ C d m dv sv wv nv RN→ ∃KZ fs cs,nv= .func (.func KZ) (List.toArray fs) (List.toArray cs)∧Cm KZ=true∧Cv C KZ (fs++[AX C.s,.int .i64 dr]++cs) l (Az [⟨d,125,m.cs C dv sv wv nv⟩] RN) (.tuple #[]) l' (Uj C d m')
theorem xf:Cm 107=true:=by kernel_rfl
theorem xi:Cm 108=true:=by kernel_rfl
theorem xj:Cm 109=true:=by kernel_rfl
theorem xl:Cm 110=true:=by kernel_rfl
theorem xo:Cm 142=true:=by kernel_rfl
theorem xp:Cm 288=true:=by kernel_rfl
theorem xr:Cm 289=true:=by kernel_rfl
theorem xt:Cm 290=true:=by kernel_rfl
theorem xz:Cm 291=true:=by kernel_rfl
theorem g58:Cm 58=true:=by kernel_rfl
theorem yb:Cm 82=true:=by kernel_rfl
theorem li:Cm 83=true:=by kernel_rfl
theorem g84:Cm 84=true:=by kernel_rfl
theorem g85:Cm 85=true:=by kernel_rfl
theorem lP:Cm 86=true:=by kernel_rfl
theorem g87:Cm 87=true:=by kernel_rfl
theorem g88:Cm 88=true:=by kernel_rfl
theorem g89:Cm 89=true:=by kernel_rfl
theorem yd:Jv 125 [(0,1),(1,1),(2,1),(3,1),(4,1),(5,3),(8,1),(9,1),(10,5),(15,1)]=true:=by kernel_rfl
theorem ye:one 118=true:=by kernel_rfl
theorem yk:one 120=true:=by kernel_rfl
theorem wz:Ec 123 (aU)=true:=by kernel_rfl
theorem bJ:Ec 163 (MZ)=true:=by kernel_rfl
theorem bK:Ec 208 (MZ)=true:=by kernel_rfl
theorem yn:LU 125=some [.pointer none,.int .i64 0,.int .i64 0,.pointer none,.nilIface,.int .i64 0,.int .i64 0,.int .i64 0,.int .u64 0,.bool false,.int .i64 0,.int .i64 0,.int .i64 0,.int .i64 0,.int .i64 0,.nilFunc]:=by kernel_rfl
theorem eG{p:Int}:Cv C 84 [.int .i64 p] l Cj (.bool (decide (p=3∨p=4))) l Cj:=by
 refine Ci 9 Tryz.func84 Z Aa fun w0 D0=>CW 5 [] Z ?_
 by_cases hq:p=3
 ·skip;refine AZ 2 [] Z<|Du (c:=true) Z (beq_iff_eq.2 hq)<|AP 3 [] Z<|Hz Z<|AY 2 [] Z<|T.BC Z fun W D h=>?_
  rw[show decide (p=3∨p=4)=true by simp[hq]];exact⟨D,⟨rfl,rfl,h⟩,fun _ hk=>hk⟩
 skip;refine AZ 2 [] Z<|Du (c:=false) Z (beq_eq_false_iff_ne.2 hq)<|AP 2 [] Z<|Du (c:=decide (p=4)) Z (by simp only[TR];rfl)<|Hz Z<|AY 2 [] Z<|T.BC Z fun W D h=>?_
 rw[show decide (p=3∨p=4)=decide (p=4) by simp[hq]];exact⟨D,⟨rfl,rfl,h⟩,fun _ hk=>hk⟩
theorem KI{R:BB}(hl:CV R){a0 a1 a2 a3 a4 a5 a6 a7 a8 a9 a10 a11 a12 Zb Zc aQ:Value}{k:Int}{f:Fn}{p q:Array Value}:Cv C 86 [AX d,.int .i64 k,.func f p q] l (Az (⟨d,125,[a0,a1,a2,a3,a4,a5,a6,a7,a8,a9,a10,a11,a12,Zb,Zc,aQ]⟩::Hx) R) (.tuple #[]) l (Az (⟨d,125,[a0,a1,.int .i64 k,a3,a4,a5,a6,a7,a8,a9,a10,a11,a12,Zb,Zc,.func f p q]⟩::Hx) R):=by
 exact Ci 14 Tryz.func86 Z (Ac hl _) fun w0 D0=>VY hl<|CW 12 [576] Z<|T.BJ Z fun W D h=>⟨D,⟨rfl,rfl,h⟩,fun _ hk=>hk⟩
theorem X4{m:Mk}(hM:C.M.Ok)(hm:m.Ok C.M)(hr: ∀a,Bf (ld l a))(he:m.Ae=BH)(hn:m.next= .DZ):Zf C d m dr l (m.step C.M l dr).1 (m.step C.M l dr).2:=by
 obtain⟨i,Hq,AU,AO,⟨bp,ba,bm⟩,BN,has,Ae,nx⟩:=m;obtain rfl:Ae=BH:=he;obtain rfl:nx= .DZ:=hn;rintro dv sv wv nv RN ⟨rfl,rfl⟩;refine⟨58,[AX d],[],rfl,g58,?_⟩;refine Ci 60 Tryz.func58 Z (Ac Aa _) fun w0 D0=>Gu Aa<|AZ 7 [] Z<|CB Z li (UM) Aa<|CB Z UT (EH Aa) Aa<|CB Z yb (YW Aa (hr _)) Aa<|AY 6 [] Z<|T.block<|AZ 3 [] Z<|CB Z g84 (Cv.frame Aa eG) Aa<|AY 2 [] Z<|T.cond Z ?_ ?_
 ·intro hb0;refine T.seq<|Ey 18 1 147456 (by kernel_rfl)<|AP 14 [] Z<|UF Z g85 (DO (b:=⟨bp,ba,bm⟩) hM hm.i) (fun _=>Gz) (fun _=>(Bv Z Aw)) fun q0=>AP 2 [] Z<|KQ Z ye Z .z Z .z (Aj (by kernel_rfl) Aw)<|AP 5 [8] Z<|Kt (H1:=[]) (H2:=_::_) (Ju:=_::_) Z lP Z (KI Gz) Gz Z Aw<|X.nil<|T.Bj<|T.BJ Z fun W D h=>?_
  rw[show(⟨i,Hq,AU,AO,⟨bp,ba,bm⟩,BN,has,BH,.DZ⟩:Mk).step C.M l dr=_ from if_pos (of_decide_eq_true hb0)];exact⟨D,⟨rfl,rfl,_,_,_,_,_,⟨rfl,_,rfl,rfl⟩,h⟩,fun _ hk=>hk⟩
 intro hb0;refine CW 6 [] Z<|T.cond Z ?_ ?_
 ·intro hb1;refine AZ 8 [1088] Z<|UF Z g88 (El) (fun _=>Jn) CE fun q1=>eE Z Z Z bJ<|AP 8 [0,8] Z<|Kt (H1:=[]) (H2:=_::_) (Ju:=_::_) Z lP Z (KI Jn) Jn Z Aw<|X.nil<|T.Bj<|T.BJ Z fun W D h=>?_
  rw[show(⟨i,Hq,AU,AO,⟨bp,ba,bm⟩,BN,has,BH,.DZ⟩:Mk).step C.M l dr=_ from(if_neg (of_decide_eq_false hb0)).trans (if_pos (eq_of_beq hb1))];exact⟨D,⟨rfl,rfl,_,_,_,_,_,⟨rfl,_,rfl,rfl⟩,h⟩,fun _ hk=>hk⟩
 intro hb1;refine T.skip<|T.Bj<|T.BJ Z fun W D h=>?_
 rw[show(⟨i,Hq,AU,AO,⟨bp,ba,bm⟩,BN,has,BH,.DZ⟩:Mk).step C.M l dr=_ from(if_neg (of_decide_eq_false hb0)).trans (if_neg (ne_of_beq_false hb1))];exact⟨D,⟨rfl,rfl,_,_,_,_,_,⟨rfl,rfl⟩,h⟩,fun _ hk=>hk⟩
theorem U4{m:Mk}(hM:C.M.Ok)(hm:m.Ok C.M)(hr: ∀a,Bf (ld l a))(he:m.Ae=BH)(hn:m.next= .QU):Zf C d m dr l (m.step C.M l dr).1 (m.step C.M l dr).2:=by
 obtain⟨i,Hq,AU,AO,⟨bp,ba,bm⟩,BN,has,Ae,nx⟩:=m;obtain rfl:Ae=BH:=he;obtain rfl:nx= .QU:=hn;rintro dv sv wv nv RN ⟨rfl,q,rfl,rfl⟩;refine⟨87,[AX d],[],rfl,g87,?_⟩;refine Ci 47 Tryz.func87 Z (Ac Gz _) fun w0 D0=>Gu Gz<|AZ 8 [32] Z<|Ls Z xf (vk hM hm.Hq hr) Gz Aw<|QO Z Z Z<|X.nil<|T.cond Z ?_ ?_
 ·intro hb0;refine T.J6 Z fun W D h=>?_
  have hn: ¬(Hq.step C.M l).1.next= .nil:=by simpa using hb0
  rw[show(⟨i,Hq,AU,AO,⟨bp,ba,bm⟩,BN,has,BH,.QU⟩:Mk).step C.M l dr=_ from if_neg hn];exact⟨D,⟨rfl,rfl,_,_,_,_,_,⟨rfl,_,rfl,rfl⟩,h⟩,fun _ hk=>hk⟩
 intro hb0;have hn0:(Hq.step C.M l).1.next= .nil:=by simpa using hb0
 refine AZ 8 [256] Z<|CB Z xi (kA) Gz<|AP 12 [0,36864] Z<|CB Z xj (Pt) Gz<|AP 15 [0,0,8] Z<|Kt (H1:=[]) (H2:=_::_) (Ju:=_::_) Z lP Z (KI Gz) Gz Z Aw<|AY 8 [] Z<|T.cond Z ?_ ?_
 ·intro hb1;refine AZ 4 [8] Z<|Kt (H1:=[]) (H2:=_::_) (Ju:=_::_) Z lP Z (KI Gz) Gz Z Aw<|X.nil<|T.BJ Z fun W D h=>?_
  rw[show(⟨i,Hq,AU,AO,⟨bp,ba,bm⟩,BN,has,BH,.QU⟩:Mk).step C.M l dr=_ from if_pos hn0];obtain⟨D1,h1,h2⟩:=Eo h;exact⟨D1,⟨rfl,rfl,_,_,_,_,_,P3 (if_pos hb1),h1⟩,h2⟩
 intro hb1;refine T.skip<|T.BJ Z fun W D h=>?_
 rw[show(⟨i,Hq,AU,AO,⟨bp,ba,bm⟩,BN,has,BH,.QU⟩:Mk).step C.M l dr=_ from if_pos hn0];obtain⟨D1,h1,h2⟩:=Eo h;exact⟨D1,⟨rfl,rfl,_,_,_,_,_,P0 (if_neg (by rw[hb1];exact Bool.false_ne_true)),h1⟩,h2⟩
theorem X5{m:Mk}(hM:C.M.Ok)(hm:m.Ok C.M)(hr: ∀a,Bf (ld l a))(he:m.Ae=BH)(hn:m.next= .Ym):Zf C d m dr l (m.step C.M l dr).1 (m.step C.M l dr).2:=by
 obtain⟨i,Hq,AU,AO,⟨bp,ba,bm⟩,BN,has,Ae,nx⟩:=m;obtain rfl:Ae=BH:=he;obtain rfl:nx= .Ym:=hn;rintro dv sv wv nv RN ⟨rfl,rfl⟩;refine⟨110,[AX d],[],rfl,xl,?_⟩;refine Ci 43 Tryz.func110 Z (Ac Aa _) fun w0 D0=>Gu Aa<|AZ 7 [] Z<|CB Z li (UM) Aa<|CB Z UT (EH Aa) Aa<|CB Z yb (YW Aa (hr _)) Aa<|AP 9 [] Z<|CB Z g84 (Cv.frame Aa eG) Aa<|X.nil<|T.cond Z ?_ ?_
 ·intro hb0;refine T.seq<|Ey 19 1 278528 (by kernel_rfl)<|AP 14 [] Z<|UF Z xo (Ds hm.BN) (fun _=>G8) (fun _=>(Bv Z Aw)) fun q0=>eE Z Z Z bK<|AP 2 [] Z<|KQ Z yk Z .z Z .z (Aj (by kernel_rfl) Aw)<|AP 5 [8] Z<|Kt (H1:=[]) (H2:=_::_) (Ju:=_::_) Z lP Z (KI G8) G8 Z Aw<|X.nil<|T.BJ Z fun W D h=>?_
  rw[show(⟨i,Hq,AU,AO,⟨bp,ba,bm⟩,BN,has,BH,.Ym⟩:Mk).step C.M l dr=_ from if_pos (of_decide_eq_true hb0)];exact⟨D,⟨rfl,rfl,_,_,_,_,_,⟨rfl,_,rfl,rfl⟩,h⟩,fun _ hk=>hk⟩
 intro hb0;refine T.skip<|T.BJ Z fun W D h=>?_
 rw[show(⟨i,Hq,AU,AO,⟨bp,ba,bm⟩,BN,has,BH,.Ym⟩:Mk).step C.M l dr=_ from if_neg (of_decide_eq_false hb0)];exact⟨D,⟨rfl,rfl,_,_,_,_,_,⟨rfl,rfl⟩,h⟩,fun _ hk=>hk⟩
theorem Zg{m:Mk}(hM:C.M.Ok)(hm:m.Ok C.M)(hr: ∀a,Bf (ld l a))(he:m.Ae=BH)(hn:m.next= .Ee):Zf C d m dr l (m.step C.M l dr).1 (m.step C.M l dr).2:=by
 obtain⟨i,Hq,AU,AO,⟨bp,ba,bm⟩,BN,has,Ae,nx⟩:=m;obtain rfl:Ae=BH:=he;obtain rfl:nx= .Ee:=hn;rintro dv sv wv nv RN ⟨rfl,q,rfl,rfl⟩;refine⟨89,[AX d],[],rfl,g89,?_⟩;refine Ci 32 Tryz.func89 Z (Ac G8 _) fun w0 D0=>Gu G8<|AZ 7 [32] Z<|CH Z Z Z Z xz (fun w=>lE _ w) (uy hM hm.AU hr) G8 Aw<|AP 9 [288] Z<|CH Z Z Z Z xt (fun w=>Qf _ w) (Do) G8 Aw<|AY 8 [] Z<|T.cond Z ?_ ?_
 ·intro hb0;refine AZ 15 [144,0,0,8] Z<|Kt (H1:=[]) (H2:=_::_) (Ju:=_::_) Z lP Z (KI G8) G8 Z Aw<|X.nil<|T.BJ Z fun W D h=>?_
  rw[show(⟨i,Hq,AU,AO,⟨bp,ba,bm⟩,BN,has,BH,.Ee⟩:Mk).step C.M l dr=_ from if_pos (of_decide_eq_true hb0)];obtain⟨D1,h1,h2⟩:=Eo h;exact⟨D1,⟨rfl,rfl,_,_,_,_,_,⟨rfl,rfl⟩,h1⟩,h2⟩
 intro hb0;refine T.skip<|T.BJ Z fun W D h=>?_
 rw[show(⟨i,Hq,AU,AO,⟨bp,ba,bm⟩,BN,has,BH,.Ee⟩:Mk).step C.M l dr=_ from if_neg (of_decide_eq_false hb0)];exact⟨D,⟨rfl,rfl,_,_,_,_,_,⟨rfl,_,rfl,rfl⟩,h⟩,fun _ hk=>hk⟩
theorem Wi{m:Mk}(hM:C.M.Ok)(hm:m.Ok C.M)(hr: ∀a,Bf (ld l a))(he:m.Ae=BH)(hn:m.next= .EN):Zf C d m dr l (m.step C.M l dr).1 (m.step C.M l dr).2:=by
 obtain⟨i,Hq,AU,AO,⟨bp,ba,bm⟩,BN,has,Ae,nx⟩:=m;obtain rfl:Ae=BH:=he;obtain rfl:nx= .EN:=hn;rintro dv sv wv nv RN ⟨rfl,q,rfl,rfl⟩;refine⟨89,[AX d],[],rfl,g89,?_⟩;refine Ci 32 Tryz.func89 Z (Ac Jn _) fun w0 D0=>Gu Jn<|AZ 7 [32] Z<|CH Z Z Z Z xr (fun w=>lO _ w) (wu hM hm.AO hr) Jn Aw<|AP 9 [288] Z<|CH Z Z Z Z xp (fun w=>Qt _ w) (DS) Jn Aw<|AY 8 [] Z<|T.cond Z ?_ ?_
 ·intro hb0;refine AZ 15 [144,0,0,8] Z<|Kt (H1:=[]) (H2:=_::_) (Ju:=_::_) Z lP Z (KI Jn) Jn Z Aw<|X.nil<|T.BJ Z fun W D h=>?_
  rw[show(⟨i,Hq,AU,AO,⟨bp,ba,bm⟩,BN,has,BH,.EN⟩:Mk).step C.M l dr=_ from if_pos (of_decide_eq_true hb0)];obtain⟨D1,h1,h2⟩:=Eo h;exact⟨D1,⟨rfl,rfl,_,_,_,_,_,⟨rfl,rfl⟩,h1⟩,h2⟩
 intro hb0;refine T.skip<|T.BJ Z fun W D h=>?_
 rw[show(⟨i,Hq,AU,AO,⟨bp,ba,bm⟩,BN,has,BH,.EN⟩:Mk).step C.M l dr=_ from if_neg (of_decide_eq_false hb0)];exact⟨D,⟨rfl,rfl,_,_,_,_,_,⟨rfl,_,rfl,rfl⟩,h⟩,fun _ hk=>hk⟩
theorem Q0{m m':Mk}(hrun:Zf C d {m with Ae:=BH} dr l m' l'):Cv C 63 [AX d,AX C.s,.int .i64 dr] l (Uj C d m) (.tuple #[]) l' (Uj C d m'):=by
 refine Ci 26 Tryz.func63 Z HY fun w0 D0=>T.ex (fun _=>AQ fun _=>AQ fun _=>Bd LD) ?_
 intro dv;refine T.ex (fun _=>AQ fun _=>Bd LD) ?_;intro sv;refine T.ex (fun _=>Bd LD) ?_;intro wv;refine T.MX (H:=[]) LD ?_;intro nv RN hN hl;obtain⟨KZ,fs,cs,rfl,hg,hc⟩:=hrun dv sv wv nv RN hN;exact AZ 10 [] Z<|zF Z Z Z Z wz<|Hz Z<|AP 6 [16] Z<|Fp Z LW Ih Z<|AP 11 [0,64] Z<|RV (H1:=[]) (H2:=[_]) Z hg Z hc HY Aw<|X.nil<|T.BJ Z fun W D h=>⟨D,⟨rfl,rfl,h⟩,fun _ hk=>hk⟩
theorem pK{m:Mk}:Cv C 285 [AX d] l (Uj C d m) (.agg m.Ae.cells.toArray) l (Uj C d m):=by
 refine Ci 10 Tryz.func285 Z HY fun w0 D0=>T.ex (fun _=>AQ fun _=>AQ fun _=>Bd LD) ?_
 intro dv;refine T.ex (fun _=>AQ fun _=>Bd LD) ?_;intro sv;refine T.ex (fun _=>Bd LD) ?_;intro wv;refine T.MX (H:=[]) LD ?_;intro nv RN hN hl;refine AZ 2 [1] Z<|Hg Z Ih CE fun b0=>AY 17 [0,16,1] Z<|T.Io Z Z Xq .z Z fun W D h=>?_
 obtain⟨D1,h1,h2⟩:=A8 h;exact⟨D1,⟨rfl,rfl,dv,sv,wv,nv,RN,hN,h1⟩,h2⟩
theorem Mk.G9{m:Mk}(hm:m.Ok M):({m with Ae:=BH}:Mk).Ok M:=⟨hm.i,hm.Hq,hm.AU,hm.AO,hm.BI,hm.BN⟩
theorem lR{m:Mk}(hM:C.M.Ok)(hm:m.Ok C.M)(hr: ∀a,Bf (ld l a))(he:m.Ae=BH):Zf C d m dr l (m.step C.M l dr).1 (m.step C.M l dr).2:=by
 cases h:m.next with
 |DZ=>exact X4 hM hm hr he h
 |QU=>exact U4 hM hm hr he h
 |Ym=>exact X5 hM hm hr he h
 |Ee=>exact Zg hM hm hr he h
 |EN=>exact Wi hM hm hr he h
theorem xe{m:Mk}(hM:C.M.Ok)(hm:m.Ok C.M)(hr: ∀a,Bf (ld l a)):Cv C 63 [AX d,AX C.s,.int .i64 dr] l (Uj C d m) (.tuple #[]) (m.step C.M l dr).2 (Uj C d (m.step C.M l dr).1):=by
 have e:({m with Ae:=BH}:Mk).step C.M l dr=m.step C.M l dr:=by unfold Mk.step;rfl
 have h:=lR (d:=d) (dr:=dr) hM (Mk.G9 hm) hr rfl;rw[e] at h;exact Q0 h
theorem Mk.Ef(hM:M.Ok){m:Mk}(hm:m.Ok M)(hr: ∀a,Bf (ld l a)):(m.step M l dr).1.Ok M:=by
 have h1:=Sk.Ef hM hm.Hq hr;have h2:=Sc.Ef hM hm.AU hr;have h3:=Sw.Ef hM hm.AO hr;have z:Bf 0:=by unfold Bf;omega
 have hc:Bf (ld l 0/8):=by have:=hr 0;unfold Bf at*;omega
 unfold Mk.step;split
 ·split
  ·exact⟨hm.i,Sk.Ha hM hm.i hm.BI,hm.AU,hm.AO,hm.BI,hm.BN⟩
  split
  ·exact⟨hm.i,hm.Hq,hm.AU,Sw.Ha hc,hm.BI,hm.BN⟩
  exact Mk.G9 hm
 ·split
  ·refine⟨hm.i,h1,hm.AU,hm.AO,h1.BI,?_⟩;simp only;split
   ·exact h1.BN
   exact z
  exact⟨hm.i,h1,hm.AU,hm.AO,hm.BI,hm.BN⟩
 ·split
  ·exact⟨hm.i,hm.Hq,Sc.Ha hm.BN hm.i hc,hm.AO,hm.BI,hm.BN⟩
  exact Mk.G9 hm
 ·split<;>exact⟨hm.i,hm.Hq,h2,hm.AO,hm.BI,by first|exact z|exact hm.BN⟩
 split<;>exact⟨hm.i,hm.Hq,hm.AU,h3,hm.BI,by first|exact z|exact hm.BN⟩
theorem Mk.D8{m:Mk}(hm:m.Ok M)(hr:Nc l):Nc (m.step M l dr).2:=by
 have h1:=Sk.D8 hm.Hq hr;have h2:=Sc.D8 hm.AU hr;have h3:=Sw.D8 (M:=M) hm.AO hr;unfold Mk.step;split<;>(try split)<;>(try split)<;>first|exact hr|exact h1|exact h2|exact h3
theorem Er{i:Int}(hM:C.M.Ok)(hi:0≤i∧i<C.M.Ai):Cn C 27 [AX C.m,.int .i64 i] l Cj l (fun q=>Uj C q (.new C.M i)):=by
 exact Ci 20 Tryz.func27 Z Aa fun w0 D0=>AZ 8 [0,8] Z<|Fp Z yd yn Z<|F7 Z CE fun b0=>AP 7 [] Z<|CB Z ko (iO Aa) Aa<|Du (c:=true) Z (decide_eq_true (wC hM hi))<|AY 15 [32] Z<|T.BC Z fun W D h=>⟨D,⟨_,rfl,rfl,_,_,_,_,_,⟨rfl,rfl⟩,h⟩,fun _ hk=>hk⟩
theorem Mk.Ha{i:Int}(hM:M.Ok)(hi:0≤i∧i<M.Ai):(Mk.new M i).Ok M:=by
 have z:Bf 0:=by unfold Bf;omega
 have z2:EW 0:=by unfold EW;omega
 have h0:(0:Int)≤0∧(0:Int)<M.Ai:=by omega
 exact⟨hi,Sk.Ha hM h0 z2,Sc.Ha z h0 z,Sw.Ha z,z2,z⟩
structure II extends Bu where
 bf:Nat
 ts:List Int
def II.Au(M:Bz)(x:II)(l:Dk):II×Dk:=(⟨(x.toBu.Au M x.ts l).1,x.bf,(x.toBu.Au M x.ts l).2.1⟩,(x.toBu.Au M x.ts l).2.2)
def II.step(M:Bz)(x:II)(l:Dk):II×Dk:=({x with Ae:=BH}:II).Au M l
def tB(tv:Value)(ts:List Int)(B:List Bk):Prop:=
 (tv= .slice none 0 0∧ts=[]∧B=[])∨ ∃b rs m,tv=Dc b ts.length m∧ts≠[]∧B=[⟨b,90,Gv ts++rs⟩]∧ts.length≤m∧(Gv ts).length+rs.length=m*1
def II.cs(C:Cx)(x:II)(tv:Value)(B:List Bk)(cv pv nv:Value):List Value:=
 [AX x.bf,.int .i64 x.v,cv,pv,.int .i64 x.Ae.kind,.int .i64 x.Ae.Di,.int .i64 x.Ae.a,.int .i64 x.Ae.b,.int .i64 x.Ae.c,nv]
abbrev O'(C:Cx)(bf:Nat)(tv:Value):Bk:=⟨bf,166,[AX C.m,tv]⟩
def Q1(C:Cx)(d:Nat)(x:II)(tv:Value)(B:List Bk)(cv pv nv:Value)(RN:BB):Prop:=tB tv x.ts B∧match x.next with
 | .nil=>nv= .nilFunc∧RN=Az (O' C x.bf tv::B) Cj
 | .BR=>nv=fm 204 d∧ ∃q,cv=AX q∧RN=Az (O' C x.bf tv::B) (ug C q x.AV)
 | .F9=>nv=fm 206 d∧ ∃q,pv=AX q∧RN=Az (O' C x.bf tv::B) (mO C q x.put)
theorem Fh{m:II}{tv:Value}{cv pv:Value}(nv:Value)(RN:BB)(h:Q1 C d m tv B cv pv nv RN):CV RN:=by
 obtain⟨-,h⟩:=h;split at h
 ·obtain⟨-,rfl⟩:=h;exact Ac Aa _
 ·obtain⟨-,q,-,rfl⟩:=h;exact Ac Em _
 obtain⟨-,q,-,rfl⟩:=h;exact Ac CP _
theorem Ex{m:II}{tv:Value}{cv pv:Value}(h:Q1 C d m tv B cv pv nv RN):VW nv (decide (m.next= .nil)):=by
 obtain⟨-,h⟩:=h;split at h<;>rename_i hn<;>rw[hn]<;>obtain⟨rfl,-⟩:=h<;>first|exact .inl ⟨rfl,rfl⟩|exact .inr ⟨_,_,_,rfl,rfl⟩
structure II.Ok (M:Bz) (m:II):Prop where
 v:EW m.v
 AV:m.AV.Ok
 put:m.put.Ok
 ts: ∀t∈m.ts,Bf t
 le:(m.ts.length:Int)≤M.CQ
 lt:m.next≠ .F9→(m.ts.length:Int)<M.CQ
 ne:m.next= .F9→m.ts≠[]
theorem EA(ts:List Int)(x:Int):Gv ts++[.int .u64 x]=Gv (ts++[x]):=by simp[Gv]
theorem tB.new{rs:List Value}(h:ts≠[])(hm:ts.length≤m)(hl:(Gv ts).length+rs.length=m*1):tB (Dc q ts.length m) ts [⟨q,90,Gv ts++rs⟩]:= .inr ⟨q,rs,m,rfl,h,rfl,hm,hl⟩
def eH(C:Cx)(d:Nat)(m:II):BB:=fun D w=> ∃tv:Value,∃B:List Bk,∃cv:Value,∃pv:Value,uF 235 d (m.cs C tv B cv pv) (Q1 C d m tv B cv pv) D w
theorem CZ{m:II}:CV (eH C d m):=AQ fun _=>AQ fun _=>AQ fun _=>AQ fun _=>Bd Fh
def zY(C:Cx)(d:Nat)(m:II)(l:Dk)(m':II)(l':Dk):Prop:= ∀(tv:Value) (B:List Bk) (cv:Value) (pv:Value) nv RN,Q1 C d m tv B cv pv nv RN→ ∃KZ fs cs,nv= .func (.func KZ) (List.toArray fs) (List.toArray cs)∧Cm KZ=true∧Cv C KZ (fs++[AX C.s]++cs) l (Az [⟨d,235,m.cs C tv B cv pv nv⟩] RN) (.tuple #[]) l' (eH C d m')
def XJ(C:Cx)(bf:Nat)(ts:List Int):BB:=fun D w=> ∃tv B,tB tv ts B∧Az (O' C bf tv::B) Cj D w
theorem Am:CV (XJ C bf ts):=AQ fun _=>AQ fun _=>Ba (Ac Aa _)
theorem jG:Pm 166 1 1=true:=by kernel_rfl
theorem Ri:Pm 235 0 0=true:=by kernel_rfl
theorem W7:Pm 24 5 9=true:=by kernel_rfl
theorem l1:Cm 182=true:=by kernel_rfl
theorem X':Cm 204=true:=by kernel_rfl
theorem Y':Cm 206=true:=by kernel_rfl
theorem Z':Jv 235 [(0,1),(1,1),(2,1),(3,1),(4,5),(9,1)]=true:=by kernel_rfl
theorem pM:one 126=true:=by kernel_rfl
theorem W8:aX 24 5 3=true:=by kernel_rfl
theorem eP:Ec 126 (YL)=true:=by kernel_rfl
theorem d':LU 235=some [.pointer none,.int .i64 0,.pointer none,.pointer none,.int .i64 0,.int .i64 0,.int .i64 0,.int .i64 0,.int .i64 0,.nilFunc]:=by kernel_rfl
theorem l4{m:II}(hn:m.next= .nil):Cv C 180 [AX d,AX C.s] l (eH C d m) (.bool true) l (eH C d {m with Ae:=BH}):=by
 refine Ci 27 Tryz.func180 Z CZ fun w0 D0=>T.ex (fun _=>AQ fun _=>AQ fun _=>AQ fun _=>Bd Fh) ?_
 intro tv;refine T.ex (fun _=>AQ fun _=>AQ fun _=>Bd Fh) ?_;intro B;refine T.ex (fun _=>AQ fun _=>Bd Fh) ?_;intro cv;refine T.ex (fun _=>Bd Fh) ?_;intro pv;refine T.MX (H:=[]) Fh ?_;intro nv RN hN hl;have hi:=Ex hN;rw[hn] at hi;exact AZ 15 [0,0,16] Z<|Fp Z LW Ih Z<|AP 11 [] Z<|Le Z (IL hi) (Jl hi CG)<|AY 6 [] Z<|T.BC Z fun W D h=>⟨D,⟨rfl,rfl,tv,B,cv,pv,nv,RN,hN,h⟩,fun _ hk=>hk⟩
theorem Q2{m m':II}(hrun:zY C d {m with Ae:=BH} l m' l'):Cv C 180 [AX d,AX C.s] l (eH C d m) (.bool (decide (m'.next= .nil))) l' (eH C d m'):=by
 refine Ci 27 Tryz.func180 Z CZ fun w0 D0=>T.ex (fun _=>AQ fun _=>AQ fun _=>AQ fun _=>Bd Fh) ?_
 intro tv;refine T.ex (fun _=>AQ fun _=>AQ fun _=>Bd Fh) ?_;intro B;refine T.ex (fun _=>AQ fun _=>Bd Fh) ?_;intro cv;refine T.ex (fun _=>Bd Fh) ?_;intro pv;refine T.MX (H:=[]) Fh ?_;intro nv RN hN hl;obtain⟨KZ,fs,cs,rfl,hg,hc⟩:=hrun tv B cv pv nv RN hN;refine AZ 15 [0,0,16] Z<|Fp Z LW Ih Z<|AP 11 [] Z<|zF Z Z Z Z CG<|AP 10 [32] Z<|RV (H1:=[]) (H2:=[_]) Z hg Z hc CZ Aw<|AY 2 [] Z<|T.ex (fun _=>AQ fun _=>AQ fun _=>AQ fun _=>Bd Fh) ?_;intro tv';refine T.ex (fun _=>AQ fun _=>AQ fun _=>Bd Fh) ?_;intro B';refine T.ex (fun _=>AQ fun _=>Bd Fh) ?_;intro cv';refine T.ex (fun _=>Bd Fh) ?_;intro pv';refine T.MX Fh ?_;intro Lc Y0 hN' hl';exact AZ 5 [] Z<|Le Z (IL (Ex hN')) (Jl (Ex hN') CG)<|AY 2 [] Z<|T.BC Z fun W D h=>⟨D,⟨rfl,rfl,tv',B',cv',pv',Lc,Y0,hN',h⟩,fun _ hk=>hk⟩
theorem Rj{m:II}:Cv C 181 [AX d] l (eH C d m) (.agg m.Ae.cells.toArray) l (eH C d m):=by
 refine Ci 10 Tryz.func181 Z CZ fun w0 D0=>T.ex (fun _=>AQ fun _=>AQ fun _=>AQ fun _=>Bd Fh) ?_
 intro tv;refine T.ex (fun _=>AQ fun _=>AQ fun _=>Bd Fh) ?_;intro B;refine T.ex (fun _=>AQ fun _=>Bd Fh) ?_;intro cv;refine T.ex (fun _=>Bd Fh) ?_;intro pv;refine T.MX (H:=[]) Fh ?_;intro nv RN hN hl;refine AZ 2 [1] Z<|Hg Z Ih CE fun b0=>AY 17 [0,16,1] Z<|T.Io Z Z Xq .z Z fun W D h=>?_
 obtain⟨D1,h1,h2⟩:=A8 h;exact⟨D1,⟨rfl,rfl,tv,B,cv,pv,nv,RN,hN,h1⟩,h2⟩
theorem TW{R:BB}(hl:CV R){v:Int}{AV:Cl}{put:Pk}{nx:Bb}{cm:Nat}{rs:List Value}{tv cv pv:Value}(ht:ts≠[])(h4:ts.length≤4)(hc:ts.length≤cm)(hle:(Gv ts).length+rs.length=cm*1):
  Cv C 182 [AX d] l (Az [⟨d,235,II.cs C ⟨⟨v,AV,put,Ae,nx⟩,bf,ts⟩ tv B cv pv nv⟩,O' C bf (Dc b ts.length cm),⟨b,90,Gv ts++rs⟩] R) (.tuple #[]) l (eH C d ⟨⟨v,AV,.put ts,Ae,.F9⟩,bf,ts⟩):=by
 have h0:(ts.length:Int)>0:=by
  have:=List.length_pos_iff.2 ht;omega
 exact Ci 37 Tryz.func182 Z (Ac hl _) fun w0 D0=>iJ hl<|AZ 17 [8,0,0,0,1] Z<|Du (c:=true) Z (decide_eq_true h0)<|AY 3 [] Z<|Ey 19 1 294912 (by kernel_rfl)<|AP 15 [0,1,0,1] Z<|sq (H1:=[_,_]) (H2:=[_]) Z Z Z Z y0 Z (oV ht h4 hc) (fun _=>Ac CP _) (fun _=>(Bv Z Aw)) fun q0=>AP 2 [] Z<|KQ Z zE Z .z Z .z (Aj (by kernel_rfl) Aw)<|AY 9 [32] Z<|T.BJ Z fun W D h=>⟨D,⟨rfl,rfl,_,_,_,_,_,_,⟨.inr ⟨b,rs,cm,rfl,ht,rfl,hc,hle⟩,rfl,_,rfl,rfl⟩,h⟩,fun _ hk=>hk⟩
theorem xg{m:II}(hM:C.M.Ok)(hm:m.Ok C.M)(hr: ∀a,Bf (ld l a))(hn:m.next= .BR):zY C d m l (m.Au C.M l).1 (m.Au C.M l).2:=by
 obtain⟨⟨v,AV,put,Ae,nx⟩,bf,ts⟩:=m;obtain rfl:nx= .BR:=hn;have hB:=hM.CQ;rintro tv B cv pv nv RN ⟨hs,rfl,q,rfl,rfl⟩;rcases hs with⟨rfl,rfl,rfl⟩|⟨tb,XS,cm0,rfl,hne,rfl,hcm0,hle0⟩
 ·refine⟨204,[AX d],[],rfl,X',?_⟩;refine Ci 69 Tryz.func204 Z (Ac (Ac Em _) _) fun w0 D0=>Gu (Ac Em _)<|T.Og Em<|AZ 8 [32] Z<|Ls Z iN (We hm.AV) Em Aw<|QO Z Z Z<|X.nil<|T.cond Z ?_ ?_
  ·intro hb0;refine T.J6 Z fun W D h=>?_
   have hn: ¬(AV.step C.M l).1.next= .nil:=by simpa using hb0
   have e:(⟨v,AV,put,Ae,.BR⟩:Bu).Au C.M [] l=_:=if_neg hn;rw[show(⟨⟨v,AV,put,Ae,.BR⟩,bf,[]⟩:II).Au C.M l=(⟨((⟨v,AV,put,Ae,.BR⟩:Bu).Au C.M [] l).1,bf,((⟨v,AV,put,Ae,.BR⟩:Bu).Au C.M [] l).2.1⟩,((⟨v,AV,put,Ae,.BR⟩:Bu).Au C.M [] l).2.2) from rfl,e];exact⟨D,⟨rfl,rfl,_,_,_,_,_,_,⟨.inl ⟨rfl,rfl,rfl⟩,rfl,_,rfl,rfl⟩,h⟩,fun _ hk=>hk⟩
  intro hb0;have hn0:(AV.step C.M l).1.next= .nil:=by simpa using hb0
  refine AZ 15 [8] Z<|CB Z iS (vZ) Em<|QO Z Z Z<|X.nil<|T.cond Z ?_ ?_
  ·intro hb1;have hw: ¬(AV.step C.M l).1.JO=true:=by simpa using hb1
   refine T.J6 Z fun W D h=>?_
   have e:(⟨v,AV,put,Ae,.BR⟩:Bu).Au C.M [] l=_:=(if_pos hn0).trans (if_neg hw);rw[show(⟨⟨v,AV,put,Ae,.BR⟩,bf,[]⟩:II).Au C.M l=(⟨((⟨v,AV,put,Ae,.BR⟩:Bu).Au C.M [] l).1,bf,((⟨v,AV,put,Ae,.BR⟩:Bu).Au C.M [] l).2.1⟩,((⟨v,AV,put,Ae,.BR⟩:Bu).Au C.M [] l).2.2) from rfl,e];obtain⟨D1,h1,h2⟩:=Eo h;exact⟨D1,⟨rfl,rfl,_,_,_,_,_,_,⟨.inl ⟨rfl,rfl,rfl⟩,rfl,rfl⟩,h1⟩,h2⟩
  intro hb1;have hw:(AV.step C.M l).1.JO=true:=by simpa using hb1
  refine AZ 8 [256] Z<|Fp Z LW Ih Z<|AY 5 [] Z<|Ey 22 2047 2490368 (by kernel_rfl)<|AP 15 [0,0,1] Z<|Ic Z FP Ej (PE hm.v)<|CB Z iX (UR hm.v (by omega)) Em<|Qc Z dV kw (by decide) Z Z Z (fun _=>(BP Z fW (.s (.s .z)) Z (Ed Z jG (Ia Z (BP Z pM (.s .z) Z (Ed Z Ri (Ia Z (Bv Z (BP Z pM (.s .z) Z (Ed Z Ri (Ia Z (Bv Z Aw)))))))))))) fun b0=>CF (cs:=[.int .u64 (pair v 0)]) (rest:=[]) Z Z Z dV .z (by omega) Z (fun _ _=>(BP Z fW (.s (.s (.s .z))) Z (Ed Z jG (Ia Z (BP Z pM (.s (.s .z)) Z (Ed Z Ri (Ia Z (Bv Z (BP Z pM (.s (.s .z)) Z (Ed Z Ri (Ia Z (Bv Z Aw)))))))))))) fun q1 rs cm hcm=>AP 2 [] Z<|KQ Z fW Z (.s (.s (.s .z))) Z (.s (.s (.s .z))) (Aj (by kernel_rfl) (Aj (by kernel_rfl) (Aj (by kernel_rfl) (Aj (by kernel_rfl) (Aj (by kernel_rfl) (Aj (by kernel_rfl) (Aj (by kernel_rfl) (Aj (by kernel_rfl) (Aj (by kernel_rfl) (Aj (by kernel_rfl) (Aj (by kernel_rfl) Aw)))))))))))<|AY 2 [] Z<|Ey 18 0 0 (by kernel_rfl)<|AP 15 [2,3,2,3] Z<|CB Z V3 (GN Em) Em<|Bp Z Z Z W7 W8 o3 Z<|AY 2 [] Z<|T.cond Z ?_ ?_
  ·intro hb2;refine AZ 2 [2] Z<|Tm (H2:=[_,_,_]) (is:=[2,3,0]) (by decide) Z Z Z Z l1 Z (TW Em (v:=v) (AV:=(AV.step C.M l).1) (put:=put) (Ae:=⟨1,0,v,0,0⟩) (nx:= .BR) (bf:=bf) (ts:=[pair v 0]) (tv:= .slice none 0 0) (B:=[]) (by simp) (by simp) hcm.1 hcm.2) CZ Aw<|X.nil<|T.BJ Z fun W D h=>?_
   have e:(⟨v,AV,put,Ae,.BR⟩:Bu).Au C.M [] l=_:=(if_pos hn0).trans ((if_pos hw).trans (if_pos (of_decide_eq_true hb2)));rw[show(⟨⟨v,AV,put,Ae,.BR⟩,bf,[]⟩:II).Au C.M l=(⟨((⟨v,AV,put,Ae,.BR⟩:Bu).Au C.M [] l).1,bf,((⟨v,AV,put,Ae,.BR⟩:Bu).Au C.M [] l).2.1⟩,((⟨v,AV,put,Ae,.BR⟩:Bu).Au C.M [] l).2.2) from rfl,e];exact⟨D,⟨rfl,rfl,h⟩,fun _ hk=>hk⟩
  intro hb2;refine T.skip<|T.BJ Z fun W D h=>?_
  have e:(⟨v,AV,put,Ae,.BR⟩:Bu).Au C.M [] l=_:=(if_pos hn0).trans ((if_pos hw).trans (if_neg (of_decide_eq_false hb2)));rw[show(⟨⟨v,AV,put,Ae,.BR⟩,bf,[]⟩:II).Au C.M l=(⟨((⟨v,AV,put,Ae,.BR⟩:Bu).Au C.M [] l).1,bf,((⟨v,AV,put,Ae,.BR⟩:Bu).Au C.M [] l).2.1⟩,((⟨v,AV,put,Ae,.BR⟩:Bu).Au C.M [] l).2.2) from rfl,e];obtain⟨D1,h1,h2⟩:=Eb [2,3,0] (by decide) h;exact⟨D1,⟨rfl,rfl,_,_,_,_,_,_,⟨tB.new (by simp) hcm.1 hcm.2,rfl,rfl⟩,h1⟩,h2⟩
 have hlt:(ts.length:Int)<C.M.CQ:=hm.lt (by simp);refine⟨204,[AX d],[],rfl,X',?_⟩;refine Ci 69 Tryz.func204 Z (Ac (Ac Em _) _) fun w0 D0=>Gu (Ac Em _)<|T.Og Em<|AZ 8 [32] Z<|Ls Z iN (We hm.AV) Em Aw<|QO Z Z Z<|X.nil<|T.cond Z ?_ ?_
 ·intro hb0;refine T.J6 Z fun W D h=>?_
  have hn: ¬(AV.step C.M l).1.next= .nil:=by simpa using hb0
  have e:(⟨v,AV,put,Ae,.BR⟩:Bu).Au C.M ts l=_:=if_neg hn;rw[show(⟨⟨v,AV,put,Ae,.BR⟩,bf,ts⟩:II).Au C.M l=(⟨((⟨v,AV,put,Ae,.BR⟩:Bu).Au C.M ts l).1,bf,((⟨v,AV,put,Ae,.BR⟩:Bu).Au C.M ts l).2.1⟩,((⟨v,AV,put,Ae,.BR⟩:Bu).Au C.M ts l).2.2) from rfl,e];exact⟨D,⟨rfl,rfl,_,_,_,_,_,_,⟨.inr ⟨_,_,_,rfl,hne,rfl,hcm0,hle0⟩,rfl,_,rfl,rfl⟩,h⟩,fun _ hk=>hk⟩
 intro hb0;have hn0:(AV.step C.M l).1.next= .nil:=by simpa using hb0
 refine AZ 15 [8] Z<|CB Z iS (vZ) Em<|QO Z Z Z<|X.nil<|T.cond Z ?_ ?_
 ·intro hb1;have hw: ¬(AV.step C.M l).1.JO=true:=by simpa using hb1
  refine T.J6 Z fun W D h=>?_
  have e:(⟨v,AV,put,Ae,.BR⟩:Bu).Au C.M ts l=_:=(if_pos hn0).trans (if_neg hw);rw[show(⟨⟨v,AV,put,Ae,.BR⟩,bf,ts⟩:II).Au C.M l=(⟨((⟨v,AV,put,Ae,.BR⟩:Bu).Au C.M ts l).1,bf,((⟨v,AV,put,Ae,.BR⟩:Bu).Au C.M ts l).2.1⟩,((⟨v,AV,put,Ae,.BR⟩:Bu).Au C.M ts l).2.2) from rfl,e];obtain⟨D1,h1,h2⟩:=Eo h;exact⟨D1,⟨rfl,rfl,_,_,_,_,_,_,⟨.inr ⟨_,_,_,rfl,hne,rfl,hcm0,hle0⟩,rfl,rfl⟩,h1⟩,h2⟩
 intro hb1;have hw:(AV.step C.M l).1.JO=true:=by simpa using hb1
 refine AZ 8 [256] Z<|Fp Z LW Ih Z<|AY 5 [] Z<|Ey 22 2047 2490368 (by kernel_rfl)<|AP 15 [0,0,1] Z<|Ic Z FP Ej (PE hm.v)<|CB Z iX (UR hm.v (by omega)) Em<|Qc Z dV kw (by decide) Z Z Z (fun _=>(BP Z fW (.s (.s .z)) Z (Ed Z jG (Ia Z (BP Z pM (.s .z) Z (Ed Z Ri (Ia Z (Bv Z (BP Z pM (.s .z) Z (Ed Z Ri (Ia Z (Bv Z Aw)))))))))))) fun b0=>vY (Hr:=[_,_,_]) (cs:=Gv ts) (rest:=XS) (Ff:=[]) Z Z Z dV Z (by simp[Gv]) hle0 .z Z (by simp[BL]) ⟨by omega,(show ts.length+1≤1000000 by omega),by omega,by omega,hcm0⟩ (EA ts _) (show ts.length+1=(ts++[pair v 0]).length by simp) (fun _ _=>(BP Z fW (.s (.s (.s .z))) Z (Ed Z jG (Ia Z (BP Z pM (.s (.s .z)) Z (Ed Z Ri (Ia Z (Bv Z (BP Z pM (.s (.s .z)) Z (Ed Z Ri (Ia Z (Bv Z Aw)))))))))))) fun q1 rs cm hcm=>AP 2 [] Z<|KQ Z fW Z (.s (.s (.s .z))) Z (.s (.s (.s .z))) (Aj (by kernel_rfl) (Aj (by kernel_rfl) (Aj (by kernel_rfl) (Aj (by kernel_rfl) (Aj (by kernel_rfl) (Aj (by kernel_rfl) (Aj (by kernel_rfl) (Aj (by kernel_rfl) (Aj (by kernel_rfl) (Aj (by kernel_rfl) (Aj (by kernel_rfl) Aw)))))))))))<|AY 2 [] Z<|Ey 18 0 0 (by kernel_rfl)<|AP 15 [2,3,2,3] Z<|CB Z V3 (GN Em) Em ?_
 refine Bp Z Z Z W7 W8 o3 Z<|AY 2 [] Z<|T.cond Z ?_ ?_
 ·intro hb2;refine AZ 2 [2] Z<|Tm (H2:=[_,_,_]) (is:=[2,3,0]) (by decide) Z Z Z Z l1 Z (TW Em (v:=v) (AV:=(AV.step C.M l).1) (put:=put) (Ae:=⟨1,0,v,0,0⟩) (nx:= .BR) (bf:=bf) (ts:=(ts++[pair v 0])) (tv:= .slice none 0 0) (B:=[]) (by simp) (by simp only[List.length_append,List.length_singleton];omega) hcm.1 hcm.2) CZ Aw<|X.nil<|T.BJ Z fun W D h=>?_
  have e:(⟨v,AV,put,Ae,.BR⟩:Bu).Au C.M ts l=_:=(if_pos hn0).trans ((if_pos hw).trans (if_pos (of_decide_eq_true hb2)));rw[show(⟨⟨v,AV,put,Ae,.BR⟩,bf,ts⟩:II).Au C.M l=(⟨((⟨v,AV,put,Ae,.BR⟩:Bu).Au C.M ts l).1,bf,((⟨v,AV,put,Ae,.BR⟩:Bu).Au C.M ts l).2.1⟩,((⟨v,AV,put,Ae,.BR⟩:Bu).Au C.M ts l).2.2) from rfl,e];exact⟨D,⟨rfl,rfl,h⟩,fun _ hk=>hk⟩
 intro hb2;refine T.skip<|T.BJ Z fun W D h=>?_
 have e:(⟨v,AV,put,Ae,.BR⟩:Bu).Au C.M ts l=_:=(if_pos hn0).trans ((if_pos hw).trans (if_neg (of_decide_eq_false hb2)));rw[show(⟨⟨v,AV,put,Ae,.BR⟩,bf,ts⟩:II).Au C.M l=(⟨((⟨v,AV,put,Ae,.BR⟩:Bu).Au C.M ts l).1,bf,((⟨v,AV,put,Ae,.BR⟩:Bu).Au C.M ts l).2.1⟩,((⟨v,AV,put,Ae,.BR⟩:Bu).Au C.M ts l).2.2) from rfl,e];obtain⟨D1,h1,h2⟩:=Eb [2,3,0] (by decide) h;exact⟨D1,⟨rfl,rfl,_,_,_,_,_,_,⟨tB.new (by simp) hcm.1 hcm.2,rfl,rfl⟩,h1⟩,h2⟩
theorem Q6{m:II}(hM:C.M.Ok)(hm:m.Ok C.M)(hr: ∀a,Bf (ld l a))(hn:m.next= .F9):zY C d m l (m.Au C.M l).1 (m.Au C.M l).2:=by
 obtain⟨⟨v,AV,put,Ae,nx⟩,bf,ts⟩:=m;obtain rfl:nx= .F9:=hn;have hB:=hM.CQ;rintro tv B cv pv nv RN ⟨hs,rfl,q,rfl,rfl⟩;rcases hs with⟨rfl,rfl,rfl⟩|⟨tb,XS,cm0,rfl,hne,rfl,hcm0,hle0⟩
 ·refine⟨206,[AX d],[],rfl,Y',?_⟩;refine Ci 19 Tryz.func206 Z (Ac (Ac CP _) _) fun w0 D0=>Gu (Ac CP _)<|T.Og CP<|AZ 7 [32] Z<|Ls Z C3 (PN hm.put hr) CP Aw<|X.nil<|T.cond Z ?_ ?_
  ·intro hb0;refine CW 16 [64,0,1,8] Z<|T.BJ Z fun W D h=>?_
   have e:(⟨v,AV,put,Ae,.F9⟩:Bu).Au C.M [] l=_:=if_pos (of_decide_eq_true hb0);rw[show(⟨⟨v,AV,put,Ae,.F9⟩,bf,[]⟩:II).Au C.M l=(⟨((⟨v,AV,put,Ae,.F9⟩:Bu).Au C.M [] l).1,bf,((⟨v,AV,put,Ae,.F9⟩:Bu).Au C.M [] l).2.1⟩,((⟨v,AV,put,Ae,.F9⟩:Bu).Au C.M [] l).2.2) from rfl,e];obtain⟨D1,h1,h2⟩:=Eb [0,1] (by decide) h;exact⟨D1,⟨rfl,rfl,_,_,_,_,_,_,⟨.inl ⟨rfl,rfl,rfl⟩,rfl,rfl⟩,h1⟩,h2⟩
  intro hb0;refine T.skip<|T.BJ Z fun W D h=>?_
  have e:(⟨v,AV,put,Ae,.F9⟩:Bu).Au C.M [] l=_:=if_neg (of_decide_eq_false hb0);rw[show(⟨⟨v,AV,put,Ae,.F9⟩,bf,[]⟩:II).Au C.M l=(⟨((⟨v,AV,put,Ae,.F9⟩:Bu).Au C.M [] l).1,bf,((⟨v,AV,put,Ae,.F9⟩:Bu).Au C.M [] l).2.1⟩,((⟨v,AV,put,Ae,.F9⟩:Bu).Au C.M [] l).2.2) from rfl,e];exact⟨D,⟨rfl,rfl,_,_,_,_,_,_,⟨.inl ⟨rfl,rfl,rfl⟩,rfl,_,rfl,rfl⟩,h⟩,fun _ hk=>hk⟩
 refine⟨206,[AX d],[],rfl,Y',?_⟩;refine Ci 19 Tryz.func206 Z (Ac (Ac CP _) _) fun w0 D0=>Gu (Ac CP _)<|T.Og CP<|AZ 7 [32] Z<|Ls Z C3 (PN hm.put hr) CP Aw<|X.nil<|T.cond Z ?_ ?_
 ·intro hb0;refine CW 16 [64,0,1,8] Z<|T.BJ Z fun W D h=>?_
  have e:(⟨v,AV,put,Ae,.F9⟩:Bu).Au C.M ts l=_:=if_pos (of_decide_eq_true hb0);rw[show(⟨⟨v,AV,put,Ae,.F9⟩,bf,ts⟩:II).Au C.M l=(⟨((⟨v,AV,put,Ae,.F9⟩:Bu).Au C.M ts l).1,bf,((⟨v,AV,put,Ae,.F9⟩:Bu).Au C.M ts l).2.1⟩,((⟨v,AV,put,Ae,.F9⟩:Bu).Au C.M ts l).2.2) from rfl,e];obtain⟨D1,h1,h2⟩:=Eb [0,1] (by decide) h;exact⟨D1,⟨rfl,rfl,_,_,_,_,_,_,⟨.inl ⟨rfl,rfl,rfl⟩,rfl,rfl⟩,h1⟩,h2⟩
 intro hb0;refine T.skip<|T.BJ Z fun W D h=>?_
 have e:(⟨v,AV,put,Ae,.F9⟩:Bu).Au C.M ts l=_:=if_neg (of_decide_eq_false hb0);rw[show(⟨⟨v,AV,put,Ae,.F9⟩,bf,ts⟩:II).Au C.M l=(⟨((⟨v,AV,put,Ae,.F9⟩:Bu).Au C.M ts l).1,bf,((⟨v,AV,put,Ae,.F9⟩:Bu).Au C.M ts l).2.1⟩,((⟨v,AV,put,Ae,.F9⟩:Bu).Au C.M ts l).2.2) from rfl,e];exact⟨D,⟨rfl,rfl,_,_,_,_,_,_,⟨.inr ⟨_,_,_,rfl,hne,rfl,hcm0,hle0⟩,rfl,_,rfl,rfl⟩,h⟩,fun _ hk=>hk⟩
theorem l5{m:II}(hM:C.M.Ok)(hm:m.Ok C.M)(hr: ∀a,Bf (ld l a))(hn:m.next≠ .nil):zY C d m l (m.Au C.M l).1 (m.Au C.M l).2:=by
 cases h:m.next with
 |nil=>exact(hn h).elim
 |BR=>exact xg hM hm hr h
 |F9=>exact Q6 hM hm hr h
theorem II.G9{m:II}(hm:m.Ok M):({m with Ae:=BH}:II).Ok M:=⟨hm.v,hm.AV,hm.put,hm.ts,hm.le,hm.lt,hm.ne⟩
theorem PS{m:II}(hM:C.M.Ok)(hm:m.Ok C.M)(hr: ∀a,Bf (ld l a)):Cv C 180 [AX d,AX C.s] l (eH C d m) (.bool (decide ((m.step C.M l).1.next= .nil))) (m.step C.M l).2 (eH C d (m.step C.M l).1):=by
 by_cases hn:m.next= .nil
 ·have e:m.step C.M l=({m with Ae:=BH},l):=by unfold II.step II.Au Bu.Au;simp only[hn]
  rw[e,show decide (({m with Ae:=BH}:II).next= .nil)=true from decide_eq_true hn];exact l4 hn
 exact Q2 (l5 hM (II.G9 hm) hr hn)
theorem Zh{v c:Int}(hv:C.M.CU v>0):Cn C 178 [AX bf,.int .i64 v,.int .u64 c] l (XJ C bf ts) l (fun q=>eH C q ⟨.Bl v c,bf,ts⟩):=by
 refine Ci 39 Tryz.func178 Z Am fun w0 D0=>T.ex (fun _=>AQ fun _=>Ba (Ac Aa _)) ?_
 intro tv;refine T.ex (fun _=>Ba (Ac Aa _)) ?_;intro B;refine T.and (fun _=>Ac Aa _) ?_;intro hs;exact T.conv (fun w h=>Sy.opens (H2:=_::_) h Aa)<|AZ 8 [0,8] Z<|Fp Z Z' d' Z<|F7 Z CE fun b0=>AP 6 [] Z<|iW Z Z Z Z eP<|AP 6 [1] Z<|CB Z C6 (Kw) Aa<|Du (c:=true) Z (decide_eq_true hv)<|Hz Z<|AP 11 [1152,1] Z<|UF Z zR (oW) (fun _=>Em) CE fun q1=>AY 17 [0,32] Z<|T.BC Z fun W D h=>⟨D,⟨_,rfl,rfl,_,_,_,_,_,_,⟨hs,rfl,_,rfl,rfl⟩,h⟩,fun _ hk=>hk⟩
theorem TD(ht:ts≠[])(h4:ts.length≤4):Cn C 153 [AX bf] l (XJ C bf ts) l (fun q=>eH C q ⟨.Pq ts,bf,ts⟩):=by
 refine Ci 19 Tryz.func153 Z Am fun w0 D0=>T.ex (fun _=>AQ fun _=>Ba (Ac Aa _)) ?_
 intro tv;refine T.ex (fun _=>Ba (Ac Aa _)) ?_;intro B;refine T.and (fun _=>Ac Aa _) ?_;intro hs;obtain⟨tb,rs,cm,rfl,-,rfl,hcm,hle⟩:=hs.resolve_left (fun h=>ht h.2.1);refine dN Aa<|AZ 7 [0,4] Z<|Fp Z Z' d' Z<|F7 Z CE fun b0=>AP 6 [] Z<|iW Z Z Z Z eP<|AP 5 [1] Z<|iW Z Z Z Z PK<|Hz Z<|AP 4 [2] Z<|Tm (H2:=[_,_,_]) (is:=[0,1,2]) (by decide) Z Z Z Z l1 Z (TW Aa (v:=0) (AV:= .new 0 0) (put:= .take) (Ae:=BH) (nx:= .nil) (bf:=bf) (ts:=ts) (tv:= .slice none 0 0) (B:=[]) ht h4 hcm hle) CZ Aw<|AY 6 [] Z<|T.BC Z fun W D h=>?_
 have e:Bu.Pq ts=⟨0,.new 0 0,.put ts,BH,.F9⟩:=by unfold Bu.Pq;rw[if_neg ht]
 rw[e];exact⟨D,⟨_,rfl,rfl,h⟩,fun _ hk=>hk⟩
theorem II.Ef(hM:M.Ok){m:II}(hm:m.Ok M)(hr: ∀a,Bf (ld l a)):(m.step M l).1.Ok M:=by
 have h1:=Cl.Ef (M:=M) (l:=l) hm.AV;have h2:=Pk.Ef (M:=M) hm.put hr;have hB:=hM.CQ;have hp:Bf (pair m.v 0):=Oz hm.v (by omega);have hts: ∀t∈m.ts++[pair m.v 0],Bf t:=fun t ht=>by
  rcases List.mem_append.1 ht with h|h
  ·exact hm.ts t h
  rw[List.mem_singleton.1 h];exact hp
 unfold II.step II.Au Bu.Au;split
 ·exact II.G9 hm
 ·rename_i hn;have hn':m.next= .BR:=hn;have hlt:=hm.lt (by rw[hn'];exact fun h=>nomatch h);split
  ·split
   ·split
    ·rename_i hge;refine⟨hm.v,h1,Pk.wB hts ?_,hts,?_,fun h=>(h rfl).elim,fun _=>by simp⟩
     ·simp only[List.length_append,List.length_singleton];omega
     simp only[List.length_append,List.length_singleton];omega
    rename_i hge;refine⟨hm.v,h1,hm.put,hts,?_,fun _=>?_,fun h=>nomatch h⟩
    ·simp only at hge⊢;omega
    simp only at hge⊢;omega
   exact⟨hm.v,h1,hm.put,hm.ts,hm.le,fun _=>hlt,fun h=>nomatch h⟩
  exact⟨hm.v,h1,hm.put,hm.ts,hm.le,fun _=>hlt,fun h=>by have h':m.next= .F9:=h;rw[hn'] at h';cases h'⟩
 rename_i hn;have hn':m.next= .F9:=hn;split
 ·exact⟨hm.v,hm.AV,h2,by simp,by simp only[List.length_nil];omega,fun _=>by simp only[List.length_nil];omega,fun h=>nomatch h⟩
 exact⟨hm.v,hm.AV,h2,hm.ts,hm.le,fun h=>(h hn').elim,fun _=>hm.ne hn'⟩
theorem II.D8{m:II}(hm:m.Ok M)(hr:Nc l):Nc (m.step M l).2:=by
 have h1:=Cl.D8 (M:=M) hm.AV hr;have h2:=Pk.D8 (M:=M) hm.put hr;unfold II.step II.Au Bu.Au;split<;>(try split)<;>(try split)<;>(try split)<;>first|exact hr|exact h1|exact h2
def Hp.cs(C:Cx)(x:Hp)(dv nv:Value):List Value:=
 [AX C.m,.int .i64 x.A7,.int .i64 (Bi x.A7),.int .u64 x.mark,.int .u64 x.h,.int .u32 x.Cf,.int .i64 x.v,dv,.int .i64 x.EP,.int .i64 x.i,.int .i64 x.node,.int .i64 x.e,.int .i64 x.Ae.kind,.int .i64 x.Ae.Di,.int .i64 x.Ae.a,.int .i64 x.Ae.b,.int .i64 x.Ae.c,nv]
def pO(C:Cx)(d:Nat)(x:Hp)(dv nv:Value)(RN:BB):Prop:=match x.next with
 | .nil=>nv= .nilFunc∧RN=Cj
 | .DZ=>nv=fm 124 d∧RN=Cj
 | .Ot=>nv=fm 159 d∧RN=Cj
 | .swap=>nv=fm 184 d∧RN=Cj
 | .Ea=>nv=fm 208 d∧RN=Cj
 | .En=>nv=fm 244 d∧RN=Cj
 | .Lp=>nv=fm 245 d∧RN=Cj
 | .state=>nv=fm 255 d∧RN=Cj
theorem Gw{m:Hp}{dv:Value}(nv:Value)(RN:BB)(h:pO C d m dv nv RN):CV RN:=by
 unfold pO at h;split at h<;>(obtain⟨-,rfl⟩:=h;exact Aa)
theorem Zi{m:Hp}{dv:Value}(h:pO C d m dv nv RN):VW nv (decide (m.next= .nil)):=by
 unfold pO at h;split at h<;>rename_i hn<;>rw[hn]<;>obtain⟨rfl,-⟩:=h<;>first|exact .inl ⟨rfl,rfl⟩|exact .inr ⟨_,_,_,rfl,rfl⟩
structure Hp.Ok (m:Hp):Prop where
 A7:0≤m.A7∧m.A7≤1000∨m.next= .nil
 mark:Bf m.mark
 h:Bf m.h
 Cf:EW m.Cf
 v:EW m.v
 EP:0≤m.EP∧m.EP≤4
 i:0≤m.i∧m.i≤1000
 lt:m.next= .DZ→m.EP<4
 sl:m.next= .En→m.i<16
def l6(M:Bz)(i v:Int):Nat:=bif decide (i<M.CU v) then 244 else 245
theorem zZ{x:Hp}{dv:Value}(h:x.next=Hp.rest C.M x.i x.v):pO C d x dv (fm (l6 C.M x.i x.v) d) Cj:=by
 unfold pO l6;unfold Hp.rest at h;by_cases hc:x.i<C.M.CU x.v
 ·rw[if_pos hc] at h;rw[h];simp[hc]
 rw[if_neg hc] at h;rw[h];simp[hc]
def aS(C:Cx)(d:Nat)(m:Hp):BB:=fun D w=> ∃dv:Value,uF 201 d (m.cs C dv) (pO C d m dv) D w
theorem GG{m:Hp}:CV (aS C d m):=AQ fun _=>Bd Gw
def Rk(C:Cx)(d:Nat)(m:Hp)(l:Dk)(m':Hp)(l':Dk):Prop:= ∀(dv:Value) nv RN,pO C d m dv nv RN→ ∃KZ fs cs,nv= .func (.func KZ) (List.toArray fs) (List.toArray cs)∧Cm KZ=true∧Cv C KZ (fs++[AX C.s]++cs) l (Az [⟨d,201,m.cs C dv nv⟩] RN) (.tuple #[]) l' (aS C d m')
theorem ae{k:Int}(h:0≤k∧k<5)(w:World):(binOp .shl 3 (.int .i64 1) (.int .i64 k)).run Tryz.prog w= .ok (.int .i64 (FM k)) w:=by
 rcases Yo h with rfl|rfl|rfl|rfl|rfl<;>rfl
theorem EB{x:Operand}{a b:Value}(w:World):(eqGuard .shl t x y a b).run Tryz.prog w= .ok () w:=rfl
theorem yo:Cm 123=true:=by kernel_rfl
theorem yp:Cm 124=true:=by kernel_rfl
theorem yq:Cm 159=true:=by kernel_rfl
theorem f':Cm 160=true:=by kernel_rfl
theorem yr:Cm 184=true:=by kernel_rfl
theorem ys:Cm 208=true:=by kernel_rfl
theorem i':Cm 229=true:=by kernel_rfl
theorem yv:Cm 244=true:=by kernel_rfl
theorem yy:Cm 245=true:=by kernel_rfl
theorem za:Cm 255=true:=by kernel_rfl
theorem g36:Cm 36=true:=by kernel_rfl
theorem tD:Cm 50=true:=by kernel_rfl
theorem g79:Cm 79=true:=by kernel_rfl
theorem zc:Jv 201 [(0,1),(1,1),(2,1),(3,1),(4,1),(5,1),(6,1),(7,1),(8,1),(9,1),(10,1),(11,1),(12,5),(17,1)]=true:=by kernel_rfl
theorem zd:LU 201=some [.pointer none,.int .i64 0,.int .i64 0,.int .u64 0,.int .u64 0,.int .u32 0,.int .i64 0,.bool false,.int .i64 0,.int .i64 0,.int .i64 0,.int .i64 0,.int .i64 0,.int .i64 0,.int .i64 0,.int .i64 0,.int .i64 0,.nilFunc]:=by kernel_rfl
theorem Ra{m:Hp}(he:m.Ae=BH)(hn:m.next= .nil):Cv C 118 [AX d,AX C.s] l (aS C d m) (.bool true) l (aS C d {m with Ae:=BH}):=by
 have em:m.Ae=BH→({m with Ae:=BH}:Hp)=m:=fun h=>by cases m;cases h;rfl
 have em:=em he;refine Ci 33 Tryz.func118 Z GG fun w0 D0=>T.ex (fun _=>Bd Gw) ?_
 intro dv;refine T.MX (H:=[]) Gw ?_;intro nv RN hN hl;have hi:=Zi hN;rw[hn] at hi;refine AZ 19 [] Z<|Fp Z LW Ih Z<|Le Z o6 (Ow he)<|AP 10 [] Z<|Le Z (IL hi) (Jl hi CG)<|AY 6 [] Z<|T.BC Z fun W D h=>?_
 rw[em];exact⟨D,⟨rfl,rfl,dv,nv,RN,hN,h⟩,fun _ hk=>hk⟩
theorem EQ{m m':Hp}(he:m.Ae=BH)(hrun:Rk C d {m with Ae:=BH} l m' l'):Cv C 118 [AX d,AX C.s] l (aS C d m) (.bool (decide (m'.next= .nil))) l' (aS C d m'):=by
 have em:m.Ae=BH→({m with Ae:=BH}:Hp)=m:=fun h=>by cases m;cases h;rfl
 rw[em he] at hrun;refine Ci 33 Tryz.func118 Z GG fun w0 D0=>T.ex (fun _=>Bd Gw) ?_
 intro dv;refine T.MX (H:=[]) Gw ?_;intro nv RN hN hl;obtain⟨KZ,fs,cs,rfl,hg,hc⟩:=hrun dv nv RN hN;refine AZ 19 [] Z<|Fp Z LW Ih Z<|Le Z o6 (Ow he)<|AP 10 [] Z<|zF Z Z Z Z CG<|AP 10 [32] Z<|RV (H1:=[]) (H2:=[_]) Z hg Z hc GG Aw<|AY 2 [] Z<|T.ex (fun _=>Bd Gw) ?_;intro ze;refine T.MX Gw ?_;intro Lc Y0 hN' hl';exact AZ 5 [] Z<|Le Z (IL (Zi hN')) (Jl (Zi hN') CG)<|AY 2 [] Z<|T.BC Z fun W D h=>⟨D,⟨rfl,rfl,ze,Lc,Y0,hN',h⟩,fun _ hk=>hk⟩
theorem Rb{m:Hp}(he:m.Ae≠BH)(hn:m.next= .nil):Cv C 118 [AX d,AX C.s] l (aS C d m) (.bool true) l (aS C d {m with Ae:=BH}):=by
 have em:m.Ae=BH→({m with Ae:=BH}:Hp)=m:=fun h=>by cases m;cases h;rfl
 refine Ci 33 Tryz.func118 Z GG fun w0 D0=>T.ex (fun _=>Bd Gw) ?_
 intro dv;refine T.MX (H:=[]) Gw ?_;intro nv RN hN hl;have hi:=Zi hN;rw[hn] at hi;exact AZ 19 [] Z<|Fp Z LW Ih Z<|Le Z o6 (On he)<|AP 4 [16] Z<|Fp Z LW Ih Z<|AP 11 [] Z<|Le Z (IL hi) (Jl hi CG)<|AY 6 [] Z<|T.BC Z fun W D h=>⟨D,⟨rfl,rfl,dv,nv,RN,hN,h⟩,fun _ hk=>hk⟩
theorem EV{m m':Hp}(he:m.Ae≠BH)(hrun:Rk C d {m with Ae:=BH} l m' l'):Cv C 118 [AX d,AX C.s] l (aS C d m) (.bool (decide (m'.next= .nil))) l' (aS C d m'):=by
 have em:m.Ae=BH→({m with Ae:=BH}:Hp)=m:=fun h=>by cases m;cases h;rfl
 refine Ci 33 Tryz.func118 Z GG fun w0 D0=>T.ex (fun _=>Bd Gw) ?_
 intro dv;refine T.MX (H:=[]) Gw ?_;intro nv RN hN hl;obtain⟨KZ,fs,cs,rfl,hg,hc⟩:=hrun dv nv RN hN;refine AZ 19 [] Z<|Fp Z LW Ih Z<|Le Z o6 (On he)<|AP 4 [16] Z<|Fp Z LW Ih Z<|AP 11 [] Z<|zF Z Z Z Z CG<|AP 10 [32] Z<|RV (H1:=[]) (H2:=[_]) Z hg Z hc GG Aw<|AY 2 [] Z<|T.ex (fun _=>Bd Gw) ?_;intro ze;refine T.MX Gw ?_;intro Lc Y0 hN' hl';exact AZ 5 [] Z<|Le Z (IL (Zi hN')) (Jl (Zi hN') CG)<|AY 2 [] Z<|T.BC Z fun W D h=>⟨D,⟨rfl,rfl,ze,Lc,Y0,hN',h⟩,fun _ hk=>hk⟩
theorem l8{m:Hp}(hn:m.next= .nil):Cv C 118 [AX d,AX C.s] l (aS C d m) (.bool true) l (aS C d {m with Ae:=BH}):=by
 by_cases he:m.Ae=BH
 ·exact Ra he hn
 exact Rb he hn
theorem Rc{m m':Hp}(hrun:Rk C d {m with Ae:=BH} l m' l'):Cv C 118 [AX d,AX C.s] l (aS C d m) (.bool (decide (m'.next= .nil))) l' (aS C d m'):=by
 by_cases he:m.Ae=BH
 ·exact EQ he hrun
 exact EV he hrun
theorem E0{m:Hp}:Cv C 120 [AX d] l (aS C d m) (.agg m.Ae.cells.toArray) l (aS C d m):=by
 refine Ci 10 Tryz.func120 Z GG fun w0 D0=>T.ex (fun _=>Bd Gw) ?_
 intro dv;refine T.MX (H:=[]) Gw ?_;intro nv RN hN hl;refine AZ 2 [1] Z<|Hg Z Ih CE fun b0=>AY 17 [0,16,1] Z<|T.Io Z Z Xq .z Z fun W D h=>?_
 obtain⟨D1,h1,h2⟩:=A8 h;exact⟨D1,⟨rfl,rfl,dv,nv,RN,hN,h1⟩,h2⟩
theorem pR{R:BB}(hl:CV R){a0 a1 a2 a3 a4 a5 a6 a7 a8 a9 a10 a11 a12 Zb Zc aQ a16 a17:Value}{e:Int}:Cv C 160 [AX d,.int .i64 e] l (Az (⟨d,201,[a0,a1,a2,a3,a4,a5,a6,a7,a8,a9,a10,a11,a12,Zb,Zc,aQ,a16,a17]⟩::Hx) R) (.tuple #[]) l (Az (⟨d,201,[a0,a1,a2,a3,a4,a5,a6,a7,a8,a9,a10,.int .i64 e,a12,Zb,Zc,aQ,a16,.nilFunc]⟩::Hx) R):=by
 exact Ci 11 Tryz.func160 Z (Ac hl _) fun w0 D0=>VY hl<|CW 11 [288] Z<|T.BJ Z fun W D h=>⟨D,⟨rfl,rfl,h⟩,fun _ hk=>hk⟩
theorem eQ{R:BB}(hl:CV R){a1 a2 a3 a4 a5 a7 a8 a10 a11 a12 Zb Zc aQ a16 a17:Value}{v i:Int}:Cv C 229 [AX d] l (Az (⟨d,201,[AX C.m,a1,a2,a3,a4,a5,.int .i64 v,a7,a8,.int .i64 i,a10,a11,a12,Zb,Zc,aQ,a16,a17]⟩::Hx) R) (fm (l6 C.M i v) d) l (Az (⟨d,201,[AX C.m,a1,a2,a3,a4,a5,.int .i64 v,a7,a8,.int .i64 i,a10,a11,a12,Zb,Zc,aQ,a16,a17]⟩::Hx) R):=by
 refine Ci 21 Tryz.func229 Z (Ac hl _) fun w0 D0=>VY hl<|CW 6 [] Z<|Ey 14 0 0 (by kernel_rfl)<|AP 12 [] Z<|CB Z C6 (Kw) hl<|AY 2 [] Z<|T.cond Z ?_ ?_
 ·intro hb0;refine CW 6 [] Z<|T.BC Z fun W D h=>?_
  rw[show l6 C.M i v=244 by unfold l6;rw[show decide (i<C.M.CU v)=true from hb0];rfl];exact⟨D,⟨rfl,rfl,h⟩,fun _ hk=>hk⟩
 intro hb0;refine CW 7 [] Z<|T.BC Z fun W D h=>?_
 rw[show l6 C.M i v=245 by unfold l6;rw[show decide (i<C.M.CU v)=false from hb0];rfl];exact⟨D,⟨rfl,rfl,h⟩,fun _ hk=>hk⟩
theorem Rd{m:Hp}(hM:C.M.Ok)(hm:m.Ok)(hr: ∀a,Bf (ld l a))(hn:m.next= .DZ):Rk C d m l (m.Au C.M l).1 (m.Au C.M l).2:=by
 obtain⟨A7,mark,hh,Cf,v,EP,i,node,e,Ae,nx⟩:=m;obtain rfl:nx= .DZ:=hn;rintro dv nv RN ⟨rfl,rfl⟩;refine⟨124,[AX d],[],rfl,yp,?_⟩;refine Ci 49 Tryz.func124 Z (Ac Aa _) fun w0 D0=>Gu Aa<|AZ 6 [128] Z<|BU (c:=EP+1) Z (EG (at4 hm.EP))<|AY 5 [] Z<|Ey 15 0 16384 (by kernel_rfl)<|AP 10 [] Z<|CB Z lf (UO) Aa<|CB Z UT (EH Aa) Aa<|AP 10 [] Z<|CB Z Cz (Q4 Aa (hr _)) Aa<|AP 10 [32] Z<|Ic Z DY Gj (KR (KF _))<|AY 18 [0,32] Z<|T.cond Z ?_ ?_
 ·intro hb0;refine AZ 2 [2] Z<|Kt (H1:=[]) (H2:=_::_) (Ju:=_::_) Z f' Z (pR Aa) Aa Z Aw<|X.nil<|T.BJ Z fun W D h=>?_
  rw[show(⟨A7,mark,hh,Cf,v,EP,i,node,e,Ae,.DZ⟩:Hp).Au C.M l=_ from if_pos (eq_of_beq hb0)];exact⟨D,⟨rfl,rfl,_,_,_,⟨rfl,rfl⟩,h⟩,fun _ hk=>hk⟩
 intro hb0;refine T.skip<|T.BJ Z fun W D h=>?_
 rw[show(⟨A7,mark,hh,Cf,v,EP,i,node,e,Ae,.DZ⟩:Hp).Au C.M l=_ from if_neg (ne_of_beq_false hb0)];exact⟨D,⟨rfl,rfl,_,_,_,⟨rfl,rfl⟩,h⟩,fun _ hk=>hk⟩
theorem E6{m:Hp}(hM:C.M.Ok)(hm:m.Ok)(hr: ∀a,Bf (ld l a))(hn:m.next= .Ot):Rk C d m l (m.Au C.M l).1 (m.Au C.M l).2:=by
 obtain⟨A7,mark,hh,Cf,v,EP,i,node,e,Ae,nx⟩:=m;obtain rfl:nx= .Ot:=hn;rintro dv nv RN ⟨rfl,rfl⟩;refine⟨159,[AX d],[],rfl,yq,?_⟩;exact Ci 24 Tryz.func159 Z (Ac Aa _) fun w0 D0=>Gu Aa<|T.seq<|Ey 16 0 32768 (by kernel_rfl)<|AP 10 [] Z<|CB Z g36 (X0) Aa<|CB Z UT (EH Aa) Aa<|Ic Z FP Eu (RX _)<|AY 12 [0,32] Z<|T.BJ Z fun W D h=>⟨D,⟨rfl,rfl,_,_,_,⟨rfl,rfl⟩,h⟩,fun _ hk=>hk⟩
theorem Re{m:Hp}(hM:C.M.Ok)(hm:m.Ok)(hr: ∀a,Bf (ld l a))(hn:m.next= .swap):Rk C d m l (m.Au C.M l).1 (m.Au C.M l).2:=by
 obtain⟨A7,mark,hh,Cf,v,EP,i,node,e,Ae,nx⟩:=m;obtain rfl:nx= .swap:=hn;rintro dv nv RN ⟨rfl,rfl⟩;refine⟨184,[AX d],[],rfl,yr,?_⟩;refine Ci 54 Tryz.func184 Z (Ac Aa _) fun w0 D0=>Gu Aa<|T.seq<|Ey 28 1 150994944 (by kernel_rfl)<|AP 10 [] Z<|CB Z lf (UO) Aa<|AP 12 [] Z<|CB Z vE (zK Aa hm.h hm.Cf) Aa<|Ls Z ry (Si Aa (PL hm.Cf)) Aa (Bv Z Aw)<|AP 2 [] Z<|KQ Z o4 Z .z Z .z (Aj (by kernel_rfl) Aw)<|X.nil<|T.block<|CW 8 [] Z<|T.cond Z ?_ ?_
 ·intro hb0;refine CW 8 [32] Z<|T.Bj<|T.BJ Z fun W D h=>?_
  rw[show(⟨A7,mark,hh,Cf,v,EP,i,node,e,Ae,.swap⟩:Hp).Au C.M l=_ from if_pos hb0];exact⟨D,⟨rfl,rfl,_,_,_,⟨rfl,rfl⟩,h⟩,fun _ hk=>hk⟩
 intro hb0;refine CW 9 [] Z<|T.cond Z ?_ ?_
 ·intro hb1;refine AZ 2 [2] Z<|Kt (H1:=[]) (H2:=_::_) (Ju:=_::_) Z f' Z (pR Aa) Aa Z Aw<|X.nil<|T.Bj<|T.BJ Z fun W D h=>?_
  rw[show(⟨A7,mark,hh,Cf,v,EP,i,node,e,Ae,.swap⟩:Hp).Au C.M l=_ from(if_neg (by rw[hb0];exact Bool.false_ne_true)).trans (if_pos (eq_of_beq hb1))];exact⟨D,⟨rfl,rfl,_,_,_,⟨rfl,rfl⟩,h⟩,fun _ hk=>hk⟩
 intro hb1;refine CW 8 [32] Z<|T.Bj<|T.BJ Z fun W D h=>?_
 rw[show(⟨A7,mark,hh,Cf,v,EP,i,node,e,Ae,.swap⟩:Hp).Au C.M l=_ from(if_neg (by rw[hb0];exact Bool.false_ne_true)).trans (if_neg (ne_of_beq_false hb1))];exact⟨D,⟨rfl,rfl,_,_,_,⟨rfl,rfl⟩,h⟩,fun _ hk=>hk⟩
theorem xh{m:Hp}(hM:C.M.Ok)(hm:m.Ok)(hr: ∀a,Bf (ld l a))(hn:m.next= .Ea):Rk C d m l (m.Au C.M l).1 (m.Au C.M l).2:=by
 obtain⟨A7,mark,hh,Cf,v,EP,i,node,e,Ae,nx⟩:=m;obtain rfl:nx= .Ea:=hn;have hs:0≤A7∧A7≤4294967295:=by have h1:0≤A7∧A7≤1000:=hm.A7.resolve_right (fun h=>nomatch h);omega
 have hs6:Bf A7:=by unfold Bf;omega
 rintro dv nv RN ⟨rfl,rfl⟩;refine⟨208,[AX d],[],rfl,ys,?_⟩;exact Ci 25 Tryz.func208 Z (Ac Aa _) fun w0 D0=>Gu Aa<|T.seq<|Ey 16 0 32768 (by kernel_rfl)<|AP 9 [] Z<|CB Z kx (PH) Aa<|AP 4 [] Z<|Ic Z FV Ej (Oh hs)<|Ls Z Q7 (Jw Aa hs6) Aa Aw<|AP 4 [32] Z<|OT (H1:=[]) (H2:=_::_) Z i' Z (eQ Aa) Aa<|AY 4 [] Z<|T.BJ Z fun W D h=>⟨D,⟨rfl,rfl,_,_,_,zZ rfl,h⟩,fun _ hk=>hk⟩
theorem Rg{m:Hp}(hM:C.M.Ok)(hm:m.Ok)(hr: ∀a,Bf (ld l a))(hn:m.next= .En):Rk C d m l (m.Au C.M l).1 (m.Au C.M l).2:=by
 obtain⟨A7,mark,hh,Cf,v,EP,i,node,e,Ae,nx⟩:=m;obtain rfl:nx= .En:=hn;rintro dv nv RN ⟨rfl,rfl⟩;refine⟨244,[AX d],[],rfl,yv,?_⟩;exact Ci 31 Tryz.func244 Z (Ac Aa _) fun w0 D0=>Gu Aa<|T.seq<|Ey 15 0 16384 (by kernel_rfl)<|AP 13 [] Z<|CB Z iB (iY Aa hM) Aa<|Ls Z Q7 (Jw Aa (by omega)) Aa Aw<|AP 7 [128] Z<|BU (c:=i+1) Z (EG (WK hm.i))<|AP 7 [0,32] Z<|OT (H1:=[]) (H2:=_::_) Z i' Z (eQ Aa) Aa<|AY 4 [] Z<|T.BJ Z fun W D h=>⟨D,⟨rfl,rfl,_,_,_,zZ rfl,h⟩,fun _ hk=>hk⟩
theorem E7{m:Hp}(hM:C.M.Ok)(hm:m.Ok)(hr: ∀a,Bf (ld l a))(hn:m.next= .Lp):Rk C d m l (m.Au C.M l).1 (m.Au C.M l).2:=by
 obtain⟨A7,mark,hh,Cf,v,EP,i,node,e,Ae,nx⟩:=m;obtain rfl:nx= .Lp:=hn;rintro dv nv RN ⟨rfl,rfl⟩;refine⟨245,[AX d],[],rfl,yy,?_⟩;exact Ci 24 Tryz.func245 Z (Ac Aa _) fun w0 D0=>Gu Aa<|T.seq<|Ey 15 0 16384 (by kernel_rfl)<|AP 9 [] Z<|CB Z N1 (XZ) Aa<|AP 4 [] Z<|Ls Z Q7 (Jw Aa hm.mark) Aa Aw<|AY 9 [32] Z<|T.BJ Z fun W D h=>⟨D,⟨rfl,rfl,_,_,_,⟨rfl,rfl⟩,h⟩,fun _ hk=>hk⟩
theorem E9{m:Hp}(hM:C.M.Ok)(hm:m.Ok)(hr: ∀a,Bf (ld l a))(hn:m.next= .state):Rk C d m l (m.Au C.M l).1 (m.Au C.M l).2:=by
 obtain⟨A7,mark,hh,Cf,v,EP,i,node,e,Ae,nx⟩:=m;obtain rfl:nx= .state:=hn;rintro dv nv RN ⟨rfl,rfl⟩;refine⟨255,[AX d],[],rfl,za,?_⟩;exact Ci 40 Tryz.func255 Z (Ac Aa _) fun w0 D0=>Gu Aa<|T.seq<|Ey 11 0 1024 (by kernel_rfl)<|AP 9 [] Z<|CB Z ky (Q3) Aa<|Ls Z Q7 (Jw Aa (by omega)) Aa Aw<|AY 17 [2304] Z<|Ey 13 0 4096 (by kernel_rfl)<|AP 9 [] Z<|Fp Z LW Ih Z<|AY 10 [0,8] Z<|T.BJ Z fun W D h=>⟨D,⟨rfl,rfl,_,_,_,⟨rfl,rfl⟩,h⟩,fun _ hk=>hk⟩
theorem mA{m:Hp}(hM:C.M.Ok)(hm:m.Ok)(hr: ∀a,Bf (ld l a))(hn:m.next≠ .nil):Rk C d m l (m.Au C.M l).1 (m.Au C.M l).2:=by
 cases h:m.next with
 |nil=>exact(hn h).elim
 |DZ=>exact Rd hM hm hr h
 |Ot=>exact E6 hM hm hr h
 |swap=>exact Re hM hm hr h
 |Ea=>exact xh hM hm hr h
 |En=>exact Rg hM hm hr h
 |Lp=>exact E7 hM hm hr h
 |state=>exact E9 hM hm hr h
theorem Hp.G9{m:Hp}(hm:m.Ok):({m with Ae:=BH}:Hp).Ok:=⟨hm.A7,hm.mark,hm.h,hm.Cf,hm.v,hm.EP,hm.i,hm.lt,hm.sl⟩
theorem xk{m:Hp}(hM:C.M.Ok)(hm:m.Ok)(hr: ∀a,Bf (ld l a)):Cv C 118 [AX d,AX C.s] l (aS C d m) (.bool (decide ((m.step C.M l).1.next= .nil))) (m.step C.M l).2 (aS C d (m.step C.M l).1):=by
 by_cases hn:m.next= .nil
 ·have e:m.step C.M l=({m with Ae:=BH},l):=by unfold Hp.step Hp.Au;rw[show({m with Ae:=BH}:Hp).next= .nil from hn]
  rw[e,show decide (({m with Ae:=BH}:Hp).next= .nil)=true from decide_eq_true hn];exact l8 hn
 exact Rc (mA hM (Hp.G9 hm) hr hn)
theorem Hp.Ef(hM:M.Ok){m:Hp}(hm:m.Ok)(hr: ∀a,Bf (ld l a)):(m.step M l).1.Ok:=by
 have hk: ∀{n:ki},m.next=n→n≠ .nil→0≤m.A7∧m.A7≤1000:=fun h h'=>hm.A7.resolve_right (fun e=>h' (h.symm.trans e))
 unfold Hp.step Hp.Au;split
 ·exact Hp.G9 hm
 ·rename_i hn;have hs:=hk hn (fun h=>nomatch h);have ht:=hm.lt hn;have h4:0≤m.EP+1∧m.EP+1≤4:=by have:=hm.EP;omega
  split
  ·exact⟨.inl hs,hm.mark,hr _,hm.Cf,KF _,h4,hm.i,(fun h=>nomatch h),fun h=>nomatch h⟩
  exact⟨.inl hs,hm.mark,hr _,hm.Cf,KF _,h4,hm.i,(fun h=>nomatch h),fun h=>nomatch h⟩
 ·rename_i hn;exact⟨.inl (hk hn (fun h=>nomatch h)),hm.mark,hm.h,Kv _,hm.v,hm.EP,hm.i,(fun h=>nomatch h),fun h=>nomatch h⟩
 ·rename_i hn;have hs:=hk hn (fun h=>nomatch h);split
  ·exact⟨.inl hs,hm.mark,hm.h,hm.Cf,hm.v,hm.EP,hm.i,(fun h=>nomatch h),fun h=>nomatch h⟩
  split
  ·exact⟨.inl hs,hm.mark,hm.h,hm.Cf,hm.v,hm.EP,hm.i,(fun h=>nomatch h),fun h=>nomatch h⟩
  rename_i h4;have:=hm.EP;exact⟨.inl hs,hm.mark,hm.h,hm.Cf,hm.v,hm.EP,hm.i,(fun _=>by simp only at h4⊢;omega),fun h=>nomatch h⟩
 ·rename_i hn;refine⟨.inl (hk hn (fun h=>nomatch h)),hm.mark,hm.h,hm.Cf,hm.v,hm.EP,hm.i,fun h=>?_,fun h=>?_⟩
  ·simp only[Hp.rest] at h;split at h<;>cases h
  simp only[Hp.rest] at h⊢
  have:=Fg hM m.v;split at h
  ·omega
  cases h
 ·rename_i hn;have hs:=hk hn (fun h=>nomatch h);have hi:=hm.sl hn;have hi0:=hm.i;refine⟨.inl hs,hm.mark,hm.h,hm.Cf,hm.v,hm.EP,by simp only;omega,fun h=>?_,fun h=>?_⟩
  ·simp only[Hp.rest] at h;split at h<;>cases h
  simp only[Hp.rest] at h⊢
  have:=Fg hM m.v;split at h
  ·omega
  cases h
 ·rename_i hn;exact⟨.inl (hk hn (fun h=>nomatch h)),hm.mark,hm.h,hm.Cf,hm.v,hm.EP,hm.i,(fun h=>nomatch h),fun h=>nomatch h⟩
 exact⟨.inr rfl,hm.mark,hm.h,hm.Cf,hm.v,hm.EP,hm.i,(fun h=>nomatch h),fun h=>nomatch h⟩
theorem Hp.D8{m:Hp}(hm:m.Ok)(hr:Nc l):Nc (m.step M l).2:=by
 unfold Hp.step Hp.Au;split
 ·exact hr
 ·split<;>exact hr
 ·exact hr
 ·split
  ·exact hr.KL (PL hm.Cf)
  split<;>exact hr.KL (PL hm.Cf)
 ·rename_i hn;have:=hm.A7.resolve_right (fun e=>by rw[show m.next= .Ea from hn] at e;cases e);exact hr.put (by unfold Bf;simp only;omega)
 ·exact hr.put (by unfold Bf;omega)
 ·exact hr.put hm.mark
 exact hr.put (by unfold Bf;omega)
theorem wH{k:Int}(hk:0≤k∧k<5):Cv C 79 [.int .i64 k] l Cj (.bool true) l Cj:=by
 exact Ci 9 Tryz.func79 Z Aa fun w0 D0=>AZ 7 [] Z<|Du (c:=true) Z (decide_eq_true hk.1)<|AP 2 [] Z<|Du (c:=true) Z (decide_eq_true hk.2)<|Hz Z<|AY 2 [] Z<|T.BC Z fun W D h=>⟨D,⟨rfl,rfl,h⟩,fun _ hk=>hk⟩
theorem OB{k:Int}(hk:0≤k∧k<5):Cv C 50 [.int .i64 k] l Cj (.int .i64 (FM k)) l Cj:=by
 exact Ci 8 Tryz.func50 Z Aa fun w0 D0=>AZ 8 [] Z<|CB Z g79 (wH hk) Aa<|QO Z Z Z<|AP 6 [] Z<|Le Z EB (ae hk)<|AY 2 [] Z<|T.BC Z fun W D h=>⟨D,⟨rfl,rfl,h⟩,fun _ hk=>hk⟩
theorem j'{n:Int}:Cv C 123 [.int .i64 n] l Cj (.int .i64 (Bi n)) l Cj:=by
 refine Ci 17 Tryz.func123 Z Aa fun w0 D0=>CW 6 [] Z ?_
 by_cases hq:n<0
 ·skip;refine CW 3 [] Z<|T.block<|T.Q9 6<|CW 8 [] Z<|T.block<|AZ 8 [] Z<|Du (c:=false) Z (decide_eq_false (by omega))<|AP 5 [] Z<|Hz Z<|AY 3 [] Z<|T.Bj<|tx 2 nf Z<|BU (c:=1) Z (by decide)<|AY 2 [] Z<|T.EO<|CW 8 [] Z<|T.block<|AZ 8 [] Z<|Du (c:=false) Z (decide_eq_false (by omega))<|AP 5 [] Z<|Hz Z<|AY 3 [] Z<|T.Bj<|tx 2 nf Z<|BU (c:=2) Z (by decide)<|AY 2 [] Z<|T.EO<|CW 8 [] Z<|T.block<|AZ 8 [] Z<|Du (c:=false) Z (decide_eq_false (by omega))<|AP 5 [] Z<|Hz Z<|AY 3 [] Z<|T.Bj<|tx 2 nf Z<|BU (c:=3) Z (by decide)<|AY 2 [] Z<|T.EO<|CW 8 [] Z<|T.block<|AZ 8 [] Z<|Du (c:=false) Z (decide_eq_false (by omega))<|AP 5 [] Z<|Hz Z<|AY 3 [] Z<|T.Bj<|tx 2 nf Z<|BU (c:=4) Z (by decide)<|AY 2 [] Z<|T.EO<|CW 8 [] Z<|T.block<|AZ 8 [] Z<|Du (c:=false) Z (decide_eq_false (by omega))<|AP 5 [] Z<|Hz Z<|AY 3 [] Z<|T.Bj<|tx 2 nf Z<|BU (c:=5) Z (by decide)<|AY 2 [] Z<|T.EO<|CW 6 [] Z<|T.exit<|TE.O3<|TE.DC<|CW 4 [] Z<|T.BC Z fun W D h=>?_
  rw[show Bi n=_ from if_pos (by omega)];exact⟨D,⟨rfl,rfl,h⟩,fun _ hk=>hk⟩
 skip;refine CW 3 [] Z<|T.block<|T.Q9 6<|CW 8 [] Z<|T.block<|AZ 8 [] Z<|Du (c:=true) Z (decide_eq_true (by omega))<|AP 3 [] Z<|CB Z tD (OB (k:=0) (by decide)) Aa<|Du Z Z<|Hz Z<|X.nil<|T.cond Z ?_ ?_
 ·intro hb1;have c0:n≤1:=of_decide_eq_true hb1;refine CW 5 [] Z<|T.J8<|TE.CJ<|TE.KG<|TE.CJ<|TE.BC rfl fun W D h=>?_
  rw[show Bi n=_ from(if_neg (by omega)).trans (if_pos c0)];exact⟨D,⟨rfl,rfl,h⟩,fun _ hk=>hk⟩
 intro hb1;have c0: ¬n≤1:=of_decide_eq_false hb1;refine T.skip<|T.Bj<|tx 2 nf Z<|BU (c:=1) Z (by decide)<|AY 2 [] Z<|T.EO<|CW 8 [] Z<|T.block<|AZ 8 [] Z<|Du (c:=true) Z (decide_eq_true (by omega))<|AP 3 [] Z<|CB Z tD (OB (k:=1) (by decide)) Aa<|Du Z Z<|Hz Z<|X.nil<|T.cond Z ?_ ?_
 ·intro hb2;have c1:n≤2:=of_decide_eq_true hb2;refine CW 5 [] Z<|T.J8<|TE.CJ<|TE.KG<|TE.CJ<|TE.BC rfl fun W D h=>?_
  rw[show Bi n=_ from(if_neg (by omega)).trans ((if_neg c0).trans (if_pos c1))];exact⟨D,⟨rfl,rfl,h⟩,fun _ hk=>hk⟩
 intro hb2;have c1: ¬n≤2:=of_decide_eq_false hb2;refine T.skip<|T.Bj<|tx 2 nf Z<|BU (c:=2) Z (by decide)<|AY 2 [] Z<|T.EO<|CW 8 [] Z<|T.block<|AZ 8 [] Z<|Du (c:=true) Z (decide_eq_true (by omega))<|AP 3 [] Z<|CB Z tD (OB (k:=2) (by decide)) Aa<|Du Z Z<|Hz Z<|X.nil<|T.cond Z ?_ ?_
 ·intro hb3;have c2:n≤4:=of_decide_eq_true hb3;refine CW 5 [] Z<|T.J8<|TE.CJ<|TE.KG<|TE.CJ<|TE.BC rfl fun W D h=>?_
  rw[show Bi n=_ from(if_neg (by omega)).trans ((if_neg c0).trans ((if_neg c1).trans (if_pos c2)))];exact⟨D,⟨rfl,rfl,h⟩,fun _ hk=>hk⟩
 intro hb3;have c2: ¬n≤4:=of_decide_eq_false hb3;refine T.skip<|T.Bj<|tx 2 nf Z<|BU (c:=3) Z (by decide)<|AY 2 [] Z<|T.EO<|CW 8 [] Z<|T.block<|AZ 8 [] Z<|Du (c:=true) Z (decide_eq_true (by omega))<|AP 3 [] Z<|CB Z tD (OB (k:=3) (by decide)) Aa<|Du Z Z<|Hz Z<|X.nil<|T.cond Z ?_ ?_
 ·intro hb4;have c3:n≤8:=of_decide_eq_true hb4;refine CW 5 [] Z<|T.J8<|TE.CJ<|TE.KG<|TE.CJ<|TE.BC rfl fun W D h=>?_
  rw[show Bi n=_ from(if_neg (by omega)).trans ((if_neg c0).trans ((if_neg c1).trans ((if_neg c2).trans (if_pos c3))))];exact⟨D,⟨rfl,rfl,h⟩,fun _ hk=>hk⟩
 intro hb4;have c3: ¬n≤8:=of_decide_eq_false hb4;refine T.skip<|T.Bj<|tx 2 nf Z<|BU (c:=4) Z (by decide)<|AY 2 [] Z<|T.EO<|CW 8 [] Z<|T.block<|AZ 8 [] Z<|Du (c:=true) Z (decide_eq_true (by omega))<|AP 3 [] Z<|CB Z tD (OB (k:=4) (by decide)) Aa<|Du Z Z<|Hz Z<|X.nil<|T.cond Z ?_ ?_
 ·intro hb5;have c4:n≤16:=of_decide_eq_true hb5;refine CW 5 [] Z<|T.J8<|TE.CJ<|TE.KG<|TE.CJ<|TE.BC rfl fun W D h=>?_
  rw[show Bi n=_ from(if_neg (by omega)).trans ((if_neg c0).trans ((if_neg c1).trans ((if_neg c2).trans ((if_neg c3).trans (if_pos c4)))))];exact⟨D,⟨rfl,rfl,h⟩,fun _ hk=>hk⟩
 intro hb5;have c4: ¬n≤16:=of_decide_eq_false hb5;refine T.skip<|T.Bj<|tx 2 nf Z<|BU (c:=5) Z (by decide)<|AY 2 [] Z<|T.EO<|CW 6 [] Z<|T.exit<|TE.O3<|TE.DC<|CW 4 [] Z<|T.BC Z fun W D h=>?_
 rw[show Bi n=_ from(if_neg (by omega)).trans ((if_neg c0).trans ((if_neg c1).trans ((if_neg c2).trans ((if_neg c3).trans (if_neg c4)))))];exact⟨D,⟨rfl,rfl,h⟩,fun _ hk=>hk⟩
theorem Fc{s mk:Int}:Cn C 98 [AX C.m,.int .i64 s,.int .u64 mk] l Cj l (fun q=>aS C q (.new s mk)):=by
 refine Ci 33 Tryz.func98 Z Aa fun w0 D0=>AZ 9 [0,64] Z<|CB Z yo (j') Aa<|NC Z<|Fp Z zc zd Z<|F7 Z CE fun b0=>AP 6 [] Z<|iW Z Z Z Z PK<|AP 6 [] Z<|Hz Z<|X.nil<|T.cond Z ?_ ?_
 ·intro hb0;have hc:Bi s≥0:=of_decide_eq_true hb0;refine CW 17 [576] Z<|T.BC Z fun W D h=>?_
  have e:Hp.new s mk=⟨s,mk,0,0,0,0,0,0,0,BH,.DZ⟩:=by unfold Hp.new;rw[if_pos hc,if_pos hc]
  rw[e];exact⟨D,⟨_,rfl,rfl,_,_,_,⟨rfl,rfl⟩,h⟩,fun _ hk=>hk⟩
 intro hb0;have hc: ¬Bi s≥0:=of_decide_eq_false hb0;refine CW 6 [] Z<|T.BC Z fun W D h=>?_
 have e:Hp.new s mk=⟨s,mk,0,0,0,0,0,0,21,BH,.nil⟩:=by unfold Hp.new;rw[if_neg hc,if_neg hc]
 rw[e];exact⟨D,⟨_,rfl,rfl,_,_,_,⟨rfl,rfl⟩,h⟩,fun _ hk=>hk⟩
theorem Rm{m:Hp}:Cv C 119 [AX d] l (aS C d m) (.tuple #[.int .i64 m.node,.int .i64 m.e]) l (aS C d m):=by
 refine Ci 14 Tryz.func119 Z GG fun w0 D0=>T.ex (fun _=>Bd Gw) ?_
 intro dv;refine T.MX (H:=[]) Gw ?_;intro nv RN hN hl;have hi:=Zi hN;exact CW 14 [] Z<|Ey 10 0 0 (by kernel_rfl)<|AY 11 [] Z<|T.YJ Z fun W D h=>⟨D,⟨rfl,rfl,dv,nv,RN,hN,h⟩,fun _ hk=>hk⟩
theorem aO.sub{D1:LV}(h:aO C w D)(hs: ∀k,D1 k→D k):aO C w D1:=
 ⟨h.map,fun k hk=>h.lt k (hs k hk),h.ls,fun hk=>h.ns (hs _ hk),fun hk=>h.ng (hs _ hk),⟨fun hk=>h.nm.1 (hs _ hk),h.nm.2⟩,⟨fun hk=>h.na.1 (hs _ hk),h.na.2⟩,⟨fun hk=>h.nr.1 (hs _ hk),h.nr.2⟩⟩
theorem Ct.FD{args:Array Value}{R:BB}{Q:Value→Dk→BB}(h:Ct C f args l R Q)(hF:CV F):Ct C f args l (BG R F) fun v l'=>BG (Q v l') F:=by
 rintro w D ha hm ⟨D1,D2,h1,h2,h3,h4⟩;refine(h w D1 (ha.sub fun k hk=>(h4 k).2 (.inl hk)) hm h1).mono ?_;rintro e w' ⟨v,l',D',rfl,hm',hQ,hc,hD'⟩;have hF':F D2 w':=hF D2 w w' h2 (fun k hk=>hc.block k (ha.lt k ((h4 k).2 (.inr hk))) (by
  rintro(h5|rfl|rfl)
  ·exact h3 k h5 hk
  ·exact ha.ns ((h4 _).2 (.inr hk))
  exact ha.ng ((h4 _).2 (.inr hk))))
 refine⟨v,l',fun k=>D' k∨D2 k,rfl,hm',⟨D',D2,hQ,hF',fun k hk h5=>?_,fun k=>Iff.rfl⟩,hc.mono ?_,fun k hk=>?_⟩
 ·rcases(hD' k hk).2 with h6|h6
  ·exact h3 k h6 h5
  have:=ha.lt k ((h4 k).2 (.inr h5));omega
 ·rintro k (h5|h5)
  ·exact .inl ((h4 k).2 (.inl h5))
  exact .inr h5
 rcases hk with hk|hk
 ·exact⟨(hD' k hk).1,(hD' k hk).2.imp (fun h5=>(h4 k).2 (.inl h5)) id⟩
 have h5:=(h4 k).2 (.inr hk);exact⟨Nat.lt_of_lt_of_le (ha.lt k h5) hc.size,.inl h5⟩
theorem Ct.mono{args:Array Value}{R:BB}{Q Q':Value→Dk→BB}(h:Ct C f args l R Q)(hq: ∀v m D w,Q v m D w→ ∃D',Q' v m D' w∧ ∀k,D' k→D k):Ct C f args l R Q':=fun w D ha hm hR=>
 (h w D ha hm hR).mono fun e w' ⟨v,l',D',he,hm',hQ,hc,hD⟩=>by
  obtain⟨D2,h1,h2⟩:=hq v l' D' w' hQ;exact⟨v,l',D2,he,hm',h1,hc,fun k hk=>hD k (h2 k hk)⟩
theorem Cv.FD{R:BB}(h:Cv C f args l R v l' R')(hF:CV F):Cv C f args l (BG R F) v l' (BG R' F):=
 (Ct.FD h hF).mono fun u m D w ⟨D1,D2,⟨h1,h2,h3⟩,h4,h5,h6⟩=>⟨D,⟨h1,h2,D1,D2,h3,h4,h5,h6⟩,fun _ hk=>hk⟩
theorem Cn.FD{R:BB}{R':Nat→BB}(h:Cn C f args l R l' R')(hF:CV F):Cn C f args l (BG R F) l' (fun q=>BG (R' q) F):=
 (Ct.FD h hF).mono fun u m D w ⟨D1,D2,⟨q,h1,h2,h3⟩,h4,h5,h6⟩=>⟨D,⟨q,h1,h2,D1,D2,h3,h4,h5,h6⟩,fun _ hk=>hk⟩
theorem Qs{R:BB}(h: ∀D w,R D w↔R' D w):R=R':=funext fun D=>funext fun w=>propext (h D w)
theorem Rp{D':LV}(h: ∀k,D k↔D' k):D=D':=funext fun k=>propext (h k)
theorem D9(R F:BB):BG R F=BG F R:=Qs fun D w=>⟨fun⟨D1,D2,h1,h2,h3,h4⟩=>⟨D2,D1,h2,h1,fun k hk h5=>h3 k h5 hk,fun k=>(h4 k).trans Or.comm⟩,fun⟨D1,D2,h1,h2,h3,h4⟩=>⟨D2,D1,h2,h1,fun k hk h5=>h3 k h5 hk,fun k=>(h4 k).trans Or.comm⟩⟩
theorem CO(R F G:BB):BG (BG R F) G=BG R (BG F G):=Qs fun D w=>by
 constructor
 ·rintro⟨D1,D2,⟨E1,E2,h1,h2,h3,h4⟩,h5,h6,h7⟩;refine⟨E1,fun k=>E2 k∨D2 k,h1,⟨E2,D2,h2,h5,fun k hk=>h6 k ((h4 k).2 (.inr hk)),fun _=>Iff.rfl⟩,?_,fun k=>?_⟩
  ·rintro k hk (h8|h8)
   ·exact h3 k hk h8
   exact h6 k ((h4 k).2 (.inl hk)) h8
  rw[h7,h4,or_assoc]
 rintro⟨D1,D2,h1,⟨E1,E2,h2,h5,h3,h4⟩,h6,h7⟩;refine⟨fun k=>D1 k∨E1 k,E2,⟨D1,E1,h1,h2,fun k hk h8=>h6 k hk ((h4 k).2 (.inl h8)),fun _=>Iff.rfl⟩,h5,?_,fun k=>?_⟩
 ·rintro k (hk|hk) h8
  ·exact h6 k hk ((h4 k).2 (.inr h8))
  exact h3 k hk h8
 rw[h7,h4,or_assoc]
theorem Gl(F:BB):BG Cj F=F:=Qs fun D w=>by
 constructor
 ·rintro⟨D1,D2,h1,h2,h3,h4⟩;have:D=D2:=Rp fun k=>by rw[h4];exact⟨fun h=>h.resolve_left (h1 k),.inr⟩
  rw[this];exact h2
 exact fun h=>⟨fun _=>False,D,fun _ h=>h,h,fun _ h=>h.elim,fun k=>by simp⟩
theorem jH(F:BB):BG F Cj=F:=by rw[D9,Gl]
theorem Rs(x:Bk)(R F:BB):BG (blk x R) F=blk x (BG R F):=Qs fun D w=>by
 constructor
 ·rintro⟨D1,D2,⟨h1,E,h2,h3,h4⟩,h5,h6,h7⟩;refine⟨h1,fun k=>E k∨D2 k,⟨E,D2,h2,h5,fun k hk=>h6 k ((h4 k).2 (.inr hk)),fun _=>Iff.rfl⟩,?_,fun k=>?_⟩
  ·rintro(h8|h8)
   ·exact h3 h8
   exact h6 _ ((h4 _).2 (.inl rfl)) h8
  rw[h7,h4,or_assoc]
 rintro⟨h1,E,⟨D1,D2,h2,h5,h3,h4⟩,h6,h7⟩;refine⟨fun k=>k=x.b∨D1 k,D2,⟨h1,D1,h2,fun h8=>h6 ((h4 _).2 (.inl h8)),fun _=>Iff.rfl⟩,h5,?_,fun k=>?_⟩
 ·rintro k (rfl|hk) h8
  ·exact h6 ((h4 _).2 (.inr h8))
  exact h3 k hk h8
 rw[h7,h4,or_assoc]
theorem EK: ∀(H:List Bk) (R F:BB),BG (Az H R) F=Az H (BG R F)
 |[],_,_=>rfl
 |x::H,R,F=>by
  show BG (blk x (Az H R)) F=blk x (Az H (BG R F));rw[Rs,EK H R F]
theorem wI{α:Sort _}(R:α→BB)(F:BB):BG (fun D w=> ∃a,R a D w) F=fun D w=> ∃a,BG (R a) F D w:=Qs fun D w=>
 ⟨fun⟨D1,D2,⟨a,h1⟩,h2,h3,h4⟩=>⟨a,D1,D2,h1,h2,h3,h4⟩,fun⟨a,D1,D2,h1,h2,h3,h4⟩=>⟨D1,D2,⟨a,h1⟩,h2,h3,h4⟩⟩
theorem ag(p:Prop)(R F:BB):BG (fun D w=>p∧R D w) F=fun D w=>p∧BG R F D w:=Qs fun D w=>
 ⟨fun⟨D1,D2,⟨hp,h1⟩,h2,h3,h4⟩=>⟨hp,D1,D2,h1,h2,h3,h4⟩,fun⟨hp,D1,D2,h1,h2,h3,h4⟩=>⟨D1,D2,⟨hp,h1⟩,h2,h3,h4⟩⟩
def Wk(R R':BB):Prop:= ∀D w,R D w→ ∃D',R' D' w∧ ∀k,D' k→D k
theorem Wk.refl(R:BB):Wk R R:=fun D w h=>⟨D,h,fun _ h=>h⟩
theorem Wk.of{R:BB}(h: ∀D w,R D w→R' D w):Wk R R':=fun D w k=>⟨D,h D w k,fun _ h=>h⟩
theorem Wk.trans{R R'':BB}(h:Wk R R')(k:Wk R' R''):Wk R R'':=fun D w h1=>by
 obtain⟨D1,h2,h3⟩:=h D w h1;obtain⟨D2,h4,h5⟩:=k D1 w h2;exact⟨D2,h4,fun x hx=>h3 x (h5 x hx)⟩
theorem Wk.Cj(R:BB):Wk R Cj:=fun D w h=>⟨fun _=>False,fun _ h=>h,fun _ h=>h.elim⟩
theorem Wk.BG{R F':BB}(h:Wk R R')(k:Wk F F'):Wk (BG R F) (BG R' F'):=fun D w ⟨D1,D2,h1,h2,h3,h4⟩=>by
 obtain⟨E1,g1,g2⟩:=h D1 w h1;obtain⟨E2,g3,g4⟩:=k D2 w h2;exact⟨fun k=>E1 k∨E2 k,⟨E1,E2,g1,g3,fun k h5 h6=>h3 k (g2 k h5) (g4 k h6),fun _=>Iff.rfl⟩,fun k hk=>(h4 k).2 (hk.imp (g2 k) (g4 k))⟩
theorem Wk.right{R:BB}:Wk (Mo.BG R F) F:=fun D w ⟨D1,D2,h1,h2,h3,h4⟩=>⟨D2,h2,fun k hk=>(h4 k).2 (.inr hk)⟩
theorem Wk.blk{x:Bk}{R:BB}(h:Wk R R'):Wk (blk x R) (blk x R'):=fun D w ⟨h1,D1,h2,h3,h4⟩=>by
 obtain⟨D2,g1,g2⟩:=h D1 w h2;exact⟨fun k=>k=x.b∨D2 k,⟨h1,D2,g1,fun h5=>h3 (g2 _ h5),fun _=>Iff.rfl⟩,fun k hk=>(h4 k).2 (hk.imp id (g2 k))⟩
theorem Wk.Az{R R':BB}(h:Wk R R'): ∀H,Wk (Az H R) (Az H R')
 |[]=>h
 |x::H=>Wk.blk (Wk.Az h H)
theorem Wk.tail{x:Bk}{R:BB}:Wk (Mo.blk x R) R:=fun D w ⟨h1,D1,h2,h3,h4⟩=>⟨D1,h2,fun k hk=>(h4 k).2 (.inr hk)⟩
theorem Wk.drop(H:List Bk)(R:BB):Wk (Mo.Az H R) R:=by
 induction H with
 |nil=>exact Wk.refl _
 |cons x H ih=>exact Wk.tail.trans ih
theorem Wk.pick(is:List Nat)(hn:is.Nodup){R:BB}:Wk (Mo.Az H R) (Mo.Az (Mo.pick H is) R):=fun D w h=>D6 is hn h
section
variable{R:BB}
theorem Sy.Jc(h:Sy C w0 D0 l H R w)(hl:CV R')(hk:Wk (Az H R) (Az H' R')):Sy C w0 D0 l H' R' w:=by
 obtain⟨D,h1,h2⟩:=h.NK;obtain⟨D',h3,h4⟩:=hk D w h1;exact⟨h.OW,h.Kr,h.mem,hl,D',h3,fun k hk=>h2 k (h4 k hk)⟩
variable{r:List Code}
theorem T.Jc[Inhabited (List Deferred)](hl:CV R')(hk:Wk (Az H R) (Az H' R'))(h:T Q n r (Sy C w0 D0 l H' R') e):T Q n r (Sy C w0 D0 l H R) e:=T.conv (fun w hS=>hS.Jc hl hk) h
end
def Cc(C:Cx)(f:Nat)(args:List Value)(l:Dk)(v:Nat→Nat→Value)(B:Nat→Nat→List Bk):Prop:=Ct C f args.toArray l Cj fun u m D w=> ∃a b,u=v a b∧m=l∧Az (B a b) Cj D w
section
variable{R:BB}
theorem Sy.y'{v:Nat→Nat→Value}{B:Nat→Nat→List Bk}(h:Sy C w0 D0 l H R w)(hc:Cc C f args l v B):Calls Tryz.prog f args.toArray w fun e w'=> ∃a b,e= .returned (v a b)∧Sy C w0 D0 l (H++B a b) R w':=by
 have h0:=Ct.FD hc h.Qo;rw[Gl] at h0;refine(h.call h0 (fun u m=>?_)).mono ?_
 ·exact Ag (AQ fun a=>AQ fun b=>Ba (Ba (Ac Aa _))) h.Qo
 rintro e w' ⟨u,rfl,m,⟨D,w'',D1,D2,⟨a,b,rfl,rfl,-⟩,-⟩,hS⟩;have h1:=hS;rw[wI] at h1;obtain⟨a',h2⟩:=h1.MU (fun a=>by rw[wI];exact AQ fun b=>Ag (Ba (Ba (Ac Aa _))) h.Qo);rw[wI] at h2;obtain⟨b',h3⟩:=h2.MU (fun b=>Ag (Ba (Ba (Ac Aa _))) h.Qo);rw[ag,ag] at h3;obtain⟨h4,h5⟩:=h3.VS (Ba (Ag (Ac Aa _) h.Qo));obtain⟨-,h6⟩:=h5.VS (Ag (Ac Aa _) h.Qo);rw[EK,Gl] at h6;exact⟨a',b',by rw[h4],h6.unfold h.Qo⟩
variable{lo:Nat→Bool}{d:Option Nat}{x:Operand}
theorem Fd{f:Operand}{g:Nat}{first:List Value}{v:Nat→Nat→Value}{B:Nat→Nat→List Bk}(ho:Aq[i]?=some ⟨d,.call ⟨.value f,a,LX⟩,ty,ps,af,none⟩)(hef:ef i=true)(hf:EF e f=some (.func (.func g) first.toArray captured.toArray))(ha:GV e a.toList=some args)(hg:Cm g=true)
  (hc:Cc C g (first++args++captured) l v B) (hp: ∀a b,Eh Aq i U (Sy C w0 D0 l (H++B a b) R) e)
  (h: ∀a b,X Tryz.prog Aq lo ef K rr (Sy C w0 D0 l (H++B a b) R) U (Dz d (v a b) e)):X Tryz.prog Aq lo ef K (i::rr) (Sy C w0 D0 l H R) U e:=
 FH (K':=fun u w'=> ∃a b,u=v a b∧Sy C w0 D0 l (H++B a b) R w') ho hef rfl (fun w hS=>Fe hf ha hg ((hS.y' hc).mono fun e w' ⟨a,b,h1,h2⟩=>⟨_,h1,a,b,rfl,h2⟩)) (fun u w' ⟨a,b,h1,h2⟩=>⟨_,h2,hp a b,by rw[h1];exact h a b⟩)
end
noncomputable def bM (t kt:Nat):Bool:=match Tryz.prog.underlying t with
 |some (.map k _)=>k==kt&&Ec kt (Qp .i64)
 |_=>false
def ah:List MapEntry→Int→Option Value
 |[],_=>none
 |e::r,k=>match e.key with
  | .int .i64 a=>bif a==k then some e.val else ah r k
  |_=>ah r k
def wJ(es:List MapEntry):Prop:= ∀e∈es,∃a,e.key= .int .i64 a
theorem Nj{e:MapEntry}{a:Int}(h:e.key= .int .i64 a)(r:List MapEntry)(k:Int):ah (e::r) k=bif a==k then some e.val else ah r k:=by
 simp only[ah,h]
theorem eU{d:TypeDesc}(hd:Qp .i64 d=true){k:Int}: ∀(es:List MapEntry) (j:Nat),wJ es→ah es k=none→Instr.findNow d (.int .i64 k) es j=some none
 |[],_,_,_=>rfl
 |e::r,j,hi,h=>by
  obtain⟨a,ha⟩:=hi e (by simp);rw[Nj ha] at h;cases hb:a==k with
  |true=>rw[hb] at h;cases h
  |false=>
   rw[hb] at h;have hne:(k==a)=false:=beq_eq_false_iff_ne.2 (beq_eq_false_iff_ne.1 hb).symm;cases d<;>first|(simp[Qp] at hd;done)|skip
   have:=eU (d:= .int _) hd r (j+1) (fun x hx=>hi x (by simp[hx])) h;simp[Instr.findNow,Instr.sameNow,ha,hne,this]
theorem Wj{d:TypeDesc}(hd:Qp .i64 d=true){k:Int}{v:Value}: ∀(es:List MapEntry) (j:Nat),wJ es→ah es k=some v→ ∃q,Instr.findNow d (.int .i64 k) es j=some (some (j+q,v))∧ ∃e,es[q]?=some e∧e.key= .int .i64 k
 |[],_,_,h=>nomatch h
 |e::r,j,hi,h=>by
  obtain⟨a,ha⟩:=hi e (by simp);rw[Nj ha] at h;cases d<;>first|(simp[Qp] at hd;done)|skip
  cases hb:a==k with
  |true=>
   rw[hb] at h;have hne:(k==a)=true:=beq_iff_eq.2 (beq_iff_eq.1 hb).symm;have:e.val=v:=Option.some.inj h;exact⟨0,by simp[Instr.findNow,Instr.sameNow,ha,hne,this],e,rfl,by rw[ha,beq_iff_eq.1 hb]⟩
  |false=>
   rw[hb] at h;have hne:(k==a)=false:=beq_eq_false_iff_ne.2 (beq_eq_false_iff_ne.1 hb).symm;obtain⟨q,hq,e',he,hk⟩:=Wj (d:= .int _) hd r (j+1) (fun x hx=>hi x (by simp[hx])) h;exact⟨q+1,by simp only[Instr.findNow,Instr.sameNow,ha,if_true,hne,hq];rw[show j+1+q=j+(q+1) by omega],e',by simpa using he,hk⟩
theorem pU{k k0:Int}{v:Value}{n:Nat}: ∀(es:List MapEntry),wJ es→ah (es++[MapEntry.mk (.int .i64 k) v n]) k0=match ah es k0 with|some u=>some u|none=>bif k==k0 then some v else none
 |[],_=>by simp[ah]
 |e::r,hi=>by
  obtain⟨a,ha⟩:=hi e (by simp);rw[List.cons_append,Nj ha,Nj ha,pU r (fun x hx=>hi x (by simp[hx]))];cases a==k0<;>rfl
theorem ai{k k0:Int}{v:Value}(hne:k≠k0): ∀(es:List MapEntry) (q:Nat) (e:MapEntry),wJ es→es[q]?=some e→e.key= .int .i64 k→ah (es.modify q (fun e=>{e with key:= .int .i64 k,val:=v})) k0=ah es k0
 |[],_,_,_,h,_=>by simp at h
 |e::r,0,e',hi,h,hk=>by
  obtain rfl:e=e':=by simpa using h
  have hb:(k==k0)=false:=beq_eq_false_iff_ne.2 hne;rw[List.modify_zero_cons,Nj (a:=k) rfl,Nj hk,hb];rfl
 |e::r,q+1,e',hi,h,hk=>by
  obtain⟨a,ha⟩:=hi e (by simp);rw[List.modify_succ_cons,Nj ha,Nj ha,ai hne r q e' (fun x hx=>hi x (by simp[hx])) (by simpa using h) hk]
theorem Fi{k:Int}{v:Value}{es:List MapEntry}(q:Nat)(hi:wJ es):wJ (es.modify q (fun e=>{e with key:= .int .i64 k,val:=v})):=fun e he=>by
 obtain⟨i,hi',hx⟩:=List.mem_iff_getElem.1 he;rw[List.getElem_modify] at hx;split at hx
 ·exact⟨k,by rw[←hx]⟩
 exact hi e (by rw[←hx];exact List.getElem_mem _)
theorem aj{kt:Nat}(h:bM t kt=true): ∃e d,Tryz.prog.underlying t=some (.map kt e)∧Tryz.prog.underlying kt=some d∧Qp .i64 d=true:=by
 unfold bM at h;split at h
 ·rename_i k e hu;simp only[Bool.and_eq_true,beq_iff_eq] at h;obtain⟨rfl,h2⟩:=h;have h3:=h2;unfold Ec at h3;cases hk:Tryz.prog.underlying k with
  |none=>simp[hk] at h3
  |some d=>exact⟨e,d,hu,rfl,by simpa[hk] using h3⟩
 cases h
theorem eX{d:TypeDesc}(hd:Qp .i64 d=true)(k:Int):MapKept.IsKey d (.int .i64 k):=by
 cases d<;>first|(simp[Qp] at hd;done)|skip
 have:=eq_of_beq hd;subst this;rfl
def pV(k0:Int)(ov:Option Value)(o:Obj):Prop:= ∃es ck,o= .map (List.toArray es) ck∧wJ es∧ah es k0=ov
theorem Rv{kt:Nat}{k:Int}{ov pW:Option Value}{o:Obj}(ht:bM t kt=true)(hb:w.heap[b]?=some o)(ho:pV k0 ov o)(hv:(k≠k0∧pW=ov)∨(k=k0∧ov=none∧pW=some v)):
  ∃o',(Instr.mapUpdate t (.map (some b)) (.int .i64 k) v).run Tryz.prog w= .ok () {w with heap:=w.heap.setIfInBounds b o'}∧pV k0 pW o':=by
 obtain⟨et,dd,h1,h2,h3⟩:=aj ht;obtain⟨es,ck,rfl,hi,hl⟩:=ho;have hk:=eX h3 k;cases hc:ah es k with
 |none=>
  have hf:=eU h3 es 0 hi hc;refine⟨.map (es++[MapEntry.mk (.int .i64 k) v ck]).toArray (ck+1),?_,_,_,rfl,?_,?_⟩
  ·have he:es.toArray.push (MapEntry.mk (.int .i64 k) v ck)=(es++[MapEntry.mk (.int .i64 k) v ck]).toArray:=List.push_toArray ..
   simp[Instr.mapUpdate,run_underlying h1,MapKept.run_getObj_map hb,MapKept.run_checkKey h2 hk,MapKept.run_findKey h2 hf,MapKept.run_setObj_map _ hb,Result.andThen,he]
  ·intro e he;rcases List.mem_append.1 he with he|he
   ·exact hi e he
   rw[List.mem_singleton.1 he];exact⟨k,rfl⟩
  rw[pU es hi,hl];rcases hv with⟨h4,rfl⟩|⟨rfl,rfl,rfl⟩
  ·rw[show(k==k0)=false from beq_eq_false_iff_ne.2 h4];cases pW<;>rfl
  simp
 |some u=>
  rcases hv with⟨h4,rfl⟩|⟨rfl,rfl,-⟩
  ·obtain⟨q,hf,e,he,hek⟩:=Wj h3 es 0 hi hc;rw[Nat.zero_add] at hf;refine⟨.map (es.modify q (fun e=>{e with key:= .int .i64 k,val:=v})).toArray ck,?_,_,_,rfl,Fi q hi,?_⟩
   ·have he2:es.toArray.modify q (fun e=>{e with key:= .int .i64 k,val:=v})=(es.modify q (fun e=>{e with key:= .int .i64 k,val:=v})).toArray:=by
     apply Array.ext';simp
    have hks:(Instr.keyThatStays (.int .i64 k) (.int .i64 k)).run Tryz.prog w= .ok (.int .i64 k) w:=by
     unfold Instr.keyThatStays;rw[if_pos (by unfold Instr.sameBits;simp)];rfl
    simp[Instr.mapUpdate,run_underlying h1,MapKept.run_getObj_map hb,MapKept.run_checkKey h2 hk,MapKept.run_findKey h2 hf,MapKept.run_setObj_map _ hb,Result.andThen,he,hek,hks,he2]
   rw[ai h4 es q e hi he hek,hl]
  rw[hl] at hc;cases hc
def Jd(b:Nat)(k0:Int)(ov:Option Value)(R:BB):BB:=fun D w=>(∃o,w.heap[b]?=some o∧pV k0 ov o)∧ ∃D1,R D1 w∧ ¬D1 b∧ ∀k,D k↔(k=b∨D1 k)
theorem pX{ov:Option Value}{R:BB}(h:CV R):CV (Jd b k0 ov R):=fun D w w' ⟨⟨o,h1,h5⟩,D1,h2,h3,h4⟩ hk=>
 ⟨⟨o,(hk b ((h4 _).2 (.inl rfl))).trans h1,h5⟩,D1,h D1 w w' h2 (fun k hd=>hk k ((h4 k).2 (.inr hd))),h3,h4⟩
theorem Wk.Jd{ov:Option Value}{R:BB}:Wk (Jd b k0 ov R) R:=fun D w ⟨h1,D1,h2,h3,h4⟩=>⟨D1,h2,fun k hk=>(h4 k).2 (.inr hk)⟩
section
variable{R:BB}
theorem jI{ov:Option Value}(h:Sy C w0 D0 l H (Jd b k0 ov R) w):(∃o,w.heap[b]?=some o∧pV k0 ov o)∧(D0 b∨w0.heap.size≤b):=by
 obtain⟨D,h1,h2⟩:=h.NK;obtain⟨D1,h3,h4⟩:=Wk.drop H _ D w h1;exact⟨h3.1,(h2 b (h4 b ((h3.2.choose_spec.2.2 b).2 (.inl rfl)))).2⟩
theorem Sy.ap(k0:Int)(h:Sy C w0 D0 l H R w):Sy C w0 D0 l H (Jd w.heap.size k0 none R) (w.alloc (.map #[] 0)):=by
 obtain⟨D,h1,h2⟩:=h.NK;have hb:Below w.heap.size w (w.alloc (.map #[] 0)):=below_alloc (Below.refl _ _) _;have hch:=h.Kr.alloc (.map #[] 0);have hm:=h.mem;have hm':Mem (w.alloc (.map #[] 0)) C l:=hm.Kr (KE.below (F:=fun _=>False) hb) id id;have h3:Az H R D (w.alloc (.map #[] 0)):=Ac h.Qo H D w _ h1 (fun k hk=>hb.block k (h2 k hk).1);have h4:Jd w.heap.size k0 none (Az H R) (fun k=>k=w.heap.size∨D k) (w.alloc (.map #[] 0)):=⟨⟨_,by show(w.heap.push _)[w.heap.size]?=_;simp,[],0,rfl,fun _ h=>(by simp at h),rfl⟩,D,h3,fun hk=>absurd (h2 _ hk).1 (Nat.lt_irrefl _),fun k=>Iff.rfl⟩;have h5: ∀(H:List Bk) (D:LV) (w:World) (b:Nat) ov,Jd b k0 ov (Az H R) D w→Az H (Jd b k0 ov R) D w:=by
  intro H;induction H with
  |nil=>exact fun _ _ _ _ h=>h
  |cons x H ih=>
   rintro D w b ov ⟨g1,D1,⟨g2,D2,g3,g4,g5⟩,g6,g7⟩;refine⟨g2,fun k=>k=b∨D2 k,ih _ w b ov ⟨g1,D2,g3,fun hd=>g6 ((g5 _).2 (.inr hd)),fun k=>Iff.rfl⟩,?_,fun k=>?_⟩
   ·rintro(e|e)
    ·exact g6 ((g5 _).2 (.inl e.symm))
    exact g4 e
   rw[g7,g5];constructor
   ·rintro(h|h|h)
    ·exact .inr (.inl h)
    ·exact .inl h
    exact .inr (.inr h)
   rintro(h|h|h)
   ·exact .inr (.inl h)
   ·exact .inl h
   exact .inr (.inr h)
 refine⟨h.OW,hch,hm',pX h.Qo,_,h5 H _ _ _ _ h4,fun k hk=>?_⟩;have hs:=h.Kr.size;rcases hk with rfl|hk
 ·refine⟨?_,.inr hs⟩;show _<(w.heap.push _).size;simp
 have:=h2 k hk;refine⟨?_,this.2⟩;have:=this.1;show _<(w.heap.push _).size;simp;omega
theorem Sy.mB{ov pW:Option Value}{o':Obj}(hl:CV R)(h:Sy C w0 D0 l H (Jd b k0 ov R) w)(ho':pV k0 pW o'):Sy C w0 D0 l H (Jd b k0 pW R) {w with heap:=w.heap.setIfInBounds b o'}:=by
 obtain⟨⟨o,h0,hm0⟩,hD0⟩:=jI h;obtain⟨D,h1,h2⟩:=h.NK;have hne: ∀k,k≠b→({w with heap:=w.heap.setIfInBounds b o'}:World).heap[k]?=w.heap[k]?:=fun k hk=>(MapKept.heap_set h0).2 k hk
 have hlt:b<w.heap.size:=(Array.getElem?_eq_some_iff.1 h0).1;have hn:=h.uZ hD0;have hc1:KE (fun k=>k=b) w {w with heap:=w.heap.setIfInBounds b o'}:=⟨rfl,rfl,rfl,by simp,fun i _ hi=>hne i hi⟩;have hch:KE (C.with D0) w0 {w with heap:=w.heap.setIfInBounds b o'}:=h.Kr.after hc1 (fun i hi e=>by
  subst e;rcases hD0 with h5|h5
  ·exact .inl h5
  omega)
 have h5: ∀(H:List Bk) (D:LV),Az H (Jd b k0 ov R) D w→(∀x∈H,x.b≠b)∧D b∧Az H (Jd b k0 pW R) D {w with heap:=w.heap.setIfInBounds b o'}:=by
  intro H;induction H with
  |nil=>
   rintro D ⟨g1,D1,g2,g3,g4⟩;exact⟨by simp,(g4 _).2 (.inl rfl),⟨o',(MapKept.heap_set h0).1,ho'⟩,D1,hl D1 w _ g2 (fun k hk=>hne k (fun e=>g3 (e▸hk))),g3,g4⟩
  |cons x H ih=>
   rintro D ⟨g1,D1,g2,g3,g4⟩;obtain⟨k1,k2,k3⟩:=ih D1 g2;have hx:x.b≠b:=fun e=>g3 (e▸k2)
   refine⟨fun y hy=>?_,(g4 _).2 (.inr k2),(hne x.b hx).trans g1,D1,k3,g3,g4⟩;rcases List.mem_cons.1 hy with rfl|hy
   ·exact hx
   exact k1 y hy
 refine⟨h.OW,hch,h.mem.Kr hc1 hn.1.symm hn.2.symm,pX hl,D,(h5 H D h1).2.2,fun k hk=>?_⟩;have:=h2 k hk;exact⟨by simpa using this.1,this.2⟩
variable{lo:Nat→Bool}{d:Option Nat}{gd:Option (Nat×Bool)}{x:Operand}
theorem aq(k0:Int)(ho:Aq[i]?=some ⟨d,.makeMap t none,ty,ps,af,none⟩)(hef:ef i=true)(hp: ∀b,Eh Aq i U (Sy C w0 D0 l H (Jd b k0 none R)) e)
  (h: ∀b,X Tryz.prog Aq lo ef K rr (Sy C w0 D0 l H (Jd b k0 none R)) U (Dz d (.map (some b)) e)):X Tryz.prog Aq lo ef K (i::rr) (Sy C w0 D0 l H R) U e:=
 FH (K':=fun u w'=> ∃b,u= .map (some b)∧Sy C w0 D0 l H (Jd b k0 none R) w') ho hef rfl (fun w hS=>N9 (N8 (m:=Instr.makeMap t none) rfl rfl) ⟨_,rfl,hS.ap k0⟩) (fun u w' ⟨b,h1,h2⟩=>⟨_,h2,hp b,by rw[h1];exact h b⟩)
theorem pY{dd:Option Nat}{x:Operand}{g:Option (Nat×Bool)}:execOp ρ ⟨dd,.insert t x y z,ty,ps,af,g⟩=(Instr.mapUpdate t (ρ x) (ρ y) (ρ z)>>=fun _=>pure .skip):=rfl
theorem zj{kt:Nat}{k:Int}{ov pW:Option Value}(hl:CV R)(ht:bM t kt=true)(hv:(k≠k0∧pW=ov)∨(k=k0∧ov=none∧pW=some v))(hS:Sy C w0 D0 l H (Jd b k0 ov R) w):
  ∃w',(Instr.mapUpdate t (.map (some b)) (.int .i64 k) v).run Tryz.prog w= .ok () w'∧Sy C w0 D0 l H (Jd b k0 pW R) w':=by
 obtain⟨⟨o,h0,hm0⟩,hD0⟩:=jI hS;obtain⟨o',h1,h2⟩:=Rv (v:=v) ht h0 hm0 hv;exact⟨_,h1,hS.mB hl h2⟩
theorem wK{a b c:Value}{Z:World→Prop}(hx:ev e x=a)(hy:ev e y=b)(hz:ev e z=c)(h:(Instr.mapUpdate t a b c).run Tryz.prog w= .ok () w')(hk:Z w'):Pj Tryz.prog ⟨none,.insert t x y z,ty,ps,af,none⟩ (ev e) w fun u w'=>u=undef∧Z w':=by
 have h4:(Instr.mapUpdate t (ev e x) (ev e y) (ev e z)).run Tryz.prog w= .ok () w':=by
  rw[hx,hy,hz];exact h
 have h3:(execOp (ev e) ⟨none,.insert t x y z,ty,ps,af,none⟩).run Tryz.prog w= .ok .skip w':=uW (o:=⟨none,.insert t x y z,ty,ps,af,none⟩) pY h4;unfold Pj;rw[h3];exact⟨rfl,hk⟩
theorem jJ{kt:Nat}{k:Int}{ov pW:Option Value}(hl:CV R)(hx:EF e x=some (.map (some b)))(hy:EF e y=some (.int .i64 k))(hz:EF e z=some v)(ht:bM t kt=true)(hv:(k≠k0∧pW=ov)∨(k=k0∧ov=none∧pW=some v))
  (hS:Sy C w0 D0 l H (Jd b k0 ov R) w):Pj Tryz.prog ⟨none,.insert t x y z,ty,ps,af,none⟩ (ev e) w fun u w'=>u=undef∧Sy C w0 D0 l H (Jd b k0 pW R) w':=
 Exists.elim (zj hl ht hv hS) fun w' h=>wK (t:=t) (ty:=ty) (ps:=ps) (af:=af) (e:=e) (x:=x) (y:=y) (z:=z) (w:=w) (w':=w') (a:= .map (some b)) (b:= .int .i64 k) (c:=v) (Z:=Sy C w0 D0 l H (Jd b k0 pW R)) (CY hx) (CY hy) (CY hz) h.1 h.2
theorem aw{kt:Nat}(hl:CV R)(ho:Aq[i]?=some ⟨none,.insert t x y z,ty,ps,af,none⟩)(hef:ef i=true)(hx:EF e x=some (.map (some b)))(hy:EF e y=some (.int .i64 k0))(hz:EF e z=some v)(ht:bM t kt=true)
  (hp:Eh Aq i U (Sy C w0 D0 l H (Jd b k0 (some v) R)) e)
  (h:X Tryz.prog Aq lo ef K rr (Sy C w0 D0 l H (Jd b k0 (some v) R)) U e):X Tryz.prog Aq lo ef K (i::rr) (Sy C w0 D0 l H (Jd b k0 none R)) U e:=
 FH (o:=⟨none,.insert t x y z,ty,ps,af,none⟩) (S:=Sy C w0 D0 l H (Jd b k0 none R)) (K':=fun u w'=>u=undef∧Sy C w0 D0 l H (Jd b k0 (some v) R) w') ho hef rfl (fun w hS=>jJ hl hx hy hz ht (.inr ⟨rfl,rfl,rfl⟩) hS) (fun _ w' hk=>⟨_,hk.2,hp,h⟩)
theorem eY{kt:Nat}{k:Int}{ov:Option Value}(hl:CV R)(ho:Aq[i]?=some ⟨none,.insert t x y z,ty,ps,af,none⟩)(hef:ef i=false)(hx:EF e x=some (.map (some b)))(hy:EF e y=some (.int .i64 k))(hz:EF e z=some v)(ht:bM t kt=true)(hk:k≠k0)
  (h:X Tryz.prog Aq lo ef K rr (Sy C w0 D0 l H (Jd b k0 ov R)) (bif lo i then(i,undef)::U else U) e):X Tryz.prog Aq lo ef K (i::rr) (Sy C w0 D0 l H (Jd b k0 ov R)) U e:=
 UE (o:=⟨none,.insert t x y z,ty,ps,af,none⟩) (v:=undef) (S:=Sy C w0 D0 l H (Jd b k0 ov R)) ho hef rfl (fun w hS=>jJ hl hx hy hz ht (.inl ⟨hk,rfl⟩) hS) h
theorem PT{kt:Nat}{k:Int}{ov:Option Value}(hl:CV R)(ho:Aq[i]?=some ⟨none,.insert t x y z,ty,ps,af,none⟩)(hx:EF e x=some (.map (some b)))(hy:EF e y=some (.int .i64 k))(hz:EF e z=some v)(ht:bM t kt=true)(hk:k≠k0)
  (h:Eh Aq jj U (Sy C w0 D0 l H (Jd b k0 ov R)) e):Eh Aq jj ((i,undef)::U) (Sy C w0 D0 l H (Jd b k0 ov R)) e:=
 Y4 (o:=⟨none,.insert t x y z,ty,ps,af,none⟩) (v:=undef) (S:=Sy C w0 D0 l H (Jd b k0 ov R)) ho rfl (fun w hS=>jJ hl hx hy hz ht (.inl ⟨hk,rfl⟩) hS) h
theorem bc{kt:Nat}{k:Int}(ho:Aq[i]?=some ⟨d,.lookup t x y false,ty,ps,af,gd⟩)(Dy:(ef i,BA Aq ⟨d,.lookup t x y false,ty,ps,af,gd⟩ e)=(false,true))(hx:EF e x=some (.map (some b)))(hy:EF e y=some (.int .i64 k))(ht:bM t kt=true)
  (h:X Tryz.prog Aq lo ef K rr (Sy C w0 D0 l H (Jd b k (some v) R)) (bif lo i then(i,v)::U else U) (Dz d v e)):X Tryz.prog Aq lo ef K (i::rr) (Sy C w0 D0 l H (Jd b k (some v) R)) U e:=have⟨hef,hw⟩:=Fb Dy;
 FB ho hef hw (fun w hS=>N8 (m:=Instr.lookup t (ev e x) (ev e y) false) rfl (by
  obtain⟨et,dd,h1,h2,h3⟩:=aj ht
  rw[CY hx,CY hy]
  obtain⟨⟨o,h0,es,ck,rfl,hi,hl⟩,-⟩:=jI hS
  have hk:=eX h3 k
  obtain⟨q,hf,-⟩:=Wj h3 es 0 hi hl
  simp[Instr.lookup,run_underlying h1,MapKept.run_getObj_map h0,MapKept.run_checkKey h2 hk,MapKept.run_findKey h2 hf,Result.andThen])) h
end
def Ce{α:Type}(C:Cx)(f:Nat)(args:List Value)(l:Dk)(R:BB)(v:α→Value)(l':Dk)(P:α→Prop)(R':α→BB):Prop:=Ct C f args.toArray l R fun u m D w=> ∃a,u=v a∧P a∧m=l'∧R' a D w
theorem Ce.FD{α:Type}{R:BB}{v:α→Value}{P:α→Prop}{R':α→BB}(h:Ce C f args l R v l' P R')(hF:CV F):Ce C f args l (BG R F) v l' P (fun a=>BG (R' a) F):=
 (Ct.FD h hF).mono fun u m D w ⟨D1,D2,⟨a,h1,h2,h3,h4⟩,h5,h6,h7⟩=>⟨D,⟨a,h1,h2,h3,D1,D2,h4,h5,h6,h7⟩,fun _ hk=>hk⟩
theorem Cn.fr{R':Nat→BB}(h:Cn C f args l Cj l' R')(hF:CV F):Cn C f args l F l' (fun q=>BG (R' q) F):=by
 have:=Cn.FD h hF;rw[Gl] at this;exact this
section
variable{R:BB}
theorem bd{α:Type}{P:α→Prop}{v:α→Value}{m:Dk}{R':α→BB}(hl: ∀a,CV (R' a)):CV (fun D w=> ∃a,u=v a∧P a∧m=l'∧R' a D w):=AQ fun a=>Ba (Ba (Ba (hl a)))
theorem Sy.ak{α:Type}{v:α→Value}{P:α→Prop}{R':α→BB}(h:Sy C w0 D0 l H R w)(hc:Ce C f args l R v l' P R')(hl: ∀a,CV (R' a)):Calls Tryz.prog f args.toArray w fun e w'=> ∃a,e= .returned (v a)∧P a∧Sy C w0 D0 l' H (R' a) w':=by
 refine(h.call hc (fun u m=>bd hl)).mono ?_;rintro e w' ⟨u,rfl,m,⟨D,w'',a0,h1,h2,rfl,-⟩,hS⟩;obtain⟨a,hS⟩:=hS.MU (fun a=>Ba (Ba (Ba (hl a))));obtain⟨h3,hS⟩:=hS.VS (Ba (Ba (hl a)));obtain⟨h4,hS⟩:=hS.VS (Ba (hl a));obtain⟨-,hS⟩:=hS.VS (hl a);exact⟨a,by rw[h3],h4,hS⟩
variable{lo:Nat→Bool}{d:Option Nat}{gd:Option (Nat×Bool)}{x:Operand}
theorem bP{f:Operand}{g:Nat}{first:List Value}{R':Nat→BB}(ho:Aq[i]?=some ⟨d,.call ⟨.value f,a,LX⟩,ty,ps,af,none⟩)(hef:ef i=true)(hf:EF e f=some (.func (.func g) first.toArray captured.toArray))(ha:GV e a.toList=some args)(hg:Cm g=true)
  (hc:Cn C g (first++args++captured) l R l' R') (hl: ∀q,CV (R' q)) (hp: ∀q,Eh Aq i U (Sy C w0 D0 l' H (R' q)) e)
  (h: ∀q,X Tryz.prog Aq lo ef K rr (Sy C w0 D0 l' H (R' q)) U (Dz d (.pointer (some ⟨q,0,none⟩)) e)):X Tryz.prog Aq lo ef K (i::rr) (Sy C w0 D0 l H R) U e:=
 FH (K':=fun u w'=> ∃q,u= .pointer (some ⟨q,0,none⟩)∧Sy C w0 D0 l' H (R' q) w') ho hef rfl (fun w hS=>Fe hf ha hg ((hS.dK hc hl).mono fun e w' ⟨q,h1,h2⟩=>⟨_,h1,q,rfl,h2⟩)) (fun u w' ⟨q,h1,h2⟩=>⟨_,h2,hp q,by rw[h1];exact h q⟩)
theorem NW{α:Type}{f:Operand}{g:Nat}{first:List Value}{v:α→Value}{P:α→Prop}{B:α→List Bk}{Rz:α→BB}(G7:(Aq[i]?,ef i,EF e f,GV e a.toList)=(some ⟨d,.call ⟨.value f,a,LX⟩,ty,ps,af,none⟩,true,some (.func (.func g) first.toArray captured.toArray),some args))(hg:Cm g=true)(hH:H1++H2=H)
  (hc:Ce C g (first++args++captured) l (Az H2 R) v l' P (fun a=>Az (B a) (Rz a))) (hl: ∀a,CV (Rz a)) (hp: ∀a,P a→Eh Aq i U (Sy C w0 D0 l' (H1++B a) (Rz a)) e)
  (h: ∀a,P a→X Tryz.prog Aq lo ef K rr (Sy C w0 D0 l' (H1++B a) (Rz a)) U (Dz d (v a) e)):X Tryz.prog Aq lo ef K (i::rr) (Sy C w0 D0 l H R) U e:=have⟨ho,hef,hf,ha⟩:=MR G7;
 FH (K':=fun u w'=> ∃a,u=v a∧P a∧Sy C w0 D0 l' (H1++B a) (Rz a) w') ho hef rfl (fun w hS=>by
  subst hH;exact Fe hf ha hg ((hS.VR.ak hc (fun a=>Ac (hl a) _)).mono fun e w' ⟨a,h1,h2,h3⟩=>⟨_,h1,a,rfl,h2,h3.unfold (hl a)⟩)) (fun u w' ⟨a,h1,h2,h3⟩=>⟨_,h3,hp a h2,by rw[h1];exact h a h2⟩)
theorem qA{e len c:Nat}{off:Nat}(h:Ip t e n=true)(h0:1≤len)(h1:len≤c)(w:World):
  (Instr.sliceAt t (.slice (some ⟨b,off,none⟩) len c) (some (.int k 1)) none none).run Tryz.prog w= .ok (.slice (some ⟨b,if c=1 then off else off+n,none⟩) (len-1) (c-1)) w:=by
 obtain⟨inf,z,hu,hi,hz,hs,-⟩:=IG h;have hu':(underlying t).run Tryz.prog w= .ok (.slice e) w:=by unfold underlying;simp[go_sem,hu]
 unfold Instr.sliceAt;rw[Sem.run_bind,hu',Result.andThen_ok];unfold Instr.slice Instr.sliceBounds Instr.sliceBound sizeOf typeInfo;have ha:=IM b off n;have h2:(1:Int)≤(len:Int):=by omega
 have h3:(len:Int)≤(c:Int):=by omega
 have h4:(1:Int)≤(c:Int):=by omega
 by_cases h5:c=1
 ·subst h5;simp[go_sem,hu',hi,hs,ha,h2,h3,h0]
 simp[go_sem,hu',hi,hs,ha,h2,h3,h4,h5,h0,h1]
theorem xn{len c off:Nat}(ho:Aq[i]?=some ⟨d,.slice t x (some y) none none,ty,ps,af,gd⟩)(Dy:(ef i,BA Aq ⟨d,.slice t x (some y) none none,ty,ps,af,gd⟩ e)=(false,true))(hx:EF e x=some (.slice (some ⟨b,off,none⟩) len c))(hy:EF e y=some (.int ik 1))(ht:Ip t et n=true)(h0:1≤len)(h1:len≤c)
  (h:X Tryz.prog Aq lo ef K rr S (bif lo i then(i,.slice (some ⟨b,if c=1 then off else off+n,none⟩) (len-1) (c-1))::U else U) (Dz d (.slice (some ⟨b,if c=1 then off else off+n,none⟩) (len-1) (c-1)) e)):X Tryz.prog Aq lo ef K (i::rr) S U e:=have⟨hef,hw⟩:=Fb Dy;
 FB ho hef hw (fun w _=>N8 (m:=Instr.sliceAt t (ev e x) (some (ev e y)) none none) rfl (by rw[CY hx,CY hy];exact qA ht h0 h1 w)) h
theorem zm(ho:Aq[i]?=some ⟨d,.slice t x none (some y) none,ty,ps,af,gd⟩)(Dy:(ef i,BA Aq ⟨d,.slice t x none (some y) none,ty,ps,af,gd⟩ e)=(false,true))(hx:EF e x=some (.slice none 0 0))(hy:EF e y=some (.int ik 0))(ht:Ip t et n=true)
  (h:X Tryz.prog Aq lo ef K rr S (bif lo i then(i,.slice none 0 0)::U else U) (Dz d (.slice none 0 0) e)):X Tryz.prog Aq lo ef K (i::rr) S U e:=have⟨hef,hw⟩:=Fb Dy;
 FB ho hef hw (fun w _=>N8 (m:=Instr.sliceAt t (ev e x) none (some (ev e y)) none) rfl (by
  rw[CY hx,CY hy]
  obtain⟨inf,z,hu,hi,hz,hs,-⟩:=IG ht
  have hu':(underlying t).run Tryz.prog w= .ok (.slice et) w:=by unfold underlying;simp[go_sem,hu]
  unfold Instr.sliceAt
  rw[Sem.run_bind,hu',Result.andThen_ok]
  unfold Instr.slice Instr.sliceBounds Instr.sliceBound sizeOf typeInfo
  simp[go_sem,hu',hi])) h
theorem au(ht:Ip t et n=true)(w:World):(Instr.buildSlice t 0 #[]).run Tryz.prog w= .ok (.slice (some ⟨w.heap.size,0,none⟩) 0 0) (w.alloc (.cells #[] et)):=by
 obtain⟨inf,z,hu,hi,hz,hs,-⟩:=IG ht;have hu':(underlying t).run Tryz.prog w= .ok (.slice et) w:=by unfold underlying;simp[go_sem,hu]
 have hsz:(sizeOf et).run Tryz.prog w= .ok n w:=by unfold sizeOf typeInfo;simp[go_sem,hi,hs]
 unfold Instr.buildSlice;rw[Sem.run_bind,hu',Result.andThen_ok,Sem.run_bind,hsz,Result.andThen_ok];simp[Instr.fill,newRow,go_sem]
theorem qB{g:Option (Nat×Bool)}:execOp ρ ⟨d,.buildSlice t 0 #[],ty,ps,af,g⟩=(Instr.buildSlice t 0 #[]>>=fun v=>pure (.value v)):=by
 rw[Y3];simp
theorem Fk(ho:Aq[i]?=some ⟨d,.buildSlice t 0 #[],ty,ps,af,none⟩)(hef:ef i=true)(ht:Ip t et n=true)(hp: ∀q,Eh Aq i U (Sy C w0 D0 l (⟨q,et,[]⟩::H) R) e)
  (h: ∀q,X Tryz.prog Aq lo ef K rr (Sy C w0 D0 l (⟨q,et,[]⟩::H) R) U (Dz d (.slice (some ⟨q,0,none⟩) 0 0) e)):X Tryz.prog Aq lo ef K (i::rr) (Sy C w0 D0 l H R) U e:=
 FH (K':=fun v w'=> ∃q,v= .slice (some ⟨q,0,none⟩) 0 0∧Sy C w0 D0 l (⟨q,et,[]⟩::H) R w') ho hef rfl (fun w hS=>by
  have h1:=au ht w;have h2:(execOp (ev e) ⟨d,.buildSlice t 0 #[],ty,ps,af,none⟩).run Tryz.prog w= .ok (.value (.slice (some ⟨w.heap.size,0,none⟩) 0 0)) (w.alloc (.cells #[] et)):=N8 qB h1;have h3: ∃q:Nat,(Value.slice (some ⟨w.heap.size,0,none⟩) 0 0=Value.slice (some ⟨q,0,none⟩) 0 0)∧Sy C w0 D0 l (⟨q,et,[]⟩::H) R (w.alloc (.cells #[] et)):=⟨w.heap.size,rfl,hS.alloc et []⟩;unfold Pj;rw[h2];exact h3) (fun v w' ⟨q,h1,h2⟩=>⟨_,h2,hp q,by rw[h1];exact h q⟩)
theorem Fl{q0 k c:Nat}{cs rest:List Value}(ho:Aq[i]?=some ⟨d,.call ⟨.builtin .append,a, #[t,t]⟩,ty,ps,af,none⟩)(hef:ef i=true)(ha:GV e a.toList=some [.slice (some ⟨q0,0,none⟩) 0 0,.slice (some ⟨b,0,none⟩) k c])(ht:Ip t et n=true)(hi:In b (cs++rest) H)(hk:0<k∧k≤1000000)(hcs:cs.length=k*n)
  (hp: ∀q rs,Eh Aq i U (Sy C w0 D0 l (⟨q,et,cs++rs⟩::H) R) e) (h: ∀q rs m,(k≤m∧cs.length+rs.length=m*n)∧m≤maxLen→X Tryz.prog Aq lo ef K rr (Sy C w0 D0 l (⟨q,et,cs++rs⟩::H) R) U (Dz d (.slice (some ⟨q,0,none⟩) k m) e)):X Tryz.prog Aq lo ef K (i::rr) (Sy C w0 D0 l H R) U e:=
 FH (K':=fun v w'=> ∃q rs m,v= .slice (some ⟨q,0,none⟩) k m∧((k≤m∧cs.length+rs.length=m*n)∧m≤maxLen)∧Sy C w0 D0 l (⟨q,et,cs++rs⟩::H) R w') ho hef rfl (fun w hS=>by
  obtain⟨inf,z,hu,hin,hz,hs,hb,hzs⟩:=IG ht;have h48:Builtin.nextslicecap (0+k) 0*inf.bytes≤281474976710656:=by
   have h1:=nextslicecap_le (need:=0+k) (old:=0) (by omega);have h2:Builtin.nextslicecap (0+k) 0*inf.bytes≤2*(0+k)*1000:=Nat.mul_le_mul h1 hb;omega
  have hr:=run_append_grow (P:=Tryz.prog) (w:=w) t ty et inf z hu hin hz ⟨q0,0,none⟩ 0 0 [] (by simp) (fun j v hj=>by simp at hj) ⟨b,0,none⟩ k c cs (by rw[hs];exact hcs) (fun j v hj=>by
   rw[IM,Nat.zero_add];exact(hS.cell hi (JI (by rw[FO];exact hj))).1) (by omega) (by omega) h48
  have hge:=grownCap_ge w (0+k) 0 et;rw[Nat.zero_add] at hr hge;have hr':=Hl (d:=d) (ps:=ps) (af:=af) (gd:=none) (b:= .append) (ty:=ty) (LX:= #[t,t]) ha (by
   simp only[builtin,Sem.run_bind];rw[hr];rfl)
  refine N9 hr' ⟨w.heap.size,(Builtin.zeroCells z.cells (grownCap w k 0 et-k)).toList,_,rfl,⟨⟨hge,?_⟩,grownCap_le_maxLen w k 0 et (by unfold maxLen;omega)⟩,?_⟩
  ·rw[hcs];exact V7 hzs hge
  have:=hS.drew.alloc et (cs++(Builtin.zeroCells z.cells (grownCap w k 0 et-k)).toList);have e1:(cs++(Builtin.zeroCells z.cells (grownCap w k 0 et-k)).toList).toArray=([]:List Value).toArray++cs.toArray++Builtin.zeroCells z.cells (grownCap w k 0 et-k):=by
   apply Array.ext';simp
  rw[e1] at this;exact this) (fun v w' ⟨q,rs,m,hv,hm,hk⟩=>⟨_,hk,hp q rs,by rw[hv];exact h q rs m hm⟩)
theorem RA{p:Option Addr}{c:Nat}(ht:Ec t JU=true)(w:World):(binOp .eql t (.slice p n c) (.slice none 0 0)).run Tryz.prog w= .ok (.bool p.isNone) w:=by
 obtain⟨d,hd,hu,-⟩:=MP ht w;have h1:(Op.equal t (.slice p n c) (.slice none 0 0)).run Tryz.prog w= .ok p.isNone w:=by
  cases d<;>first|(simp[JU] at hd;done)|skip
  unfold Op.equal Op.maxDepth Op.equalIn;rw[Sem.run_bind,hu];cases p<;>rfl
 simp only[binOp,Sem.run_bind,h1,Result.andThen_ok,Sem.run_pure]
theorem xq{p:Option Addr}{c:Nat}{b:Bool}(ho:Aq[i]?=some ⟨d,.binOp .eql t x y t',ty,ps,af,gd⟩)(Dy:(ef i,BA Aq ⟨d,.binOp .eql t x y t',ty,ps,af,gd⟩ e)=(false,true))(hx:EF e x=some (.slice p n c))(hy:EF e y=some (.slice none 0 0))(ht:Ec t JU=true)(hb:p.isNone=b)
  (h:X Tryz.prog Aq lo ef K rr S (bif lo i then(i,.bool b)::U else U) (Dz d (.bool b) e)):X Tryz.prog Aq lo ef K (i::rr) S U e:=by
 have⟨hef,hw⟩:=Fb Dy;subst hb;exact eD ho Dy hx hy (vH (by trivial)) (RA ht) h
end
theorem Wl:Ip 53 33 5=true:=by kernel_rfl
theorem XK:Ip 66 65 4=true:=by kernel_rfl
theorem OC:Ec 53 (JU)=true:=by kernel_rfl
theorem Zj:Ec 66 (JU)=true:=by kernel_rfl
theorem wL{k c:Nat}{rest:List Value}(hk:0<k∧k≤1000000)(hcs:news.length=k*4):
  Ce (α:=Nat×List Value×Nat) C 61 [.slice (some ⟨b,0,none⟩) k c] l (Az [⟨b,65,news++rest⟩] Cj) (fun a=> .slice (some ⟨a.1,0,none⟩) k a.2.2) l (fun a=>(k≤a.2.2∧news.length+a.2.1.length=a.2.2*4)∧a.2.2≤maxLen) (fun a=>Az [⟨a.1,65,news++a.2.1⟩,⟨b,65,news++rest⟩] Cj):=by
 refine Ci 8 Tryz.func61 Z (Ac Aa _) fun w0 D0=>Gu Aa<|AZ 8 [] Z<|xq (b:=false) Z Z Z Z Zj Z<|AP 5 [5] Z<|Fk Z Z XK CE fun b0=>NC Z<|Fl (cs:=news) (rest:=rest) Z Z Z XK (.s .z) hk hcs JH fun q rs m hm=>AY 2 [] Z<|T.BC Z fun W D h=>?_
 obtain⟨D1,h1,h2⟩:=D6 [0,2] (by decide) h;exact⟨D1,⟨(q,rs,m),rfl,hm,rfl,h1⟩,h2⟩
theorem qC:Cv C 61 [.slice none 0 0] l Cj (.slice none 0 0) l Cj:=by
 exact Ci 8 Tryz.func61 Z Aa fun w0 D0=>AZ 8 [] Z<|xq (b:=true) Z Z Z Z Zj Z<|AY 6 [] Z<|T.BC Z fun W D h=>⟨D,⟨rfl,rfl,h⟩,fun _ hk=>hk⟩
theorem TY{k c:Nat}{rest:List Value}(hk:0<k∧k≤1000000)(hcs:news.length=k*1):
  Ce (α:=Nat×List Value×Nat) C 52 [.slice (some ⟨b,0,none⟩) k c] l (Az [⟨b,90,news++rest⟩] Cj) (fun a=> .slice (some ⟨a.1,0,none⟩) k a.2.2) l (fun a=>(k≤a.2.2∧news.length+a.2.1.length=a.2.2*1)∧a.2.2≤maxLen) (fun a=>Az [⟨a.1,90,news++a.2.1⟩,⟨b,90,news++rest⟩] Cj):=by
 refine Ci 8 Tryz.func52 Z (Ac Aa _) fun w0 D0=>Gu Aa<|AZ 8 [] Z<|xq (b:=false) Z Z Z Z KH Z<|AP 5 [5] Z<|Fk Z Z dV CE fun b0=>NC Z<|Fl (cs:=news) (rest:=rest) Z Z Z dV (.s .z) hk hcs JH fun q rs m hm=>AY 2 [] Z<|T.BC Z fun W D h=>?_
 obtain⟨D1,h1,h2⟩:=D6 [0,2] (by decide) h;exact⟨D1,⟨(q,rs,m),rfl,hm,rfl,h1⟩,h2⟩
theorem qE:Cv C 52 [.slice none 0 0] l Cj (.slice none 0 0) l Cj:=by
 exact Ci 8 Tryz.func52 Z Aa fun w0 D0=>AZ 8 [] Z<|xq (b:=true) Z Z Z Z KH Z<|AY 6 [] Z<|T.BC Z fun W D h=>⟨D,⟨rfl,rfl,h⟩,fun _ hk=>hk⟩
theorem wM{k c:Nat}{rest:List Value}(hk:0<k∧k≤1000000)(hcs:news.length=k*5):
  Ce (α:=Nat×List Value×Nat) C 48 [.slice (some ⟨b,0,none⟩) k c] l (Az [⟨b,33,news++rest⟩] Cj) (fun a=> .slice (some ⟨a.1,0,none⟩) k a.2.2) l (fun a=>(k≤a.2.2∧news.length+a.2.1.length=a.2.2*5)∧a.2.2≤maxLen) (fun a=>Az [⟨a.1,33,news++a.2.1⟩,⟨b,33,news++rest⟩] Cj):=by
 refine Ci 8 Tryz.func48 Z (Ac Aa _) fun w0 D0=>Gu Aa<|AZ 8 [] Z<|xq (b:=false) Z Z Z Z OC Z<|AP 5 [5] Z<|Fk Z Z Wl CE fun b0=>NC Z<|Fl (cs:=news) (rest:=rest) Z Z Z Wl (.s .z) hk hcs JH fun q rs m hm=>AY 2 [] Z<|T.BC Z fun W D h=>?_
 obtain⟨D1,h1,h2⟩:=D6 [0,2] (by decide) h;exact⟨D1,⟨(q,rs,m),rfl,hm,rfl,h1⟩,h2⟩
end Go.Proofs.YtmpcfamcbaineaaGreat.Mo
