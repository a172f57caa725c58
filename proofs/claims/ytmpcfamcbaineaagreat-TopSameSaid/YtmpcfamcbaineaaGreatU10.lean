/- The row of the law TopSame: called with any values of its parameters it returns true, and each argument reads behind the call as it read before. No condition. -/
import Derived.Test.YtmpcfamcbaineaaGreatU09
set_option linter.all false
set_option maxHeartbeats 8000000
set_option maxRecDepth 100000
open Go.RowKit
namespace Go.Proofs.YtmpcfamcbaineaaGreat.Mo
variable{a:Array Operand}{b n i t q:Nat}{c:Fj}{w:World}{e:GZ}{v:Value}{W:Wo}{x:Mu}{y:Operand}{k:IntKind}{F:BB}{l l':Dk}{V:List (Nat×Value)}{D:LV}{H':List Bk}{M:Bz}{ts:List Int}{dr:Int}
namespace Iv
variable{a v b n w:Int}{e:Ev}{k:Nat}{q:Pl}{t:yV}{P4 P5 hold H' T' QL SX hpm hp':List Int}{y:Mk}{F hps Hs F':Nat→List Int}{Bc EY:Int→Int}{V V':Vw}{x':Mu}{D:De}{ms:Nat→Mk}
open Go.Proofs.YtmpcfamcbaineaaGreat.Mo
section
variable{z:Mu}{XT T:List Int}{k':Nat}
theorem cR(hL:La M)(hl:l.length=M.all.toNat)(h:l'=l∧w=(vw M l).w1∨l'=put l 1 w):Qu M l l'∧Fq M l l'∧(∀v,MM M l' v=MM M l v)∧vw M l'={vw M l with w1:=w}:=by
 rcases h with⟨rfl,rfl⟩|rfl
 ·exact⟨.Gn,.Gn,fun _=>rfl,rfl⟩
 obtain⟨hq,hf⟩:=LZ (l:=l) (v:=w) hL (q:= .FW 1) (by simp);rw[yK] at hq hf;refine⟨hq,hf,fun v=>?_,sC hL hl⟩;have:=Iq (l:=l) (v:=w) (a:=v) hL (q:= .FW 1) (by simp);rw[yK] at this;exact this
theorem L4{p:Pk}(h:XP M l p ts hold):p.next≠ .nil:=fun e=>by
 obtain⟨-,-,-,h⟩:=h;rw[e] at h;exact h
theorem pq(hL:La M)(hn:n<900000)(h:WI M n l D x ms Bc P4 P5 hpm T hps Hs F)(hx:x.next= .Dt t)(hp:x.Bl.next= .F9):Lj M (n+1) (x.step M l).2 D (x.step M l).1 ms∧RI M (vw M l) (vw M (x.step M l).2) x (x.step M l).1 (x.step M l).1.Ae:=by
 have hmu:=h.ui.mu;have hE:=h.eM;have hc0:=h.ui.de.c0;have hnm:x.next≠ .EU:=by rw[hx];simp
 have hI:XP M l x.Bl.put x.Ar hpm:=by
  rcases h.mp with⟨-,-,g⟩|⟨g,-⟩
  ·exact g
  exact absurd ⟨by rw[hx];rfl,hp⟩ g
 have hwk:IX x=0:=by unfold IX;rw[hp];simp
 have Β:=aG hx hmu;have hmk:aF t=true→x.Bl.v=mV (vw M l) x t∧1≤mV (vw M l) x t∧(gs M (vw M l) x (BD (nm M) ms T)).GK (mV (vw M l) x t):=fun g=>by
  rcases Β with⟨-,a,b,c⟩|⟨a,-⟩
  ·rcases c with⟨c,-⟩|⟨-,c⟩
   ·rw[hp] at c;cases c
   exact⟨a,b,c⟩
  rw[g] at a;cases a
 obtain⟨QL,SX,hold',r1,r2,r3,r4⟩:=yB hL hE.len hI hE.F8 hE.nd hE.rg hn;have hs0:x.step M l=if(x.Bl.put.step M l).1.next= .nil then
   (Mu.dC M {x with Bl:={x.Bl with Ae:=BH,put:=(x.Bl.put.step M l).1,next:= .nil},Ar:=[],Ae:=BH} t,(x.Bl.put.step M l).2)
  else({x with Bl:={x.Bl with Ae:=BH,put:=(x.Bl.put.step M l).1},Ae:=BH},(x.Bl.put.step M l).2):=by
  show({x with Ae:=BH}:Mu).Au M l=_;unfold Mo.Mu.Au;simp only[hx];unfold Mo.Bu.step Mo.Bu.Au;simp only[hp];split
  ·simp
  rw[if_neg (by simp)]
 have hdis: ∀p∈P4,p∉hpm:=fun p h1 h2=>hE.r9 p (List.mem_append_left _ h1) h2
 have hcp: ∀t',cP M (x.Bl.put.step M l).2 P4 t'=cP M l P4 t':=fun t'=>SY r1.Tt hdis
 rw[hs0];rcases r4 with⟨g1,rfl⟩|⟨g1,rfl,p,rfl,g2⟩
 ·rw[if_neg (L4 g1)];obtain⟨Z,hZ⟩: ∃Z:Mu,Z={x with Bl:={x.Bl with Ae:=BH,put:=(x.Bl.put.step M l).1},Ae:=BH}:=⟨_,rfl⟩;have z1:Z.next= .Dt t:=by rw[hZ];exact hx
  have z2:Z.Bl.next= .F9:=by rw[hZ];exact hp
  have z3:Z.Ar=x.Ar:=by rw[hZ]
  have z4:Z.Bl.v=x.Bl.v:=by rw[hZ]
  have z5:Z.Bl.put=(x.Bl.put.step M l).1:=by rw[hZ]
  have dn:Dn (vw M l) (vw M l) (gs M (vw M l) x (BD (nm M) ms T)) (gs M (vw M l) x (BD (nm M) ms T)) x Z:=by rw[hZ];exact⟨rfl,rfl,rfl,fun _ h=>h,rfl,rfl,rfl,rfl,rfl⟩
  have hth:=L3 (V:=vw M l) (D:=D) (g:=gs M (vw M l) x (BD (nm M) ms T)) hx z1 dn.Af dn.ar (by rw[hZ]) dn.op (by rw[hZ]) (mF hx z1 hmu dn (fun g=>⟨z4.trans (hmk g).1,(hmk g).2.1,.inr ⟨z2,(hmk g).2.2⟩⟩) (fun _=>z2));have hwz:IX Z=IX x:=by rw[hwk];unfold IX;rw[z2];simp
  rw[hwz] at hth;rw[←hZ];exact h.jn hnm r1 r2 r3 (.inl ⟨by rw[z1];rfl,z2,by rw[z5,z3];exact g1⟩) (fun t'=>by rw[hcp,z3]) hth (.inl (by rw[hZ];rfl))
 rw[if_pos g1];obtain⟨Z,hZ⟩: ∃Z:Mu,Z={x with Bl:={x.Bl with Ae:=BH,put:=(x.Bl.put.step M l).1,next:= .nil},Ar:=[],Ae:=BH}:=⟨_,rfl⟩;have z1:Z.next= .Dt t:=by rw[hZ];exact hx
 have z3:Z.Ar=[]:=by rw[hZ]
 have z6:Z.Ae=BH:=by rw[hZ]
 have dn:Dn (vw M l) (vw M l) (gs M (vw M l) x (BD (nm M) ms T)) (gs M (vw M l) x (BD (nm M) ms T)) x Z:=by rw[hZ];exact⟨rfl,rfl,rfl,fun _ h=>h,rfl,rfl,rfl,rfl,rfl⟩
 have hpz:FK Z=FK x:=by rw[hZ];rfl
 have htl:JX M Z:=by unfold JX;rw[z3];have:=hL.bu;show(0:Int)<M.CQ;omega
 have L5:=yP (V:=vw M l) (D:=D) (g:=gs M (vw M l) x (BD (nm M) ms T)) hL (by omega) z1 (Xc hx hmu dn fun g=> .inr (hmk g).2.2) htl (by rw[dn.ar];rfl) (by rw[dn.Af];exact h.ui.co.rr) (by rw[dn.Af];exact fun r hr h1=> .DX (.inl hr) h1);obtain⟨a1,a2,a3,a4⟩:=L5;have hth:=a1.of dn.Af dn.ar (by rw[hZ]) hpz;rw[←hwk] at hth;rw[←hZ];refine h.jn hnm r1 r2 r3 (a4 _) (fun t'=>?_) hth (.inl (by rw[a3,z6];rfl));rw[a2,z3,lT,g2,hcp];simp;omega
theorem AT(hL:La M)(hn:n<900000)(h:WI M n l D x ms Bc P4 P5 hpm T hps Hs F)(hx:x.next= .Dt t)(hp:x.Bl.next= .BR):Lj M (n+1) (x.step M l).2 D (x.step M l).1 ms∧RI M (vw M l) (vw M (x.step M l).2) x (x.step M l).1 (x.step M l).1.Ae:=by
 have hmu:=h.ui.mu;have hc0:=h.ui.de.c0;have hnm:x.next≠ .EU:=by rw[hx];simp
 have ME:JA x=[]:=if_neg fun g=>hnm g.1
 have Vv:hpm=[]:=by
  rcases h.mp with⟨-,g,-⟩|⟨-,g⟩
  ·rw[hp] at g;cases g
  exact g
 obtain⟨v,hv⟩: ∃v,v=mV (vw M l) x t:=⟨_,rfl⟩;obtain⟨hil,hlv,hv1,htl,hcl,hR⟩:aF t=true∧x.Bl.v=v∧1≤v∧JX M x∧Qd (gs M (vw M l) x (BD (nm M) ms T)) x.Bl.AV v∧(gs M (vw M l) x (BD (nm M) ms T)).R v:=by
  rcases aG hx hmu with⟨g,a,b,c⟩|⟨-,c⟩
  ·rw[←hv] at a b c;rcases c with⟨-,c2,c3,c4⟩|⟨c,-⟩
   ·exact⟨g,a,b,c2,c3,c4⟩
   rw[hp] at c;cases c
  rw[hp] at c;cases c
 have haw:=h.ui.co.ra _ hR;have hwr:=haw.1;obtain⟨c,hc⟩: ∃c,c=x.Bl.AV:=⟨_,rfl⟩;rw[←hc] at hcl;obtain⟨d1,d2,d3,d4⟩:=hcl;have dA:c.Ah=x.AL:=d2;have hwk:IX x=VB c:=by unfold IX;rw[hx,hp,hc];simp[IE]
 have hwn:=h.ui.w1n;have hwb:=h.ui.wb;have Ai5:=h.ui.wk;have hs0:x.step M l=if(c.step M l).1.next= .nil then
   if(c.step M l).1.JO=true then
    if((x.Ar++[pair v 0]).length:Int)≥M.CQ then
     ({x with Bl:={x.Bl with AV:=(c.step M l).1,Ae:=⟨1,0,v,0,0⟩,put:= .put (x.Ar++[pair v 0]),next:= .F9},Ar:=x.Ar++[pair v 0],Ae:=⟨1,0,v,0,0⟩},(c.step M l).2)
    else(Mu.dC M {x with Bl:={x.Bl with AV:=(c.step M l).1,Ae:=⟨1,0,v,0,0⟩,next:= .nil},Ar:=x.Ar++[pair v 0],Ae:=⟨1,0,v,0,0⟩} t,(c.step M l).2)
   else(Mu.dC M {x with Bl:={x.Bl with AV:=(c.step M l).1,Ae:=BH,next:= .nil},Ae:=BH} t,(c.step M l).2)
  else({x with Bl:={x.Bl with AV:=(c.step M l).1,Ae:=BH},Ae:=BH},(c.step M l).2):=by
  show({x with Ae:=BH}:Mu).Au M l=_;unfold Mo.Mu.Au;simp only[hx];unfold Mo.Bu.step Mo.Bu.Au;simp only[hp,←hc,hlv];by_cases e1:(c.step M l).1.next= .nil
  ·simp only[if_pos e1];by_cases e2:(c.step M l).1.JO=true
   ·simp only[if_pos e2];by_cases e3:((x.Ar++[pair v 0]).length:Int)≥M.CQ
    ·simp only[if_pos e3];rw[if_neg (by simp)]
    simp only[if_neg e3];simp
   simp only[if_neg e2];simp
  simp only[if_neg e1];rw[if_neg (by simp)]
 have go: ∀(c':Cl) (w1:Int) (l':Dk),(c.step M l).1.next≠ .nil→c.step M l=(c',l')→(l'=l∧w1=(vw M l).w1∨l'=put l 1 w1)→w1+VB c=(vw M l).w1+VB c'→w1≤(vw M l).w1+1→Qd (gs M (vw M l) x (BD (nm M) ms T)) c' v→
   Lj M (n+1) (x.step M l).2 D (x.step M l).1 ms∧RI M (vw M l) (vw M (x.step M l).2) x (x.step M l).1 (x.step M l).1.Ae:=fun c' w1 l' e0 e1 hl' ow yM hcl'=>by
  rw[hs0,if_neg e0,e1];obtain⟨q1,q2,q3,q4⟩:=cR hL h.len hl';obtain⟨Z,hZ⟩: ∃Z:Mu,Z={x with Bl:={x.Bl with AV:=c',Ae:=BH},Ae:=BH}:=⟨_,rfl⟩;have z1:Z.next= .Dt t:=by rw[hZ];exact hx
  have z2:Z.Bl.next= .BR:=by rw[hZ];exact hp
  have z3:Z.Ar=x.Ar:=by rw[hZ]
  have z4:Z.Bl.v=x.Bl.v:=by rw[hZ]
  have z5:Z.Bl.AV=c':=by rw[hZ]
  have Xb:=h.ui.ux.w1 (w:=w1) (k':=VB c') (by rw[hwk];exact ow) yM;rw[←q4] at Xb;have dn:Dn (vw M l) (vw M l') (gs M (vw M l) x (BD (nm M) ms T)) (gs M (vw M l') x (BD (nm M) ms T)) x Z:=by rw[hZ,q4];exact⟨rfl,rfl,rfl,fun _ h=>h,rfl,rfl,rfl,rfl,rfl⟩
  have hwz:IX Z=VB c':=by unfold IX;rw[z1,z2,z5];simp[IE]
  have hth:=L3 (V:=vw M l') (D:=D) (g:=gs M (vw M l') x (BD (nm M) ms T)) hx z1 dn.Af dn.ar (by rw[hZ]) dn.op (by rw[hZ]) (mF hx z1 hmu dn (fun _=>⟨by rw[←hv];exact z4.trans hlv,by rw[←hv];exact hv1,.inl ⟨z2,by unfold JX;rw[z3];exact htl,by rw[←hv,z5,q4];exact hcl',by rw[←hv,q4];exact hR⟩⟩) (fun g=>by rw[hil] at g;cases g));rw[hwz] at hth;show Lj M (n+1) l' D _ ms∧RI M (vw M l) (vw M l') x _ _;rw[←hZ];exact h.Vn ME q1 q2 q3 (fun t'=>by rw[z3]) hth Xb (.inr ⟨by rw[z2];simp,Vv⟩) (.inl (by rw[hZ];rfl)) (by rw[q4];exact .refl)
 have lost: ∀(c':Cl) (w1:Int) (l':Dk),(c.step M l).1.next= .nil→(c.step M l).1.JO=false→c.step M l=(c',l')→(l'=l∧w1=(vw M l).w1∨l'=put l 1 w1)→w1+VB c=(vw M l).w1→w1≤(vw M l).w1+1→(gs M (vw M l) x (BD (nm M) ms T)).GK v→
   Lj M (n+1) (x.step M l).2 D (x.step M l).1 ms∧RI M (vw M l) (vw M (x.step M l).2) x (x.step M l).1 (x.step M l).1.Ae:=fun c' w1 l' e0 e2 e1 hl' ow yM hmk=>by
  rw[hs0,if_pos e0,if_neg (by rw[e2];simp),e1];obtain⟨q1,q2,q3,q4⟩:=cR hL h.len hl';obtain⟨Z,hZ⟩: ∃Z:Mu,Z={x with Bl:={x.Bl with AV:=c',Ae:=BH,next:= .nil},Ae:=BH}:=⟨_,rfl⟩;have z1:Z.next= .Dt t:=by rw[hZ];exact hx
  have z3:Z.Ar=x.Ar:=by rw[hZ]
  have z6:Z.Ae=BH:=by rw[hZ]
  have Xb:=h.ui.ux.w1 (w:=w1) (k':=0) (by rw[hwk];omega) yM;rw[←q4] at Xb;have dn:Dn (vw M l) (vw M l') (gs M (vw M l) x (BD (nm M) ms T)) (gs M (vw M l') x (BD (nm M) ms T)) x Z:=by rw[hZ,q4];exact⟨rfl,rfl,rfl,fun _ h=>h,rfl,rfl,rfl,rfl,rfl⟩
  have L5:=yP (V:=vw M l') (D:=D) (g:=gs M (vw M l') x (BD (nm M) ms T)) hL (by omega) z1 (Xc hx hmu dn fun _=> .inr (by rw[←hv,q4];exact hmk)) (by unfold JX;rw[z3];exact htl) (by rw[dn.ar];rfl) (by rw[dn.Af];exact h.ui.co.rr) (by rw[dn.Af];exact fun r hr h1=> .DX (.inl hr) h1);obtain⟨a1,a2,a3,a4⟩:=L5;have hth:=a1.of dn.Af dn.ar (by rw[hZ]) (by rw[hZ];rfl);show Lj M (n+1) l' D _ ms∧RI M (vw M l) (vw M l') x _ _;rw[←hZ];exact h.Vn ME q1 q2 q3 (fun t'=>by rw[a2,z3]) hth Xb (by rw[Vv];exact a4 _) (.inl (by rw[a3,z6];rfl)) (by rw[q4];exact .refl)
 cases hcn:c.next<;>rw[hcn] at d4<;>simp only at d4
 ·by_cases hm:(vw M l).mw v≥c.Ah
  ·have ec:c.step M l=({c with k:=(vw M l).mw v,next:= .nil},l):=by
    unfold Mo.Cl.step;rw[hcn,d1];exact if_pos hm
   refine lost _ (vw M l).w1 l (by rw[ec]) (by rw[ec];exact d3) ec (.inl ⟨rfl,rfl⟩) (by unfold VB;rw[hcn];simp) (by omega) ⟨haw,?_⟩;show x.AL≤(vw M l).mw v;rw[←dA];exact hm
  have ec:c.step M l=({c with k:=(vw M l).mw v,next:= .count},l):=by
   unfold Mo.Cl.step;rw[hcn,d1];exact if_neg hm
  refine go _ (vw M l).w1 l (by rw[ec];simp) ec (.inl ⟨rfl,rfl⟩) (by unfold VB;rw[hcn];simp) (by omega) ⟨d1,d2,d3,?_,.inl rfl⟩;show(vw M l).mw v<x.AL;omega
 ·have ec:c.step M l=({c with next:= .swap},put l 1 ((vw M l).w1+1)):=by
   unfold Mo.Cl.step;rw[hcn];show(_,XG l 1 1)=_;unfold XG;rw[show ld l 1=(vw M l).w1 from rfl,IA (by omega)]
  exact go _ ((vw M l).w1+1) _ (by rw[ec];simp) ec (.inr rfl) (by unfold VB;rw[hcn];simp) (Int.le_refl _) ⟨d1,d2,d3,d4⟩
 ·have hin:=oq hL h.len hwr;by_cases hk:(vw M l).mw v=c.k
  ·have hcas:KX l (M.Mark v) c.k=true:=decide_eq_true ⟨hin,hk⟩;have ec:c.step M l=({c with JO:=true,next:= .nil},put l (M.Mark v) x.AL):=by
    unfold Mo.Cl.step;rw[hcn,d1,dA];simp only;rw[if_pos hcas,show KL l (M.Mark v) c.k x.AL=put l (M.Mark v) x.AL from if_pos hcas]
   obtain⟨q1,q2⟩:=LZ (l:=l) (v:=x.AL) hL (q:= .mark v) (by simp);have q3: ∀a,MM M (put l (M.Mark v) x.AL) a=MM M l a:=fun a=>Iq hL (q:= .mark v) (by simp)
   have q4:vw M (put l (M.Mark v) x.AL)=tJ (vw M l) v x.AL:=lZ hL h.len hwr;have Xb:=h.ui.ux.AV (w:=v) (k':=0) hR (by rw[hk,←dA];exact d2▸d4.1) (WI.il hL) (by rw[hwk];unfold VB;rw[hcn];rfl);rw[←q4] at Xb;have hgm:=VD (M:=M) (V:=vw M l) (x:=x) (Vz:=BD (nm M) ms T) (XQ:=BD (nm M) ms (pair v 0::T)) hR haw;rw[←q4] at hgm;have hmk:(gs M (vw M (put l (M.Mark v) x.AL)) x (BD (nm M) ms (pair v 0::T))).GK v:=⟨⟨haw.1,by rw[q4];exact haw.2⟩,by rw[q4];show x.AL≤if v=v then x.AL else _;rw[if_pos rfl];exact Int.le_refl _⟩;have hct: ∀t',(pair v 0::T).count t'+x.Ar.count t'=T.count t'+(x.Ar++[pair v 0]).count t':=fun t'=>by
    rw[List.count_append,List.count_cons,List.count_cons,List.count_nil];omega
   have dnn: ∀u,Gg (gs M (vw M l) x (BD (nm M) ms T)) u→Gg (gs M (vw M (put l (M.Mark v) x.AL)) x (BD (nm M) ms (pair v 0::T))) u:=fun u g=>hgm.node g
   rw[hs0,ec,if_pos rfl,if_pos rfl];by_cases hb:((x.Ar++[pair v 0]).length:Int)≥M.CQ
   ·rw[if_pos hb];obtain⟨Z,hZ⟩: ∃Z:Mu,Z={x with Bl:={x.Bl with AV:={c with JO:=true,next:= .nil},Ae:=⟨1,0,v,0,0⟩,put:= .put (x.Ar++[pair v 0]),next:= .F9},Ar:=x.Ar++[pair v 0],Ae:=⟨1,0,v,0,0⟩}:=⟨_,rfl⟩;have z1:Z.next= .Dt t:=by rw[hZ];exact hx
    have z2:Z.Bl.next= .F9:=by rw[hZ]
    have z3:Z.Ar=x.Ar++[pair v 0]:=by rw[hZ]
    have z4:Z.Bl.v=x.Bl.v:=by rw[hZ]
    have z5:Z.Bl.put= .put (x.Ar++[pair v 0]):=by rw[hZ]
    have dn:Dn (vw M l) (vw M (put l (M.Mark v) x.AL)) (gs M (vw M l) x (BD (nm M) ms T)) (gs M (vw M (put l (M.Mark v) x.AL)) x (BD (nm M) ms (pair v 0::T))) x Z:=by
     refine⟨by rw[q4];rfl,by rw[q4];rfl,by rw[q4];rfl,dnn,?_,?_,?_,?_,?_⟩<;>rw[hZ]
    have hwz:IX Z=0:=by unfold IX;rw[z2];simp
    have hth:=L3 (V:=vw M (put l (M.Mark v) x.AL)) (D:=D) (g:=gs M (vw M (put l (M.Mark v) x.AL)) x (BD (nm M) ms (pair v 0::T))) hx z1 dn.Af dn.ar (by rw[hZ]) dn.op (by rw[hZ]) (mF hx z1 hmu dn (fun _=>⟨by rw[←hv];exact z4.trans hlv,by rw[←hv];exact hv1,.inr ⟨z2,by rw[←hv];exact hmk⟩⟩) (fun _=>z2));rw[hwz] at hth;have hbu:=hL.bu;have Ai6:(x.Ar.length:Int)<M.CQ:=htl;show Lj M (n+1) (put l (M.Mark v) x.AL) D _ ms∧RI M (vw M l) (vw M (put l (M.Mark v) x.AL)) x _ _;rw[←hZ];exact h.Vn ME q1 q2 q3 (fun t'=>by rw[z3];exact hct t') hth Xb (.inl ⟨by rw[z1];rfl,z2,by rw[z5,z3,Vv];exact lS (by simp) (by rw[List.length_append];simp only[List.length_cons,List.length_nil];omega)⟩) (.inr (.inl (by rw[hZ]))) (by rw[q4];exact .refl)
   rw[if_neg hb];obtain⟨Z,hZ⟩: ∃Z:Mu,Z={x with Bl:={x.Bl with AV:={c with JO:=true,next:= .nil},Ae:=⟨1,0,v,0,0⟩,next:= .nil},Ar:=x.Ar++[pair v 0],Ae:=⟨1,0,v,0,0⟩}:=⟨_,rfl⟩;have z1:Z.next= .Dt t:=by rw[hZ];exact hx
   have z3:Z.Ar=x.Ar++[pair v 0]:=by rw[hZ]
   have z6:Z.Ae=⟨1,0,v,0,0⟩:=by rw[hZ]
   have dn:Dn (vw M l) (vw M (put l (M.Mark v) x.AL)) (gs M (vw M l) x (BD (nm M) ms T)) (gs M (vw M (put l (M.Mark v) x.AL)) x (BD (nm M) ms (pair v 0::T))) x Z:=by
    refine⟨by rw[q4];rfl,by rw[q4];rfl,by rw[q4];rfl,dnn,?_,?_,?_,?_,?_⟩<;>rw[hZ]
   have L5:=yP (V:=vw M (put l (M.Mark v) x.AL)) (D:=D) (g:=gs M (vw M (put l (M.Mark v) x.AL)) x (BD (nm M) ms (pair v 0::T))) hL (by omega) z1 (Xc hx hmu dn fun _=> .inr (by rw[←hv];exact hmk)) (by unfold JX;rw[z3];omega) (by rw[dn.ar];rfl) (by rw[dn.Af];exact h.ui.co.rr) (by rw[dn.Af];exact fun r hr h1=> .DX (.inl hr) h1);obtain⟨a1,a2,a3,a4⟩:=L5;have hth:=a1.of dn.Af dn.ar (by rw[hZ]) (by rw[hZ];rfl);show Lj M (n+1) (put l (M.Mark v) x.AL) D _ ms∧RI M (vw M l) (vw M (put l (M.Mark v) x.AL)) x _ _;rw[←hZ];exact h.Vn ME q1 q2 q3 (fun t'=>by rw[a2,z3];exact hct t') hth Xb (by rw[Vv];exact a4 _) (.inr (.inl (by rw[a3,z6]))) (by rw[q4];exact .refl)
  have hcas: ¬KX l (M.Mark v) c.k=true:=fun g=>hk (Qy g).2
  have ec:c.step M l=({c with JO:=false,next:= .Jr},l):=by
   unfold Mo.Cl.step;rw[hcn,d1];simp only;rw[if_neg hcas,show KL l (M.Mark v) c.k c.Ah=l from if_neg hcas]
  refine go _ (vw M l).w1 l (by rw[ec];simp) ec (.inl ⟨rfl,rfl⟩) (by unfold VB;rw[hcn];simp) (by omega) ⟨d1,d2,rfl,?_⟩;rcases d4.2 with k|k
  ·exact absurd k hk
  exact k
 have hw1:1≤(vw M l).w1:=by
  have:VB c=1:=by unfold VB;rw[hcn];simp
  omega
 have ec:c.step M l=({c with next:= .nil},put l 1 ((vw M l).w1-1)):=by
  unfold Mo.Cl.step;rw[hcn];show(_,XG l 1 qg)=_;unfold XG;rw[show ld l 1=(vw M l).w1 from rfl,Z9 (by omega)]
 exact lost _ ((vw M l).w1-1) _ (by rw[ec]) (by rw[ec];exact d3) ec (.inr rfl) (by unfold VB;rw[hcn];simp) (by omega) d4
theorem V0(hL:La M)(hn:n<900000)(h:WI M n l D x ms Bc P4 P5 hpm T hps Hs F)(hx:x.next= .Dt t):Lj M (n+1) (x.step M l).2 D (x.step M l).1 ms∧RI M (vw M l) (vw M (x.step M l).2) x (x.step M l).1 (x.step M l).1.Ae:=by
 rcases aG hx h.ui.mu with⟨-,-,-,⟨c,-⟩|⟨c,-⟩⟩|⟨-,c⟩
 ·exact AT hL hn h hx c
 ·exact pq hL hn h hx c
 exact pq hL hn h hx c
theorem jp(hL:La M)(hC:x9 M)(hR:Rms M)(hn:n<900000)(hi:x.i=0)(h:WI M n l D x ms Bc P4 P5 hpm T hps Hs F):Lj M (n+1) (x.step M l).2 D (x.step M l).1 ms∧RI M (vw M l) (vw M (x.step M l).2) x (x.step M l).1 (x.step M l).1.Ae:=by
 cases hx:x.next
 ·exact jQ hL hn h hx
 ·exact jW hL hC hR hn h hx
 ·exact jR h hx
 ·exact wS h hx
 ·exact wQ h hx
 ·exact jS h hx
 ·exact wP hL h hx
 ·exact Zq hL h hx
 ·exact jV h hx
 ·exact V0 hL hn h hx
 exact wR hL hn hi h hx
end
open Go.Proofs.YtmpcfamcbaineaaGreat.Mo
section
variable{l2:Dk}{T:List Int}
def Sg(M:Bz)(l l':Dk):Prop:= ∀v,(∀j,ld l' (M.H8 v j)=ld l (M.H8 v j))∧ld l' (M.D7 v)=ld l (M.D7 v)
theorem Sg.refl:Sg M l l:=fun _=>⟨fun _=>rfl,rfl⟩
theorem Sg.put(hL:La M)(h1: ∀v j,q≠ .En v j)(h2: ∀v,q≠ .Ea v):Sg M l (put l (ad M q) w):=fun v=>⟨fun j=>DU hL (q:= .En v j) (h1 v j),DU hL (q:= .Ea v) (h2 v)⟩
theorem Sg.KL(hL:La M){o:Int}(h1: ∀v j,q≠ .En v j)(h2: ∀v,q≠ .Ea v):Sg M l (KL l (ad M q) o w):=by
 unfold Mo.KL;split
 ·exact .put hL h1 h2
 exact .refl
theorem Sg.z1(h:QB M l l' a hold Bc EY):Sg M l l':=fun v=>⟨fun j=>h.ND (.En v j) (by simp) (by simp) (by simp) (by simp) (by simp) (by simp) (by simp) (by simp),h.ND (.Ea v) (by simp) (by simp) (by simp) (by simp) (by simp) (by simp) (by simp) (by simp)⟩
theorem Sg.cl(hL:La M){c:Cl}:Sg M l (c.step M l).2:=by
 unfold Mo.Cl.step;split
 ·exact .refl
 ·split<;>exact .refl
 ·exact Sg.put hL (q:= .FW 1) (by simp) (by simp)
 ·split<;>exact Sg.KL hL (q:= .mark c.v) (by simp) (by simp)
 exact Sg.put hL (q:= .FW 1) (by simp) (by simp)
theorem js(hL:La M)(hn:n<900000)(h:WI M n l D x ms Bc P4 P5 hpm T hps Hs F)(hi:i<nm M)(hx:(ms i).next= .Ee):Sg M l ((ms i).AU.step M l).2:=by
 obtain⟨m1,m2,m3⟩:=h.nG i hi;rw[hx] at m3;obtain⟨hp2,H2,⟨b1,b2⟩,b3,b4⟩:=m3;have hi0:(i:Int)<M.Ai:=by unfold nm at hi;omega
 unfold Mo.Sc.step Mo.Sc.Au;split<;>rename_i hs
 ·exact .refl
 ·split<;>exact .refl
 ·exact Sg.put hL (q:= .FW 1) (by simp) (by simp)
 ·have hs:(ms i).AU.next= .L9:=hs;rw[hs] at b2;have hE:=h.e1 hi;rw[b3] at hE;obtain⟨EY,QL,SX,hp',H',hO,k1,k2⟩:=cB hL hn (by omega) hi0 hE.sub b2;split<;>exact .z1 hO.z
 ·split<;>exact .refl
 ·split
  ·split<;>exact .cl hL
  exact .cl hL
 exact Sg.put hL (q:= .FW 1) (by simp) (by simp)
theorem jt(hL:La M)(h:WI M n l D x ms Bc P4 P5 hpm T hps Hs F)(hi:i<nm M)(hx:(ms i).next= .EN):Sg M l ((ms i).AO.step M l).2:=by
 unfold Mo.Sw.step Mo.Sw.Au;split<;>rename_i hs
 ·exact .refl
 ·split<;>exact .refl
 ·split<;>exact Sg.KL hL (q:= .FW 2) (by simp) (by simp)
 ·split<;>exact .refl
 ·split<;>exact .refl
 ·exact Sg.put hL (q:= .state _) (by simp) (by simp)
 ·have hs:(ms i).AO.next= .MW:=hs;obtain⟨⟨nd,hd,hp,-⟩,-⟩:=h.cs i hi hx hs;have key:Sg M l ((ms i).AO.push.step M l).2:=by
   unfold Mo.St.step;rcases hp with g|g|g<;>rw[g]<;>simp only
   ·exact .refl
   ·rw[nd];exact Sg.put hL (q:= .next _) (by simp) (by simp)
   rw[hd];split<;>exact Sg.KL hL (q:= .head _) (by simp) (by simp)
  split<;>exact key
 exact Sg.put hL (q:= .FW 3) (by simp) (by simp)
theorem ju(hL:La M)(hn:n<900000)(h:WI M n l D x ms Bc P4 P5 hpm T hps Hs F)(hi:i<nm M):Sg M l ((ms i).step M l dr).2:=by
 unfold Mo.Mk.step;split<;>rename_i hx
 ·repeat' split
  all_goals exact .refl
 ·obtain⟨m1,m2,m3⟩:=h.nG i hi;rw[hx] at m3;obtain⟨m3,m4⟩:=m3;have hi0:(i:Int)<M.Ai:=by unfold nm at hi;omega
  obtain⟨EY,QL,SX,hp',H',hO,hs⟩:=cA hL hn (by omega) hi0 (h.e1 hi) m4 m3;split<;>exact .z1 hO.z
 ·split<;>exact .refl
 ·split<;>exact js hL hn h hi hx
 split<;>exact jt hL h hi hx
theorem jx(hL:La M){d:De}:Sg M l (d.step M l dr).2:=by
 have k0: ∀w,Sg M l (put l 0 w):=fun w=>Sg.put hL (q:= .FW 0) (by simp) (by simp)
 have ks: ∀(d:De) (w:Int),Sg M l (d.KD M w l).2:=fun d w=>by
  unfold Mo.De.KD
  repeat' split
  all_goals exact .refl
 unfold Mo.De.step Mo.De.Au;split
 ·split
  ·exact .refl
  exact k0 _
 ·exact ks _ _
 ·exact k0 _
 ·exact ks _ _
 ·exact k0 _
 ·exact ks _ _
 ·exact k0 _
 ·exact .refl
 ·exact .refl
 ·exact Sg.put hL (q:= .FW 2) (by simp) (by simp)
 ·exact Sg.put hL (q:= .FW 3) (by simp) (by simp)
 ·exact k0 _
 ·split<;>exact .refl
 ·exact k0 _
 exact .refl
theorem Sg.keep(h:Sg M l l'):Tu M (vw M l) (vw M l'):=fun v _ _ _=>⟨(h v).2,(h v).1⟩
structure WV (M:Bz) (n:Int) (W:Wo):Prop where
 mks:W.Ai.length=nm M
 mu: ∃x,W.Ak=[x]∧x.i=0∧Lj M n W.l W.Ik x (fun j=>W.Ai.getD j OO)
structure Ma (M:Bz):Prop where
 la:La M
 tU:x9 M
 rms:Rms M
 sw:1≤M.AO
 pb:0≤M.parts∧M.parts≤100000
 one:M.Ak=1
def me(W:Wo):Mu:=W.Ak.getD 0 TM
def lv(M:Bz)(W:Wo):Vw:=vw M W.l
theorem jz(hM:Ma M)(hn:n<900000)(h:WI M n l D x ms Bc P4 P5 hpm T hps Hs F)(hi:i<nm M):Lj M (n+1) ((ms i).step M l dr).2 D x (J3 ms i ((ms i).step M l dr).1)∧Xa ((ms i).step M l dr).1.Ae:=by
 have e0: ∀{e:Ev},e=BH→Xa e:=fun e=>by rw[e];exact⟨Int.le_refl _,by decide⟩
 cases hx:(ms i).next
 ·exact⟨(X4 h hi hx).1,e0 (X4 h hi hx).2⟩
 ·exact⟨(U4 hM.la hn h hi hx).1,e0 (U4 hM.la hn h hi hx).2⟩
 ·exact⟨(X5 h hi hx).1,e0 (X5 h hi hx).2⟩
 ·exact Zg hM.la hn h hi hx
 exact Wi hM.la hM.tU hM.sw hM.pb.2 hn h hi hx
theorem V1:x.Iw.i=x.i:=by unfold Mo.Mu.Iw;split<;>rfl
theorem yQ: ∀(n:Nat) (x:Mu),(Mu.QV M n x).i=x.i
 |0,x=>V1
 |n+1,x=>by
  unfold Mo.Mu.QV;split
  ·exact yQ n _
  rfl
theorem L7:(x.DN M).i=x.i:=by unfold Mo.Mu.DN;split<;>rfl
theorem ka:(x.dC M t).i=x.i:=by
 cases t
 ·exact(JB x).1
 ·exact yQ _ x
 ·rfl
 ·exact L7
 rfl
theorem AcG:(x.step M l).1.i=x.i:=by
 unfold Mo.Mu.step Mo.Mu.Au;split
 ·rfl
 ·rfl
 ·rfl
 ·repeat' split
  all_goals rfl
 ·repeat' split
  all_goals rfl
 ·rfl
 ·split
  ·exact L7
  rfl
 ·rfl
 ·split
  ·exact ka
  rfl
 ·repeat' split
  ·rfl
  ·rfl
  ·exact yQ _ _
  ·exact(JB _).1
  rfl
 exact(JB _).1
theorem V2{L:List Mk}(hi:i<L.length):(fun j=>(L.set i y).getD j OO)=J3 (fun j=>L.getD j OO) i y:=by
 funext j;unfold J3;rw[List.getD_eq_getElem?_getD,List.getElem?_set];by_cases e:i=j
 ·subst e;simp[hi]
 rw[if_neg e,if_neg (fun g=>e g.symm)];show _=L.getD j OO;rw[List.getD_eq_getElem?_getD]
theorem ke(hM:Ma M)(hn:n<900000)(h:WV M n W){Di:Nat}(hw:Di<W.FX):
  WV M (n+1) (W.EC M Di dr).1∧(Xa (W.EC M Di dr).2∧me (W.EC M Di dr).1=me W∧Tu M (lv M W) (lv M (W.EC M Di dr).1)∨
   Di=nm M∧RI M (lv M W) (lv M (W.EC M Di dr).1) (me W) (me (W.EC M Di dr).1) (W.EC M Di dr).2):=by
 obtain⟨hk,x,hmu,hi,Bc,P4,P5,hpm,T,hps,Hs,F,hW⟩:=h;unfold Mo.Wo.FX at hw;rw[hmu] at hw;simp only[List.length_cons,List.length_nil] at hw;unfold Mo.Wo.EC;by_cases c1:Di<W.Ai.length
 ·rw[if_pos c1];have hi':Di<nm M:=by omega
  have hm:=jz hM hn hW hi' (dr:=dr);have hs:=ju hM.la hn hW hi' (dr:=dr);refine⟨⟨by simp[hk],x,hmu,hi,?_⟩,.inl ⟨hm.2,rfl,hs.keep⟩⟩;rw[V2 c1];exact hm.1
 rw[if_neg c1];by_cases c2:Di<W.Ai.length+W.Ak.length
 ·rw[if_pos c2];rw[hmu] at c2;simp only[List.length_cons,List.length_nil] at c2;have e0:Di-W.Ai.length=0:=by omega
  rw[e0,hmu];have hm:=jp hM.la hM.tU hM.rms hn hi hW;have hi':(x.step M W.l).1.i=0:=AcG.trans hi;refine⟨⟨hk,_,rfl,hi',hm.1⟩,.inr ⟨by omega,?_⟩⟩;unfold me lv;rw[hmu];exact hm.2
 rw[if_neg c2];have hd:=ip hM.la hM.one hM.pb hn hW (dr:=dr);exact⟨⟨hk,x,hmu,hi,hd.1⟩,.inl ⟨hd.2,rfl,(jx hM.la).keep⟩⟩
end
open Go.Proofs.YtmpcfamcbaineaaGreat.Mo
def aH(g:Gr)(o:I4):(Int×Int)×Gr:=
 if o.kind=0 then(if¬g.BM 0 then((13,13),g) else if Bi o.a<0 then((13,21),g) else((8,o.a),(g.alloc 0 o.a).1))
 else if o.kind=1 then(if g.root 0 o.a<1 then((13,1),g) else if¬g.BM 0 then((13,13),g) else if g.has 0 o.a o.b then((9,o.b),(g.G5 0 o.a o.b).1) else((13,21),g))
 else if o.kind=2 then(if g.root 0 o.a<1∨g.root 0 o.c<0 then((13,1),g) else if g.has 0 o.a o.b then((10,o.b),(g.Es 0 o.a o.b o.c).1) else((13,21),g))
 else if o.kind=3 then(if(g.rs 0).length=0 then((13,1),g) else((11,0),(g.Kq 0).1))
 else if o.kind=4 then(if g.root 0 o.a<0 then((13,1),g) else if¬g.BM 0 then((13,13),g) else((12,0),(g.NU 0 o.a).1))
 else((13,1),g)
section
variable{r:List Int}{p:Pr}
inductive Rr (V:Vw) (r:List Int):Int→Prop where
 |DX {v:Int}:v∈r→1≤v→Rr V r v
 |step {v j:Int}:Rr V r v→1≤V.val v j→Rr V r (V.val v j)
structure Gd (M:Bz) (V:Vw) (r:List Int):Prop where
 al: ∀v,Rr V r v→(1≤v∧v≤M.nodes)∧V.st v=1∧0≤V.Lh v
 vr: ∀v j,0≤V.val v j∧V.val v j≤M.nodes
 rr: ∀v∈r,0≤v∧v≤M.nodes
 nn:1≤M.nodes
def Pr.at(p:Pr)(v:Int):Int:=p.at_.getD v.toNat 0
structure RF (M:Bz) (V:Vw) (r:List Int) (p:Pr):Prop where
 ok:p.ok=true
 len:(p.at_.length:Int)=M.nodes+1
 a0:p.at 0=0
 D5:p.g.D5=M.Af
 rt:p.g.Af=[r.map p.at]
 nd: ∀v,Rr V r v→(1≤p.at v∧p.at v≤p.g.nodes.length)∧((p.g.A7 (p.at v)).length:Int)=V.Lh v∧ ∀j,0≤j→j<V.Lh v→(p.g.A7 (p.at v)).getD j.toNat 0=p.at (V.val v j)
 inj: ∀v w,Rr V r v→Rr V r w→p.at v=p.at w→v=w
theorem Rr.keep(hg:Gd M V r)(hk:Tu M V V')(h:Rr V' r v):Rr V r v:=by
 induction h with
 |DX a b=>exact .DX a b
 | @step v j a b ih=>
  have ha:=hg.al _ ih;rw[(hk v ha.1.1 ha.1.2 ha.2.1).2 j] at b⊢
  exact .step ih b
theorem Rr.mono{r':List Int}(hr: ∀x∈r',1≤x→Rr V r x)(h:Rr V r' v):Rr V r v:=by
 induction h with
 |DX a b=>exact hr _ a b
 |step a b ih=>exact .step ih b
theorem RF.sub{r':List Int}(h:RF M V r p){p':Pr}(hr: ∀v,Rr V' r' v→Rr V r v)(hv: ∀v,Rr V r v→V'.Lh v=V.Lh v∧ ∀j,V'.val v j=V.val v j)(h1:p'.ok=true)(h2:p'.at_=p.at_)(h3:p'.g.D5=p.g.D5)(h4:p'.g.nodes=p.g.nodes)(h5:p'.g.Af=[r'.map p.at]):RF M V' r' p':=by
 have ea: ∀v,p'.at v=p.at v:=fun v=>by unfold Pr.at;rw[h2]
 have es: ∀v,p'.g.A7 v=p.g.A7 v:=fun v=>by unfold Gr.A7;rw[h4]
 refine⟨h1,by rw[h2];exact h.len,by rw[ea];exact h.a0,by rw[h3];exact h.D5,by rw[h5,show p'.at=p.at from funext ea],fun v g=>?_,fun v w g1 g2 e=>h.inj v w (hr v g1) (hr w g2) (by rw[ea,ea] at e;exact e)⟩;have hd:=h.nd v (hr v g);have hh:=hv v (hr v g);rw[ea,es,h4,hh.1];refine⟨hd.1,hd.2.1,fun j h0 h1=>?_⟩;rw[ea,hh.2 j];exact hd.2.2 j h0 h1
theorem RF.tau(h:RF M V r p)(hg:Gd M V r)(hk:Tu M V V'):RF M V' r p:=h.sub (fun v g=>g.keep hg hk) (fun v g=>hk v (hg.al v g).1.1 (hg.al v g).1.2 (hg.al v g).2.1) h.ok rfl rfl rfl h.rt
theorem mG{l:List Int}{a b:Nat}{x:Int}(h:a<l.length):(l.set a x).getD b 0=if b=a then x else l.getD b 0:=by
 rw[List.getD_eq_getElem?_getD,List.getElem?_set];by_cases e:a=b
 ·subst e;simp[h]
 rw[if_neg e,if_neg (fun g=>e g.symm),List.getD_eq_getElem?_getD]
theorem yR{x:Int}{p':Pr}(h0:0≤a)(h:a<p.at_.length)(he:p'.at_=p.at_.set a.toNat x)(hv:0≤v):p'.at v=if v=a then x else p.at v:=by
 unfold Pr.at;rw[he,mG (by omega)];by_cases e:v=a
 ·subst e;rw[if_pos rfl,if_pos rfl]
 rw[if_neg e,if_neg (by omega)]
theorem RF.clear(h:RF M V r p)(hg:Gd M V r)(h1:1≤a∧a≤M.nodes)(hn: ¬Rr V r a):RF M V r {p with at_:=p.at_.set a.toNat 0}:=by
 have hl:=h.len;have ea: ∀v,0≤v→Pr.at {p with at_:=p.at_.set a.toNat 0} v=if v=a then 0 else p.at v:=fun v hv=>yR (p:=p) (by omega) (by omega) rfl hv
 have hR: ∀v,Rr V r v→Pr.at {p with at_:=p.at_.set a.toNat 0} v=p.at v:=fun v g=>by
  have:=(hg.al v g).1.1;rw[ea v (by omega),if_neg (fun(e:v=a)=>hn (e▸g))]
 have hR0: ∀v,0≤v→(1≤v→Rr V r v)→Pr.at {p with at_:=p.at_.set a.toNat 0} v=p.at v:=fun v h0 g=>by
  rw[ea v h0,if_neg];rintro rfl;exact hn (g h1.1)
 refine⟨h.ok,by simpa using hl,?_,h.D5,?_,fun v g=>?_,fun v w g1 g2 e=>h.inj v w g1 g2 (by rw[hR v g1,hR w g2] at e;exact e)⟩
 ·rw[ea 0 (by omega),if_neg (by omega)];exact h.a0
 ·show p.g.Af=_;rw[h.rt];congr 1;refine(List.map_congr_left fun v hv=>?_).symm;exact hR0 v (hg.rr v hv).1 fun g=> .DX hv g
 have hd:=h.nd v g;show(1≤Pr.at _ v∧Pr.at _ v≤p.g.nodes.length)∧((p.g.A7 (Pr.at _ v)).length:Int)=_∧ ∀j,_→_→(p.g.A7 (Pr.at _ v)).getD _ 0=Pr.at _ (V.val v j);rw[hR v g];refine⟨hd.1,hd.2.1,fun j h0 h2=>?_⟩;rw[hd.2.2 j h0 h2];exact(hR0 _ (hg.vr v j).1 fun k=> .step g k).symm
end
open Go.Proofs.YtmpcfamcbaineaaGreat.Mo
section
variable{p:Pr}{m:Int}
theorem RF.rs(h:RF M V x.Af p):p.g.rs 0=x.Af.map p.at:=by unfold Gr.rs;rw[h.rt];rfl
theorem RF.is0(h:RF M V x.Af p):p.g.is 0:=by unfold Gr.is;rw[h.rt];simp
theorem RF.BM(h:RF M V x.Af p):p.g.BM 0↔(x.Af.length:Int)<M.Af:=by
 unfold Gr.BM;rw[h.rs,h.D5,List.length_map];exact⟨fun g=>g.2,fun g=>⟨h.is0,g⟩⟩
theorem RF.pos(h:RF M V x.Af p)(hv:v∈x.Af)(h0:0≤v):0≤p.at v∧(1≤p.at v↔1≤v):=by
 rcases(show v=0∨1≤v by omega) with e|e
 ·subst e;have:=h.a0;omega
 have:=(h.nd v (.DX hv e)).1.1;omega
theorem RF.root(h:RF M V x.Af p)(hg:Gd M V x.Af)(a:Int):x.root a= -1∧p.g.root 0 a= -1∨x.root a∈x.Af∧0≤x.root a∧p.g.root 0 a=p.at (x.root a)∧0≤p.at (x.root a)∧(1≤p.at (x.root a)↔1≤x.root a):=by
 unfold Gr.root Mo.Mu.root;rw[h.rs,List.length_map];by_cases c:0≤a∧a<x.Af.length
 ·rw[if_neg (by omega),if_pos ⟨h.is0,c⟩];have hm:x.Af.getD a.toNat 0∈x.Af:=by
   rw[List.getD_eq_getElem?_getD,List.getElem?_eq_getElem (by omega)];exact List.getElem_mem _
  have h0:=(hg.rr _ hm).1;refine .inr ⟨hm,h0,?_,h.pos hm h0⟩;rw[List.getD_eq_getElem?_getD,List.getD_eq_getElem?_getD,List.getElem?_map,List.getElem?_eq_getElem (by omega)];rfl
 rw[if_pos (by omega),if_neg (by omega)];exact .inl ⟨rfl,rfl⟩
theorem RF.has(h:RF M V x.Af p)(hg:Gd M V x.Af)(a b:Int):p.g.has 0 a b↔1≤x.root a∧0≤b∧b<V.Lh (x.root a):=by
 unfold Gr.has;rcases h.root hg a with⟨e1,e2⟩|⟨e1,e2,e3,e4,e5⟩
 ·rw[e1,e2];omega
 rw[e3];by_cases c:1≤x.root a
 ·rw[(h.nd _ (.DX e1 c)).2.1];omega
 omega
theorem Rr.pz(h:1≤x.root a):Rr V x.Af (x.root a):= .DX (RJ (by omega)).1 h
theorem Mb{l k:List (List Int)}{n:Nat}(h:n<l.length):(l++k).getD n []=l.getD n []:=by
 rw[List.getD_eq_getElem?_getD,List.getElem?_append_left h,List.getD_eq_getElem?_getD]
theorem AW{l:List (List Int)}{z:List Int}:(l++[z]).getD l.length []=z:=by
 rw[List.getD_eq_getElem?_getD,List.getElem?_append_right (Nat.le_refl _)];simp
theorem aI{n:Nat}:(List.replicate n (0:Int)).getD k 0=0:=by
 rw[List.getD_eq_getElem?_getD,List.getElem?_replicate];split<;>rfl
theorem Mf(h:RF M V x.Af p)(hg:Gd M V x.Af)(ha:1≤a∧a≤M.nodes)(hs:V.st a≠1)(hat:p.at a=0)(hn:0≤n∧n≤64)(hr:(x.Af.length:Int)<M.Af)(hh:V'.Lh a=n)(hz: ∀j,V'.val a j=0)(hk:Tu M V V')(hx:x'.Af=x.Af++[a]){p':Pr}
  (hp:p'=⟨(p.g.alloc 0 n).1,p.at_.set a.toNat (p.g.alloc 0 n).2.1,true⟩):RF M V' x'.Af p':=by
 have hl:=h.len;have hne: ¬Rr V x.Af a:=fun g=>hs (hg.al a g).2.1
 have e0:p.g.alloc 0 n=(Gr.push {p.g with nodes:=p.g.nodes++[List.replicate n.toNat 0]} 0 (p.g.nodes.length+1),(p.g.nodes.length:Int)+1,true):=by
  unfold Gr.alloc;rw[if_neg];rintro(g|g|g)
  ·exact g (h.BM.2 hr)
  ·omega
  omega
 rw[e0] at hp;have q1:p'.at_=p.at_.set a.toNat (p.g.nodes.length+1):=by rw[hp]
 have q2:p'.g.nodes=p.g.nodes++[List.replicate n.toNat 0]:=by rw[hp];rfl
 have q3:p'.g.Af=[x.Af.map p.at++[(p.g.nodes.length:Int)+1]]:=by
  rw[hp];show p.g.Af.set 0 (p.g.rs 0++_)=_;rw[h.rs,h.rt];rfl
 have q4:p'.g.D5=p.g.D5:=by rw[hp];rfl
 have ea: ∀v,0≤v→p'.at v=if v=a then(p.g.nodes.length:Int)+1 else p.at v:=fun v hv=>yR (by omega) (by omega) q1 hv
 have en: ∀v,Rr V x.Af v→p'.at v=p.at v:=fun v g=>by
  have:=(hg.al v g).1.1;rw[ea v (by omega),if_neg (fun(k:v=a)=>hne (k▸g))]
 have e0': ∀v,0≤v→(1≤v→Rr V x.Af v)→p'.at v=p.at v:=fun v h0 g=>by
  rw[ea v h0,if_neg];rintro rfl;exact hne (g ha.1)
 have aa:p'.at a=p.g.nodes.length+1:=by rw[ea a (by omega),if_pos rfl]
 have a0:p'.at 0=0:=by rw[ea 0 (by omega),if_neg (by omega)];exact h.a0
 have hR: ∀v,Rr V' x'.Af v→Rr V x.Af v∨v=a:=fun v g=>by
  induction g with
  |DX k k1=>
   rw[hx] at k;rcases List.mem_append.1 k with k|k
   ·exact .inl (.DX k k1)
   exact .inr (List.mem_singleton.1 k)
  | @step v j _ k ih=>
   rcases ih with ih|rfl
   ·have hal:=hg.al _ ih;rw[(hk v hal.1.1 hal.1.2 hal.2.1).2 j] at k⊢
    exact .inl (.step ih k)
   rw[hz] at k;omega
 have sl: ∀u:Int,1≤u→u≤p.g.nodes.length→p'.g.A7 u=p.g.A7 u:=fun u h1 h2=>by
  unfold Gr.A7;rw[q2,Mb (by omega)]
 refine⟨by rw[hp],by rw[q1];simpa using hl,a0,by rw[q4];exact h.D5,?_,fun v g=>?_,fun v w g1 g2 k=>?_⟩
 ·rw[q3,hx,List.map_append];congr 1;congr 1
  ·refine(List.map_congr_left fun v hv=>?_).symm;exact e0' v (hg.rr v hv).1 fun g=> .DX hv g
  simp[aa]
 ·rcases hR v g with k|rfl
  ·have hd:=h.nd v k;have hal:=hg.al _ k;have hkk:=hk v hal.1.1 hal.1.2 hal.2.1;rw[en v k,sl _ hd.1.1 hd.1.2,hkk.1,q2,List.length_append];refine⟨by have:=hd.1;simp only[List.length_cons,List.length_nil];omega,hd.2.1,fun j h0 h1=>?_⟩;rw[hd.2.2 j h0 h1,hkk.2 j];exact(e0' _ (hg.vr v j).1 fun k'=> .step k k').symm
  rw[aa,q2,List.length_append];have es:p'.g.A7 ((p.g.nodes.length:Int)+1)=List.replicate n.toNat 0:=by
   unfold Gr.A7;rw[q2,show(((p.g.nodes.length:Int)+1-1)).toNat=p.g.nodes.length by omega];exact AW
  rw[es,hh];refine⟨by simp only[List.length_cons,List.length_nil];omega,by simp;omega,fun j h0 h1=>?_⟩;rw[aI,hz,a0]
 rcases hR v g1 with k1|rfl<;>rcases hR w g2 with k2|rfl
 ·exact h.inj v w k1 k2 (by rw[en v k1,en w k2] at k;exact k)
 ·have:=(h.nd v k1).1;rw[en v k1,aa] at k;omega
 ·have:=(h.nd w k2).1;rw[en w k2,aa] at k;omega
 rfl
theorem Mg(h:RF M V x.Af p)(hg:Gd M V x.Af){c:Int}(h1:1≤x.root a)(hb:0≤b∧b<V.Lh (x.root a))(hc:0≤x.root c)(hx:x'.Af=x.Af)(hh:V'.Lh=V.Lh)(hv: ∀v j,V'.val v j=if v=x.root a∧j=b then x.root c else V.val v j){p':Pr}
  (hp:p'=⟨(p.g.Es 0 a b c).1,p.at_,true⟩):(p.g.Es 0 a b c).2=true∧RF M V' x'.Af p':=by
 have hra:Rr V x.Af (x.root a):= .pz h1;obtain⟨m1,m2,m3,m4,m5⟩:x.root a∈x.Af∧0≤x.root a∧p.g.root 0 a=p.at (x.root a)∧0≤p.at (x.root a)∧(1≤p.at (x.root a)↔1≤x.root a):=by
  rcases h.root hg a with g|g
  ·omega
  exact g
 obtain⟨n1,n2,n3,n4,n5⟩:x.root c∈x.Af∧0≤x.root c∧p.g.root 0 c=p.at (x.root c)∧0≤p.at (x.root c)∧(1≤p.at (x.root c)↔1≤x.root c):=by
  rcases h.root hg c with g|g
  ·omega
  exact g
 have e0:p.g.Es 0 a b c=({p.g with nodes:=p.g.nodes.set (p.at (x.root a)-1).toNat ((p.g.A7 (p.at (x.root a))).set b.toNat (p.at (x.root c)))},true):=by
  unfold Gr.Es;rw[if_neg,m3,n3];rintro(g|g)
  ·exact g ((h.has hg a b).2 ⟨h1,hb⟩)
  omega
 rw[e0] at hp⊢
 refine⟨rfl,?_⟩;have hd:=h.nd _ hra;have q1:p'.at_=p.at_:=by rw[hp]
 have q2:p'.g.nodes=p.g.nodes.set (p.at (x.root a)-1).toNat ((p.g.A7 (p.at (x.root a))).set b.toNat (p.at (x.root c))):=by rw[hp]
 have q3:p'.g.Af=p.g.Af:=by rw[hp]
 have ea:p'.at=p.at:=by funext v;unfold Pr.at;rw[q1]
 have hR: ∀v,Rr V' x.Af v→Rr V x.Af v:=fun v g=>by
  induction g with
  |DX k k1=>exact .DX k k1
  | @step v j _ k ih=>
   rw[hv] at k⊢
   split at k
   ·rename_i c;rw[if_pos c];exact .DX n1 k
   rename_i c;rw[if_neg c];exact .step ih k
 have sl: ∀v,Rr V x.Af v→p'.g.A7 (p.at v)=if v=x.root a then(p.g.A7 (p.at (x.root a))).set b.toNat (p.at (x.root c)) else p.g.A7 (p.at v):=fun v g=>by
  have hv':=(h.nd v g).1;unfold Gr.A7;rw[q2,List.getD_eq_getElem?_getD,List.getElem?_set];by_cases k:v=x.root a
  ·subst k;rw[if_pos rfl,if_pos rfl,if_pos (by omega)];rfl
  rw[if_neg k,if_neg,List.getD_eq_getElem?_getD];intro g';have:=h.inj v _ g hra (by omega);exact k this
 rw[hx];refine⟨by rw[hp],by rw[q1];exact h.len,by rw[ea];exact h.a0,by rw[hp];exact h.D5,by rw[q3,ea];exact h.rt,fun v g=>?_,fun v w g1 g2 k=>h.inj v w (hR v g1) (hR w g2) (by rw[ea] at k;exact k)⟩;have g':=hR v g;have hd':=h.nd v g';rw[ea,sl v g',hh,q2,List.length_set];refine⟨hd'.1,?_,fun j h0 h2=>?_⟩
 ·by_cases k:v=x.root a
  ·rw[if_pos k,List.length_set,k];exact hd.2.1
  rw[if_neg k];exact hd'.2.1
 rw[hv];by_cases k:v=x.root a
 ·subst k;rw[if_pos rfl,mG (by have:=hd.2.1;omega)];by_cases kj:j=b
  ·subst kj;rw[if_pos rfl,if_pos ⟨rfl,rfl⟩]
  rw[if_neg (by omega),if_neg (fun g=>kj g.2)];exact hd'.2.2 j h0 h2
 rw[if_neg k,if_neg (fun g=>k g.1)];exact hd'.2.2 j h0 h2
theorem Ye(h0:0≤a)(h:a<p.at_.length):p.at_.getD (p.P6 a) 0=p.at a:=by
 unfold Pr.P6 Pr.at;rw[show max (min a ((p.at_.length:Int)-1)) 0=a by omega]
theorem Mh{s:Int}(h:0≤Bi s):0≤s∧s≤64:=by
 unfold Bi at h
 repeat' split at h
 all_goals omega
theorem cS(h:RF M V x.Af p)(hg:Gd M V x.Af)(hop:tT M V V' x x' e)(hat:e.kind=8→p.at e.a=0):
  (e.kind=13∧22≤e.b)∨(RF M V' x'.Af (p.take m {e with Di:=m})∧((e.kind,e.b),(p.take m {e with Di:=m}).g)=aH p.g x.op):=by
 have hl:=h.len;have mm:m-m=0:=by omega
 rcases hop with⟨k,ok,hr,hc,eb,hx,ha,hs,hh,hz,hk⟩|⟨k,ok,hr,h1,hb,ea,eb,ec,hx,hk⟩|⟨k,ok,h1,hb,hc,ea,eb,ec,hx,hh,hv⟩|⟨k,eb,ok,hne,hx,hk⟩|⟨k,eb,ok,hr,hb,ea,hx,hk⟩|⟨k,hx,hk,hf⟩
 ·have hn:=Mh hc;have hal:(p.g.alloc 0 x.op.a).2.2=true:=by
   unfold Gr.alloc;rw[if_neg];rintro(g|g|g)
   ·exact g (h.BM.2 hr)
   ·omega
   omega
  have et:p.take m {e with Di:=m}=⟨(p.g.alloc 0 x.op.a).1,p.at_.set e.a.toNat (p.g.alloc 0 x.op.a).2.1,true⟩:=by
   unfold Pr.take;simp only[k,mm,eb];rw[if_neg (by decide),if_pos trivial,if_pos ⟨h.ok,hal,ha.1,by omega,by rw[Ye (by omega) (by omega)];exact hat k⟩]
  refine .inr ⟨Mf h hg ha hs (hat k) hn hr hh hz hk hx et,?_⟩;rw[et];unfold aH;rw[if_pos ok,if_neg (fun g=>g (h.BM.2 hr)),if_neg (by omega),k,eb]
 ·have hra:Rr V x.Af (x.root x.op.a):= .pz h1;have hd:=h.nd _ hra;have Mi:=(h.root hg x.op.a).resolve_left (by omega);have hrd:p.g.G5 0 x.op.a x.op.b=(p.g.push 0 (p.at e.c),p.at e.c,true):=by
   unfold Gr.G5;rw[if_neg (fun g=>g ⟨h.BM.2 hr,(h.has hg _ _).2 ⟨h1,hb⟩⟩),Mi.2.2.1,hd.2.2 _ hb.1 hb.2,←ec]
  have hcr:=hg.vr (x.root x.op.a) x.op.b;rw[←ec] at hcr;have et:p.take m {e with Di:=m}=⟨p.g.push 0 (p.at e.c),p.at_,true⟩:=by
   unfold Pr.take;simp only[k,mm,ea,eb];rw[if_neg (by decide),if_neg (by decide),if_pos trivial,hrd];simp only[h.ok];congr 1;simp only[Bool.true_and,decide_eq_true_eq];exact⟨hcr.1,by omega,Ye hcr.1 (by omega)⟩
  refine .inr ⟨?_,?_⟩
  ·refine h.sub (fun v g=>?_) (fun v g=>hk v (hg.al v g).1.1 (hg.al v g).1.2 (hg.al v g).2.1) (by rw[et]) (by rw[et]) (by rw[et];rfl) (by rw[et];rfl) ?_
   ·have g':Rr V (x.Af++[e.c]) v:=by
     have hR: ∀u,Rr V (x.Af++[e.c]) u→Rr V x.Af u:=fun u gu=>gu.mono fun z hz h1'=>by
      rcases List.mem_append.1 hz with q|q
      ·exact .DX q h1'
      rw[List.mem_singleton.1 q,ec] at h1'⊢
      exact .step hra h1'
     rw[hx] at g;clear hat;induction g with
     |DX a b=>exact .DX a b
     | @step u j a b ih=>
      have hal:=hg.al _ (hR _ ih);rw[(hk _ hal.1.1 hal.1.2 hal.2.1).2 j] at b⊢
      exact .step ih b
    exact g'.mono fun z hz h1'=>by
     rcases List.mem_append.1 hz with q|q
     ·exact .DX q h1'
     rw[List.mem_singleton.1 q,ec] at h1'⊢
     exact .step hra h1'
   rw[et,hx,List.map_append];show p.g.Af.set 0 (p.g.rs 0++_)=_;rw[h.rs,h.rt];rfl
  rw[et];unfold aH;have hr1: ¬p.g.root 0 x.op.a<1:=by rw[Mi.2.2.1];have:=hd.1.1;omega
  rw[if_neg (by omega),if_pos ok,if_neg hr1,if_neg (fun g=>g (h.BM.2 hr)),if_pos ((h.has hg _ _).2 ⟨h1,hb⟩),k,eb,hrd]
 ·obtain⟨hw,hrf⟩:=Mg (p':=⟨(p.g.Es 0 x.op.a x.op.b x.op.c).1,p.at_,true⟩) h hg h1 hb hc hx hh hv rfl;have et:p.take m {e with Di:=m}=⟨(p.g.Es 0 x.op.a x.op.b x.op.c).1,p.at_,true⟩:=by
   unfold Pr.take;simp only[k,mm,ea,eb,ec];rw[if_neg (by decide),if_neg (by decide),if_neg (by decide),if_pos trivial,hw,h.ok];rfl
  refine .inr ⟨by rw[et];exact hrf,?_⟩;rw[et];have Mi:=(h.root hg x.op.a).resolve_left (by omega);have hrc:=(h.root hg x.op.c).resolve_left (by omega);unfold aH;have hr1: ¬(p.g.root 0 x.op.a<1∨p.g.root 0 x.op.c<0):=by rw[Mi.2.2.1,hrc.2.2.1];have:=Mi.2.2.2;have:=hrc.2.2.2;omega
  rw[if_neg (by omega),if_neg (by omega),if_pos ok,if_neg hr1,if_pos ((h.has hg _ _).2 ⟨h1,hb⟩),k,eb]
 ·have hlen: ¬((p.g.rs 0).length=0):=by rw[h.rs,List.length_map];exact fun g=>hne (List.length_eq_zero_iff.1 g)
  have hpop:p.g.Kq 0=({p.g with Af:=p.g.Af.set 0 (p.g.rs 0).dropLast},true):=by
   unfold Gr.Kq;rw[if_neg]
   ·rfl
   rintro(g|g)
   ·exact g h.is0
   exact hlen g
  have et:p.take m {e with Di:=m}=⟨{p.g with Af:=p.g.Af.set 0 (p.g.rs 0).dropLast},p.at_,true⟩:=by
   unfold Pr.take;simp only[k,mm];rw[if_neg (by decide),if_neg (by decide),if_neg (by decide),if_neg (by decide),if_pos trivial,hpop,h.ok];rfl
  refine .inr ⟨h.sub (fun v g=>?_) (fun v g=>hk v (hg.al v g).1.1 (hg.al v g).1.2 (hg.al v g).2.1) (by rw[et]) (by rw[et]) (by rw[et]) (by rw[et]) ?_,?_⟩
  ·have g:Rr V' x.Af v:=g.mono fun z hz h1=>by
    rw[hx] at hz;exact .DX ((List.dropLast_sublist _).subset hz) h1
   exact g.keep hg hk
  ·rw[et,hx];show p.g.Af.set 0 (p.g.rs 0).dropLast=_;rw[h.rs,h.rt,List.map_dropLast];rfl
  rw[et];unfold aH;rw[if_neg (by omega),if_neg (by omega),if_neg (by omega),if_pos ok,if_neg hlen,k,eb,hpop]
 ·have hrt:x.root x.op.a∈x.Af∧0≤x.root x.op.a:=by
   have e1:x.root x.op.a=x.Af.getD x.op.a.toNat 0:=by unfold Mo.Mu.root;rw[if_neg (by omega)]
   have hm:x.Af.getD x.op.a.toNat 0∈x.Af:=by
    rw[List.getD_eq_getElem?_getD,List.getElem?_eq_getElem (by omega)];exact List.getElem_mem _
   rw[e1];exact⟨hm,(hg.rr _ hm).1⟩
  have Mi:=(h.root hg x.op.a).resolve_left (by omega);have hdup:p.g.NU 0 x.op.a=(p.g.push 0 (p.at (x.root x.op.a)),true):=by
   unfold Gr.NU;rw[if_neg,Mi.2.2.1];rintro(g|g)
   ·exact g (h.BM.2 hr)
   rw[Mi.2.2.1] at g;have:=Mi.2.2.2.1;omega
  have et:p.take m {e with Di:=m}=⟨p.g.push 0 (p.at (x.root x.op.a)),p.at_,true⟩:=by
   unfold Pr.take;simp only[k,mm,ea];rw[if_neg (by decide),if_neg (by decide),if_neg (by decide),if_neg (by decide),if_neg (by decide),if_pos trivial,hdup,h.ok];rfl
  refine .inr ⟨h.sub (fun v g=>?_) (fun v g=>hk v (hg.al v g).1.1 (hg.al v g).1.2 (hg.al v g).2.1) (by rw[et]) (by rw[et]) (by rw[et];rfl) (by rw[et];rfl) ?_,?_⟩
  ·have g:Rr V' x.Af v:=g.mono fun z hz h1=>by
    rw[hx] at hz;rcases List.mem_append.1 hz with q|q
    ·exact .DX q h1
    rw[List.mem_singleton.1 q] at h1⊢
    exact .DX hrt.1 h1
   exact g.keep hg hk
  ·rw[et,hx,List.map_append];show p.g.Af.set 0 (p.g.rs 0++_)=_;rw[h.rs,h.rt];rfl
  rw[et];unfold aH;have hr1: ¬p.g.root 0 x.op.a<0:=by rw[Mi.2.2.1];have:=Mi.2.2.2.1;omega
  rw[if_neg (by omega),if_neg (by omega),if_neg (by omega),if_neg (by omega),if_pos ok,if_neg hr1,if_neg (fun g=>g (h.BM.2 hr)),k,eb,hdup]
 have et:p.take m {e with Di:=m}=p:=by
  unfold Pr.take;simp only[k];rw[if_neg (by decide),if_neg (by decide),if_neg (by decide),if_neg (by decide),if_neg (by decide),if_neg (by decide)]
 by_cases hfull:22≤e.b
 ·exact .inl ⟨k,hfull⟩
 refine .inr ⟨by rw[et,hx];exact h.tau hg hk,?_⟩;rw[et,k];have hlr:=h.BM;have hrz:(p.g.rs 0).length=x.Af.length:=by rw[h.rs,List.length_map]
 rcases hf with⟨f1,f2⟩|⟨f1,f2,f3⟩|⟨f1,f2,f3,f4⟩
 ·have ra:=h.root hg x.op.a;have rc:=h.root hg x.op.c;have ra1:p.g.root 0 x.op.a<1↔x.root x.op.a<1:=by omega
  have ra0:p.g.root 0 x.op.a<0↔x.root x.op.a<0:=by omega
  have rc0:p.g.root 0 x.op.c<0↔x.root x.op.c<0:=by omega
  unfold Mo.Mu.Pv at f1;unfold aH;by_cases k0:x.op.kind=0
  ·rw[if_pos k0] at f1⊢
   by_cases c:(x.Af.length:Int)≥M.Af
   ·rw[if_pos c] at f1;rw[if_pos (fun g=>by have:=hlr.1 g;omega),f1]
   rw[if_neg c] at f1;omega
  rw[if_neg k0] at f1⊢
  by_cases k1:x.op.kind=1
  ·rw[if_pos k1] at f1⊢
   by_cases c:x.root x.op.a<1
   ·rw[if_pos c] at f1;rw[if_pos (ra1.2 c),f1]
   rw[if_neg c] at f1;rw[if_neg (fun g=>c (ra1.1 g))];by_cases c:(x.Af.length:Int)≥M.Af
   ·rw[if_pos c] at f1;rw[if_pos (fun g=>by have:=hlr.1 g;omega),f1]
   rw[if_neg c] at f1;omega
  rw[if_neg k1] at f1⊢
  by_cases k2:x.op.kind=2
  ·rw[if_pos k2] at f1⊢
   by_cases c:x.root x.op.a<1∨x.root x.op.c<0
   ·rw[if_pos c] at f1;rw[if_pos (by omega),f1]
   rw[if_neg c] at f1;omega
  rw[if_neg k2] at f1⊢
  by_cases k3:x.op.kind=3
  ·rw[if_pos k3] at f1⊢
   by_cases c:x.Af.length=0
   ·rw[if_pos c] at f1;rw[if_pos (by omega),f1]
   rw[if_neg c] at f1;omega
  rw[if_neg k3] at f1⊢
  by_cases k4:x.op.kind=4
  ·rw[if_pos k4] at f1⊢
   by_cases c:x.root x.op.a<0
   ·rw[if_pos c] at f1;rw[if_pos (ra0.2 c),f1]
   rw[if_neg c] at f1;rw[if_neg (fun g=>c (ra0.1 g))];by_cases c:(x.Af.length:Int)≥M.Af
   ·rw[if_pos c] at f1;rw[if_pos (fun g=>by have:=hlr.1 g;omega),f1]
   rw[if_neg c] at f1;omega
  rw[if_neg k4] at f1⊢
  rw[f1]
 ·have f3:Bi x.op.a<0∧e.b=21:=by omega
  unfold aH;rw[if_pos f1,if_neg (fun g=>g (hlr.2 f2)),if_pos f3.1,f3.2]
 have ra:=h.root hg x.op.a;have rc:=h.root hg x.op.c;have hnh: ¬p.g.has 0 x.op.a x.op.b:=fun g=>f3 ((h.has hg _ _).1 g).2
 unfold aH;rcases f1 with⟨g1,g2⟩|⟨g1,g2⟩
 ·rw[if_neg (by omega),if_pos g1,if_neg (by omega),if_neg (fun g=>g (hlr.2 g2)),if_neg hnh,f4]
 rw[if_neg (by omega),if_neg (by omega),if_pos g1,if_neg (by omega),if_neg hnh,f4]
end
open Go.Proofs.YtmpcfamcbaineaaGreat.Mo
section
variable{z:Mu}{XT T:List Int}{k':Nat}
def Mj:ClN→Nat
 | .DZ=>4
 | .count=>3
 | .swap=>2
 | .Jr=>1
 | .nil=>0
def A5(a:Hp):Nat:=
 match a.next with
 | .DZ=>3*(4-a.EP).toNat+20
 | .Ot=>3*(4-a.EP).toNat+22
 | .swap=>3*(4-a.EP).toNat+21
 | .Ea=>19
 | .En=>(18-a.i).toNat
 | .Lp=>2
 | .state=>1
 | .nil=>0
def VG(x:Mu):Nat:=
 match x.next with
 | .EU=>2+A5 x.alloc
 | .head=>30
 | .old=>29
 | .Dt .DN=>20+Mj x.Bl.AV.next
 | .Dt .FN=>10+Mj x.Bl.AV.next
 | .ES=>0
 |_=>1
def Jf(x:Mu):Nat:=40*x.Aq.length+VG x
def Jt(x:Mu):Prop:=x.next= .EU→(x.alloc.next= .DZ→0≤x.alloc.EP∧x.alloc.EP≤3)∧(x.alloc.next= .Ot∨x.alloc.next= .swap→1≤x.alloc.EP∧x.alloc.EP≤4)
theorem Zx(x:Mu)(h:x.op.kind≠0):x.first= .head∨x.first= .Kq∨x.first= .NU:=by
 unfold Mo.Mu.first;rw[if_neg h]
 repeat' split
 all_goals simp
theorem aJ(x:Mu):Jt (x.BX M)∧Jf (x.BX M)≤40*x.Aq.length∧(x.Aq≠[]→Jf (x.BX M)<40*x.Aq.length):=by
 unfold Mo.Mu.BX;split
 ·rename_i ho;exact⟨(fun g=>by cases g),by unfold Jf VG;simp[ho],fun g=>absurd ho g⟩
 rename_i o r ho;split
 ·refine⟨(fun g=>by cases g),?_,fun _=>?_⟩<;>(unfold Jf VG;simp only[ho,List.length_cons];omega)
 split
 ·have hj:Jt {x with op:=o,Aq:=r,alloc:= .new o.a x.Bh,next:= .EU}:=fun _=>by
   unfold Mo.Hp.new;simp only;split<;>simp
  have hr:A5 (.new o.a x.Bh)≤32:=by
   unfold Mo.Hp.new;by_cases c:Bi o.a≥0
   ·simp only[if_pos c];show 3*((4:Int)-0).toNat+20≤32;decide
   simp only[if_neg c];show 0≤32;decide
  refine⟨hj,?_,fun _=>?_⟩<;>(unfold Jf VG;simp only[ho,List.length_cons];omega)
 rename_i hk;have hf:=Zx {x with op:=o,Aq:=r} hk;obtain⟨N,hN⟩: ∃N,Mu.first {x with op:=o,Aq:=r}=N:=⟨_,rfl⟩;rw[hN] at hf⊢
 have hs:VG {x with op:=o,Aq:=r,next:=N}≤30:=by
  unfold VG;rcases hf with e|e|e<;>(subst e;simp)
 refine⟨fun g=>?_,?_,fun _=>?_⟩
 ·rcases hf with e|e|e<;>(subst e;cases g)
 ·unfold Jf;simp only[ho,List.length_cons];omega
 unfold Jf;simp only[ho,List.length_cons];omega
theorem iD(x:Mu):Jt (x.DN M)∧(x.DN M).Aq=x.Aq∧VG (x.DN M)≤14:=by
 unfold Mo.Mu.DN;split
 ·exact⟨(fun g=>by cases g),rfl,by unfold VG;simp⟩
 exact⟨(fun g=>by cases g),rfl,by unfold VG;simp[Mo.Bu.Bl,Mo.Cl.new,Mj]⟩
theorem Wa(c:Cl)(h:c.next≠ .nil):Mj (c.step M l).1.next<Mj c.next:=by
 unfold Mo.Cl.step;cases hc:c.next<;>simp only
 ·exact absurd hc h
 ·split<;>simp[Mj]
 ·simp[Mj]
 ·split<;>simp[Mj]
 simp[Mj]
theorem AcJ(hL:La M)(h:WI M n l D x ms Bc P4 P5 hpm T hps Hs F)(hD:D.Ah=0∧D.Be=0)(hj:Jt x):Jt (x.step M l).1∧(Jf (x.step M l).1<Jf x∨x.next= .ES∧x.Aq=[]):=by
 have hde:=h.ui.de;have hpi:=h.ui.pi;have hT:T=[]:=Classical.byContradiction fun g=>by
  have:=(h.ui.ac (.inl g)).2.1;omega
 have htk:x.Ar=[]:=by
  cases ht:x.Ar with
  |nil=>rfl
  |cons a b=>
   have:=h.ct a;rw[hT,ht,List.count_cons] at this;simp at this
 have hA:x.AL=0:=by have:=hpi.a0;omega
 have hmu:=h.ui.mu;unfold O4 at hmu;cases hx:x.next<;>rw[hx] at hmu<;>try simp only at hmu
 case ES=>
  have h0:ld l 0=0:=by
   have:=hde.p0;rw[hD.1,hD.2] at this;exact this
  have e1:x.step M l=(Mu.BX M {x with Ae:=BH,Ah:=0,next:= .ES},l):=by
   show({x with Ae:=BH}:Mu).Au M l=_;unfold Mo.Mu.Au;simp only[hx,h0];rw[if_neg (by omega),if_neg (by omega),if_neg (by omega),if_pos htk];rfl
  rw[e1];have hb:=aJ (M:=M) {x with Ae:=BH,Ah:=0,next:= .ES};refine⟨hb.1,?_⟩;by_cases ho:x.Aq=[]
  ·exact .inr ⟨rfl,ho⟩
  refine .inl ?_;have hr:Jf x=40*x.Aq.length:=by unfold Jf VG;rw[hx];rfl
  rw[hr];exact hb.2.2 ho
 case EU=>
  have hj:=hj hx;obtain⟨ht,hs1,hs2,hs3,hs4,hs5⟩:=hmu;have hrx:Jf x=40*x.Aq.length+(2+A5 x.alloc):=by unfold Jf VG;rw[hx]
  have key:((x.alloc.step M l).1.next= .nil)∨((x.alloc.step M l).1.next≠ .nil∧A5 (x.alloc.step M l).1<A5 x.alloc∧((x.alloc.step M l).1.next= .DZ→0≤(x.alloc.step M l).1.EP∧(x.alloc.step M l).1.EP≤3)∧((x.alloc.step M l).1.next= .Ot∨(x.alloc.step M l).1.next= .swap→1≤(x.alloc.step M l).1.EP∧(x.alloc.step M l).1.EP≤4)):=by
   unfold Mo.Hp.step Mo.Hp.Au;cases ha:x.alloc.next<;>rw[ha] at hs5 hj<;>simp only at hs5 hj⊢
   ·exact .inl trivial
   ·split
    ·exact .inl rfl
    refine .inr ⟨by simp,?_,(fun g=>by cases g),fun _=>?_⟩
    ·unfold A5;rw[ha];simp only;have:=hj.1 trivial;omega
    have:=hj.1 trivial;simp only;omega
   ·refine .inr ⟨by simp,?_,(fun g=>by cases g),fun _=>hj.2 (.inl trivial)⟩;unfold A5;rw[ha];simp only;omega
   ·have:=hj.2 (.inr trivial);split
    ·refine .inr ⟨by simp,?_,(fun g=>by cases g),fun g=>by rcases g with g|g<;>cases g⟩;unfold A5;rw[ha];simp only;omega
    split
    ·exact .inl rfl
    refine .inr ⟨by simp,?_,fun _=>?_,fun g=>by rcases g with g|g<;>cases g⟩
    ·unfold A5;rw[ha];simp only;omega
    simp only;omega
   ·refine .inr ⟨?_,?_,fun g=>?_,fun g=>?_⟩
    ·unfold Mo.Hp.rest;split<;>simp
    ·unfold A5 Mo.Hp.rest;rw[ha];simp only;by_cases c:x.alloc.i<M.CU x.alloc.v
     ·rw[if_pos c];simp only;omega
     rw[if_neg c];simp
    ·unfold Mo.Hp.rest at g;split at g<;>cases g
    unfold Mo.Hp.rest at g;split at g<;>rcases g with g|g<;>cases g
   ·have hv:=h.cv hx (by rw[ha];rfl);have hrm:=hL.BM _ hv.1.1 hv.1.2;refine .inr ⟨?_,?_,fun g=>?_,fun g=>?_⟩
    ·unfold Mo.Hp.rest;split<;>simp
    ·unfold A5 Mo.Hp.rest;rw[ha];simp only;by_cases c:x.alloc.i+1<M.CU x.alloc.v
     ·rw[if_pos c];simp only;omega
     rw[if_neg c];simp only;omega
    ·unfold Mo.Hp.rest at g;split at g<;>cases g
    unfold Mo.Hp.rest at g;split at g<;>rcases g with g|g<;>cases g
   ·refine .inr ⟨by simp,?_,(fun g=>by cases g),fun g=>by rcases g with g|g<;>cases g⟩;unfold A5;rw[ha];simp
   exact .inl trivial
  have est:x.step M l=if(x.alloc.step M l).1.next= .nil then
    if(x.alloc.step M l).1.e≠0 then({x with Ae:=⟨13,0,x.op.kind,(x.alloc.step M l).1.e,0⟩,alloc:=(x.alloc.step M l).1,next:= .ES},(x.alloc.step M l).2)
    else({x with Ae:=(x.alloc.step M l).1.Ae,alloc:=(x.alloc.step M l).1,Af:=x.Af++[(x.alloc.step M l).1.node],next:= .ES},(x.alloc.step M l).2)
   else({x with Ae:=BH,alloc:=(x.alloc.step M l).1},(x.alloc.step M l).2):=by
   show({x with Ae:=BH}:Mu).Au M l=_;unfold Mo.Mu.Au;simp only[hx];rfl
  rw[est];rcases key with g|⟨g1,g2,g3⟩
  ·rw[if_pos g];have hr: ∀z:Mu,z.next= .ES→z.Aq=x.Aq→Jf z<Jf x:=fun z z1 z2=>by rw[hrx];unfold Jf VG;rw[z1,z2];simp only;omega
   split
   ·exact⟨(fun g=>by cases g),.inl (hr _ rfl rfl)⟩
   exact⟨(fun g=>by cases g),.inl (hr _ rfl rfl)⟩
  rw[if_neg g1];refine⟨fun _=>g3,.inl ?_⟩;rw[hrx];have:VG {x with Ae:=BH,alloc:=(x.alloc.step M l).1}=2+A5 (x.alloc.step M l).1:=by unfold VG;simp only[hx]
  show 40*x.Aq.length+VG {x with Ae:=BH,alloc:=(x.alloc.step M l).1}<_;omega
 case Dt t=>
  have hc2:(t= .DN∨t= .FN)∧x.Bl.next= .BR∧Qd (gs M (vw M l) x (BD (nm M) ms T)) x.Bl.AV x.Bl.v:=by
   have np:x.Bl.next≠ .F9:=fun g=>by
    rcases h.mp with⟨-,-,a⟩|⟨a,-⟩
    ·exact a.2.1 (by rw[htk])
    exact a ⟨by rw[hx];rfl,g⟩
   have cl: ∀v,lX M (gs M (vw M l) x (BD (nm M) ms T)) x v→x.Bl.next= .BR∧Qd (gs M (vw M l) x (BD (nm M) ms T)) x.Bl.AV x.Bl.v:=fun v g=>by
    obtain⟨a,b,c⟩:=g;rcases c with⟨c1,-,c2,-⟩|⟨c1,-⟩
    ·rw[a];exact⟨c1,c2⟩
    exact absurd c1 np
   cases t<;>simp only at hmu
   ·exact absurd hmu np
   ·have:=hmu.1.2.2.1;omega
   ·exact absurd hmu.2.2 np
   ·exact⟨.inl rfl,cl _ hmu.2⟩
   exact⟨.inr rfl,cl _ hmu.2.2⟩
  obtain⟨htt,hcl,hs1,hs2,hs3,hs4⟩:=hc2;have hnn:x.Bl.AV.next≠ .nil:=fun e=>by rw[e] at hs4;exact hs4
  have hma:=h.ui.co.ma;have hrk:=Wa (M:=M) (l:=l) x.Bl.AV hnn;have hnw:(x.Bl.AV.step M l).1.next= .nil→(x.Bl.AV.step M l).1.JO=false:=by
   unfold Mo.Cl.step;cases hc:x.Bl.AV.next<;>rw[hc] at hs4<;>simp only at hs4⊢
   ·split
    ·exact fun _=>hs3
    exact fun g=>by cases g
   ·exact fun g=>by cases g
   ·rw[if_neg]
    ·exact fun g=>by cases g
    intro g;have h1:=(Qy g).2;have h2:=(hma x.Bl.AV.v).1;have h2:0≤ld l (M.Mark x.Bl.AV.v):=h2;have h3:=hs4.1;have h3:x.Bl.AV.k<x.AL:=h3;omega
   exact fun _=>hs3
  have hs0:x.step M l=if(x.Bl.AV.step M l).1.next= .nil then(Mu.dC M {x with Bl:={x.Bl with AV:=(x.Bl.AV.step M l).1,Ae:=BH,next:= .nil},Ae:=BH} t,(x.Bl.AV.step M l).2)
    else({x with Bl:={x.Bl with AV:=(x.Bl.AV.step M l).1,Ae:=BH},Ae:=BH},(x.Bl.AV.step M l).2):=by
   show({x with Ae:=BH}:Mu).Au M l=_;unfold Mo.Mu.Au;simp only[hx];unfold Mo.Bu.step Mo.Bu.Au;simp only[hcl];by_cases e1:(x.Bl.AV.step M l).1.next= .nil
   ·simp only[if_pos e1,hnw e1];simp
   simp only[if_neg e1];rw[if_neg (by simp)]
  rw[hs0];by_cases e1:(x.Bl.AV.step M l).1.next= .nil
  ·rw[if_pos e1];obtain⟨Z,hZ⟩: ∃Z:Mu,Z={x with Bl:={x.Bl with AV:=(x.Bl.AV.step M l).1,Ae:=BH,next:= .nil},Ae:=BH}:=⟨_,rfl⟩;have z1:Z.Aq=x.Aq:=by rw[hZ]
   rw[←hZ];rcases htt with rfl|rfl
   ·have hl:=iD (M:=M) Z;refine⟨hl.1,.inl ?_⟩;have hrx:Jf x=40*x.Aq.length+(20+Mj x.Bl.AV.next):=by unfold Jf VG;rw[hx]
    rw[hrx];show 40*(Z.DN M).Aq.length+VG (Z.DN M)<_;rw[hl.2.1,z1];omega
   refine⟨(fun g=>by cases g),.inl ?_⟩;have hrx:Jf x=40*x.Aq.length+(10+Mj x.Bl.AV.next):=by unfold Jf VG;rw[hx]
   rw[hrx];show 40*Z.Aq.length+1<_;rw[z1];omega
  rw[if_neg e1];refine⟨(fun g=>by have g:x.next= .EU:=g;rw[hx] at g;cases g),.inl ?_⟩;show 40*x.Aq.length+VG {x with Bl:={x.Bl with AV:=(x.Bl.AV.step M l).1,Ae:=BH},Ae:=BH}<40*x.Aq.length+VG x;unfold VG;simp only[hx];rcases htt with rfl|rfl<;>simp only<;>omega
 case Jq w=>
  rcases hmu.2 with⟨-,a,b,-⟩|⟨-,a,-⟩
  ·omega
  have:=a.2.2.1;omega
 case head=>
  have hrx:Jf x=40*x.Aq.length+30:=by unfold Jf VG;rw[hx]
  have hs: ∀z:Mu,z.Aq=x.Aq→z.next= .ES∨z.next= .old∨z.next= .G5→Jt z∧(Jf z<Jf x∨cU.head= .ES∧x.Aq=[]):=fun z z1 z2=>by
   refine⟨(fun g=>by rw[g] at z2;rcases z2 with k|k|k<;>cases k),.inl ?_⟩;rw[hrx];unfold Jf VG;rw[z1];rcases z2 with k|k|k<;>(rw[k];simp only;omega)
  show Jt (({x with Ae:=BH}:Mu).Au M l).1∧(Jf (({x with Ae:=BH}:Mu).Au M l).1<Jf x∨_);unfold Mo.Mu.Au;simp only[hx];split
  ·exact hs _ rfl (.inl rfl)
  split
  ·exact hs _ rfl (.inr (.inl rfl))
  exact hs _ rfl (.inr (.inr rfl))
 case old=>
  have hrx:Jf x=40*x.Aq.length+29:=by unfold Jf VG;rw[hx]
  show Jt (({x with Ae:=BH}:Mu).Au M l).1∧(Jf (({x with Ae:=BH}:Mu).Au M l).1<Jf x∨_);unfold Mo.Mu.Au;simp only[hx];split
  ·have hl:=iD (M:=M) {x with Ae:=BH,next:= .old};refine⟨hl.1,.inl ?_⟩;rw[hrx];unfold Jf;rw[hl.2.1];have h3:=hl.2.2;obtain⟨y,hy⟩: ∃y,y=VG (Mu.DN M {x with Ae:=BH,next:= .old}):=⟨_,rfl⟩;rw[←hy] at h3;show 40*x.Aq.length+VG (Mu.DN M {x with Ae:=BH,next:= .old})<40*x.Aq.length+29;rw[←hy];omega
  refine⟨(fun g=>by cases g),.inl ?_⟩;rw[hrx];show 40*x.Aq.length+24<_;omega
 all_goals
  have e1:(x.step M l).1.next= .ES∧(x.step M l).1.Aq=x.Aq:=by
   show(({x with Ae:=BH}:Mu).Au M l).1.next=_∧(({x with Ae:=BH}:Mu).Au M l).1.Aq=_;unfold Mo.Mu.Au;simp only[hx];exact⟨rfl,rfl⟩
  refine⟨(fun g=>by rw[e1.1] at g;cases g),.inl ?_⟩;unfold Jf VG;rw[e1.1,e1.2,hx];simp only;omega
end
open Go.Proofs.YtmpcfamcbaineaaGreat.Mo
section
variable{U:Wo}{p q:Pr}
theorem RI.congr{e':Ev}(h:RI M V V' x x' e)(h1:e'.kind=e.kind)(h2:e'.a=e.a)(h3:e'.b=e.b)(h4:e'.c=e.c):RI M V V' x x' e':=by
 unfold RI tT at h⊢
 rw[h1,h2,h3,h4];exact h
theorem WV.gd(hM:Ma M)(h:WV M n W):Gd M (lv M W) (me W).Af:=by
 obtain⟨hk,x,hmu,hi,Bc,P4,P5,hpm,T,hps,Hs,F,hW⟩:=h;have hme:me W=x:=by unfold me;rw[hmu];rfl
 rw[hme];have hc:=hW.ui.co;have key: ∀v,Rr (lv M W) x.Af v→(gs M (vw M W.l) x (BD (nm M) (fun j=>W.Ai.getD j OO) T)).R v:=fun v g=>by
  induction g with
  |DX a b=>exact .DX (.inl a) b
  |step a b ih=>exact .step ih b
 refine⟨fun v g=>?_,hc.vr,hc.rr,hM.la.nn.1⟩;have ha:=hc.ra v (key v g);exact⟨ha.1,ha.2,(hW.ui.hz v ha.1.1 ha.1.2 ha.2).1⟩
theorem aK(h:tT M V V' x x' e):8≤e.kind∧e.kind≤13:=by
 rcases h with⟨k,-⟩|⟨k,-⟩|⟨k,-⟩|⟨k,-⟩|⟨k,-⟩|⟨k,-⟩<;>omega
theorem mJ(hM:Ma M)(hn:n<900000)(h:WV M n W){Di:Nat}(hw:Di<W.FX):WV M (n+1) (W.step M Di dr).1∧
  (Yd (W.step M Di dr).2=false∧(me (W.step M Di dr).1).Af=(me W).Af∧FK (me (W.step M Di dr).1)=FK (me W)∧Tu M (lv M W) (lv M (W.step M Di dr).1)∨
   Di=nm M∧Yd (W.step M Di dr).2=true∧(W.step M Di dr).2.Di=Di∧FK (me W)=(me W).op::FK (me (W.step M Di dr).1)∧tT M (lv M W) (lv M (W.step M Di dr).1) (me W) (me (W.step M Di dr).1) (W.step M Di dr).2):=by
 have hs:=ke hM hn h hw (dr:=dr);unfold Mo.Wo.step;by_cases hk:(W.EC M Di dr).2.kind=0
 ·rw[if_pos hk];refine⟨hs.1,.inl ⟨rfl,?_⟩⟩;rcases hs.2 with⟨a,b,c⟩|⟨a,⟨b,c,d,e⟩|⟨b,c⟩⟩
  ·simp only at*
   exact⟨by rw[b],by rw[b],c⟩
  ·exact⟨c,d,e⟩
  have:=aK c;omega
 rw[if_neg hk];have hW:WV M (n+1) {(W.EC M Di dr).1 with Bl:=(W.EC M Di dr).1.Bl++[{(W.EC M Di dr).2 with Di:=Di}]}:=⟨hs.1.mks,hs.1.mu⟩;refine⟨hW,?_⟩;rcases hs.2 with⟨a,b,c⟩|⟨a,⟨b,c,d,e⟩|⟨b,c⟩⟩
 ·refine .inl ⟨?_,?_,?_,c⟩
  ·unfold Yd;refine decide_eq_false ?_;show¬(8≤(W.EC M Di dr).2.kind∧_);have:=a.2;omega
  ·show(me (W.EC M Di dr).1).Af=_;rw[b]
  show FK (me (W.EC M Di dr).1)=_;rw[b]
 ·refine .inl ⟨?_,c,d,e⟩;unfold Yd;refine decide_eq_false ?_;show¬(8≤(W.EC M Di dr).2.kind∧(W.EC M Di dr).2.kind≤13);omega
 have hk':=aK c;refine .inr ⟨a,decide_eq_true hk',rfl,b,?_⟩;have:=RI.congr (e':={(W.EC M Di dr).2 with Di:=Di}) (.inr ⟨b,c⟩:RI M (lv M W) (lv M (W.EC M Di dr).1) (me W) (me (W.EC M Di dr).1) (W.EC M Di dr).2) rfl rfl rfl rfl;rcases this with⟨g,-⟩|⟨-,g⟩
 ·have g:(W.EC M Di dr).2.kind=0∨(W.EC M Di dr).2.kind=1∨(W.EC M Di dr).2.kind=14:=g;omega
 exact g
theorem VH(hM:Ma M): ∀(ps:List (Int×Int)) (W:Wo) (n:Int) (y:Ev) (rest:List Ev),n+ps.length<900000→WV M n W→RF M (lv M W) (me W).Af p→Qx M ps W=y::rest→
  ∃(W1 W2:Wo) (n1:Int) (ps':List (Int×Int)),WV M n1 W1∧RF M (lv M W1) (me W1).Af p∧FK (me W1)=FK (me W)∧FK (me W1)=(me W1).op::FK (me W2)∧tT M (lv M W1) (lv M W2) (me W1) (me W2) y∧y.Di=nm M∧WV M (n1+1) W2∧Qx M ps' W2=rest∧n1+1+ps'.length<900000
 |[],W,n,y,rest,hn,hW,hR,he=>by cases he
 |(a,d)::ps,W,n,y,rest,hn,hW,hR,he=>by
  simp only[List.length_cons] at hn;unfold Qx at he;simp only at he;by_cases hr:0≤a∧a<W.FX
  ·have e1:Wo.Fv M W a d=W.step M a.toNat d:=if_pos hr;rw[e1] at he;have ht:=mJ hM (by omega) hW (Di:=a.toNat) (by omega) (dr:=d);rcases ht with⟨h1,⟨h2,h3,h4,h5⟩|⟨h2,h3,h4,h5,h6⟩⟩
   ·rw[if_neg (by rw[h2];simp)] at he;have hR':=hR.tau (hW.gd hM) h5;rw[←h3] at hR';have:=VH hM ps _ (n+1) y rest (by omega) h1 hR' he;rw[h4] at this;exact this
   rw[if_pos h3] at he;obtain⟨rfl,rfl⟩:=List.cons.inj he;exact⟨W,_,n,ps,hW,hR,rfl,h5,h6,by rw[h4];omega,h1,rfl,by omega⟩
  have e1:Wo.Fv M W a d=(W,BH):=if_neg hr;rw[e1] at he;rw[if_neg (by show¬Yd BH=true;decide)] at he;exact VH hM ps W n y rest (by omega) hW hR he
end
open Go.Proofs.YtmpcfamcbaineaaGreat.Mo
section
variable{z:Mu}{XT T:List Int}{k':Nat}{U:Wo}{p q:Pr}
def Sn(M:Bz)(l l':Dk):Prop:= ∀v,ld l (M.DK v)=1→ld l' (M.DK v)=1
theorem Sn.refl:Sn M l l:=fun _ h=>h
theorem Sn.put(hL:La M){q:Pl}(h: ∀v,q≠ .state v):Sn M l (put l (ad M q) w):=fun v g=>by rw[show ld (Mo.put l (ad M q) w) (M.DK v)=ld l (M.DK v) from DU hL (q:= .state v) (h v)];exact g
theorem Sn.KL(hL:La M){q:Pl}{o:Int}(h: ∀v,q≠ .state v):Sn M l (KL l (ad M q) o w):=by
 unfold Mo.KL;split
 ·exact .put hL h
 exact .refl
theorem Sn.cl(hL:La M){c:Cl}:Sn M l (c.step M l).2:=by
 unfold Mo.Cl.step;split
 ·exact .refl
 ·split<;>exact .refl
 ·exact Sn.put hL (q:= .FW 1) (by simp)
 ·split<;>exact Sn.KL hL (q:= .mark c.v) (by simp)
 exact Sn.put hL (q:= .FW 1) (by simp)
theorem kf(hL:La M)(hn:n<900000)(h:WI M n l D x ms Bc P4 P5 hpm T hps Hs F):Sn M l (x.step M l).2:=by
 unfold Mo.Mu.step Mo.Mu.Au;split<;>rename_i hx
 ·exact .refl
 ·exact .refl
 ·exact .refl
 ·have hx:x.next= .EU:=hx;have key:Sn M l (x.alloc.step M l).2:=by
   unfold Mo.Hp.step Mo.Hp.Au;split<;>rename_i ha
   ·exact .refl
   ·split<;>exact .refl
   ·exact .refl
   ·split
    ·exact Sn.KL hL (q:= .head _) (by simp)
    split<;>exact Sn.KL hL (q:= .head _) (by simp)
   ·exact Sn.put hL (q:= .Ea _) (by simp)
   ·exact Sn.put hL (q:= .En _ _) (by simp)
   ·exact Sn.put hL (q:= .mark _) (by simp)
   have ha:x.alloc.next= .state:=ha;have hv:=(h.cv hx (by rw[ha];rfl)).1;intro v g;have:=congrFun (congrArg Vw.st (Z5 (l:=l) (v:=1) hL h.len hv)) v;have:ld (put l (M.DK x.alloc.v) 1) (M.DK v)=if v=x.alloc.v then 1 else ld l (M.DK v):=this
   show ld (put l (M.DK x.alloc.v) 1) (M.DK v)=1;rw[this];split
   ·rfl
   exact g
  repeat' split
  all_goals exact key
 ·split<;>exact .refl
 ·exact .refl
 ·split<;>exact .refl
 ·exact Sn.put hL (q:= .En _ _) (by simp)
 ·rename_i t;have hx:x.next= .Dt t:=hx;have hE:=h.eM;have key:Sn M l (x.Bl.step M x.Ar l).2.2:=by
   unfold Mo.Bu.step Mo.Bu.Au;split<;>rename_i hl
   ·exact .refl
   ·split
    ·split
     ·split<;>exact .cl hL
     exact .cl hL
    exact .cl hL
   have hl:x.Bl.next= .F9:=hl;have hI:XP M l x.Bl.put x.Ar hpm:=by
    rcases h.mp with⟨-,-,g⟩|⟨g,-⟩
    ·exact g
    exact absurd ⟨by rw[hx];rfl,hl⟩ g
   obtain⟨QL,SX,hold',r1,-⟩:=yB hL hE.len hI hE.F8 hE.nd hE.rg hn;have:Sn M l (x.Bl.put.step M l).2:=fun v g=>by rw[show ld (x.Bl.put.step M l).2 (M.DK v)=ld l (M.DK v) from r1.ND (.state v) (by simp) (by simp) (by simp) (by simp) (by simp)];exact g
   split<;>exact this
  split<;>exact key
 ·repeat' split
  all_goals exact .refl
 exact Sn.put hL (q:= .Jq _) (by simp)
theorem Wb{m:Int}(h5:e.kind≠5)(h:(q.take m e).at v≠0):q.at v≠0∨e.kind=8∧e.a.toNat=v.toNat:=by
 by_cases h8:e.kind=8
 ·by_cases hv:e.a.toNat=v.toNat
  ·exact .inr ⟨h8,hv⟩
  refine .inl fun g=>h ?_
  unfold Pr.take;rw[if_neg h5,if_pos h8];split
  ·show(q.at_.set e.a.toNat _).getD v.toNat 0=0;rw[List.getD_eq_getElem?_getD,List.getElem?_set,if_neg hv,←List.getD_eq_getElem?_getD];exact g
  exact g
 refine .inl fun g=>h ?_
 unfold Pr.take;rw[if_neg h5,if_neg h8]
 repeat' split
 all_goals exact g
theorem kh(h:WV M n U):(U.step M (nm M) 0).1.Ik=U.Ik∧me (U.step M (nm M) 0).1=((me U).step M U.l).1∧(U.step M (nm M) 0).1.l=((me U).step M U.l).2∧nm M<U.FX∧(U.step M (nm M) 0).1.FX=U.FX:=by
 obtain⟨hk,x,hmu,-⟩:=h;have hme:me U=x:=by unfold me;rw[hmu];rfl
 have hs:U.EC M (nm M) 0=({U with l:=(x.step M U.l).2,Ak:=[(x.step M U.l).1]},(x.step M U.l).1.Ae):=by
  unfold Mo.Wo.EC;rw[if_neg (by omega),hmu,if_pos (by simp;omega),show nm M-U.Ai.length=0 by omega];rfl
 unfold Mo.Wo.step;rw[hs,hme];have ha:nm M<U.FX:=by unfold Mo.Wo.FX;rw[hmu];simp;omega
 split
 ·exact⟨rfl,rfl,rfl,ha,by unfold Mo.Wo.FX;simp[hmu]⟩
 exact⟨rfl,rfl,rfl,ha,by unfold Mo.Wo.FX;simp[hmu]⟩
theorem sP(h:Jf x=0):x.next= .ES∧x.Aq=[]:=by
 unfold Jf at h;have h1:x.Aq.length=0:=by omega
 have h2:VG x=0:=by omega
 refine⟨?_,List.length_eq_zero_iff.1 h1⟩;unfold VG at h2;cases hx:x.next<;>rw[hx] at h2
 case Dt t=>cases t<;>simp only at h2<;>omega
 all_goals first|rfl|(simp only at h2;omega)|omega
theorem tZ(h1:x.next= .ES)(h2:x.Aq=[]):FK x=[]:=by unfold FK;rw[h1,h2];simp[busy]
def UA(M:Bz)(U:Wo)(q:Pr):Prop:= ∀v,1≤v→v≤M.nodes→q.at v≠0→(lv M U).st v=1
theorem mM(hM:Ma M){xs:List Ev}: ∀(f k:Nat) (U W:Wo) (n n':Int) (ps:List (Int×Int)) (p q:Pr),n+ps.length<900000→n'+f<900000→WV M n W→WV M n' U→(U.Ik.Ah=0∧U.Ik.Be=0)→Jt (me U)→Jf (me U)≤f→k≤xs.length→xs.drop k=Qx M ps W→
  RF M (lv M W) (me W).Af p→RF M (lv M U) (me U).Af q→p.g=q.g→FK (me W)=FK (me U)→UA M U q→JP M (nm M) xs f k U p q=true
 |0,k,U,W,n,n',ps,p,q,hn,hn',hW,hU,hD,hJ,hr,hk,hx,hp,hq,hg,bG,oy=>by
  have h0:=sP (by omega:Jf (me U)=0);rw[tZ h0.1 h0.2] at bG;have hz:Qx M ps W=[]:=by
   cases hc:Qx M ps W with
   |nil=>rfl
   |cons y rest=>
    obtain⟨W1,W2,n1,ps',-,-,h3,h4,-⟩:=VH hM ps W n y rest hn hW hp hc;rw[←h3,h4] at bG;cases bG
  rw[hz,List.drop_eq_nil_iff] at hx;unfold JP;exact decide_eq_true (by omega)
 |f+1,k,U,W,n,n',ps,p,q,hn,hn',hW,hU,hD,hJ,hr,hk,hx,hp,hq,hg,bG,oy=>by
  unfold JP;by_cases hkl:k≥xs.length
  ·rw[if_pos hkl];exact decide_eq_true (by omega)
  rw[if_neg hkl];have hxk:xs.drop k=xs.getD k BH::xs.drop (k+1):=by
   rw[List.drop_eq_getElem_cons (by omega),List.getD_eq_getElem?_getD,List.getElem?_eq_getElem (by omega)];rfl
  obtain⟨y,hy⟩: ∃y,y=xs.getD k BH:=⟨_,rfl⟩;rw[←hy] at hxk⊢
  rw[hxk] at hx;obtain⟨W1,W2,n1,ps',w1,w2,w3,w4,w5,w6,w7,w8,w9⟩:=VH hM ps W n y _ hn hW hp hx.symm;have hm:=kh hU;have ht:=mJ hM (by omega) hU hm.2.2.2.1 (dr:=0);rw[show((nm M:Nat):Int).toNat=nm M from Int.toNat_natCast _];obtain⟨X,hX⟩: ∃X,X=U.step M (nm M) 0:=⟨_,rfl⟩;rw[←hX] at hm ht⊢
  obtain⟨-,xu,hmu,-,Bc,P4,P5,hpm,T,hps,Hs,F,hWI⟩:=id hU;have hme:me U=xu:=by unfold me;rw[hmu];rfl
  rw[←hme] at hWI;have qc:=AcJ hM.la hWI hD hJ;have hst:=kf hM.la (by omega) hWI;rw[←hm.2.1] at qc;rw[←hm.2.2.1] at hst;have hrk:Jf (me X.1)≤f:=by
   rcases qc.2 with g|⟨g1,g2⟩
   ·omega
   rw[tZ g1 g2,←w3,w4] at bG;cases bG
  have hDX:X.1.Ik.Ah=0∧X.1.Ik.Be=0:=by rw[hm.1];exact hD
  rcases ht with⟨t1,⟨t2,t3,t4,t5⟩|⟨t2,t3,t4,t5,t6⟩⟩
  ·rw[if_pos t2];refine mM hM f k X.1 W n (n'+1) ps p q hn (by omega) hW t1 hDX qc.1 hrk hk (by rw[hxk];exact hx) hp ?_ hg (by rw[t4];exact bG) (fun v a b c=>hst v (oy v a b c));rw[t3];exact hq.tau (hU.gd hM) t5
  rw[if_neg (by rw[t3];simp)];by_cases hf:QK y X.2=true
  ·rw[if_pos hf]
  rw[if_neg hf];have hf: ¬(y.kind=13∧y.b≥22∨X.2.kind=13∧X.2.b≥22):=fun g=>hf (decide_eq_true g)
  have hop:(me W1).op=(me U).op:=by
   rw[←w3,w4,t5] at bG;exact(List.cons.inj bG).1
  have AcL:FK (me W2)=FK (me X.1):=by
   rw[←w3,w4,t5] at bG;exact(List.cons.inj bG).2
  have gdW:=w1.gd hM;have gdU:=hU.gd hM;have qat:X.2.kind=8→q.at X.2.a=0:=fun g=>by
   rcases t6 with⟨-,a1,a2,a3,a4,a5,a6,a7,-⟩|⟨k,-⟩|⟨k,-⟩|⟨k,-⟩|⟨k,-⟩|⟨k,-⟩
   ·exact Classical.byContradiction fun c=>a7 (oy _ a6.1 a6.2 c)
   all_goals omega
  have hq':=(cS (m:=nm M) hq gdU t6 qat).resolve_left (fun g=>hf (.inr g));have ex:({X.2 with Di:=(nm M:Int)}:Ev)=X.2:=by
   have:X.2.Di=nm M:=t4;rw[←this]
  have ey:({y with Di:=(nm M:Int)}:Ev)=y:=by
   rw[←w6]
  rw[ex] at hq';obtain⟨p1,hp1⟩: ∃p1,p1=if y.kind=8 then p.P8 y.a else p:=⟨_,rfl⟩
  have hpp:RF M (lv M W1) (me W1).Af p1∧p1.g=p.g∧(y.kind=8→p1.at y.a=0):=by
   rw[hp1];by_cases k8:y.kind=8
   ·rw[if_pos k8];rcases w5 with⟨-,a1,a2,a3,a4,a5,a6,a7,-⟩|⟨k,-⟩|⟨k,-⟩|⟨k,-⟩|⟨k,-⟩|⟨k,-⟩
    ·have hl:=w2.len;have hcl:p.P6 y.a=y.a.toNat:=by unfold Pr.P6;rw[show max (min y.a ((p.at_.length:Int)-1)) 0=y.a by omega]
     have ew:p.P8 y.a={p with at_:=p.at_.set y.a.toNat 0}:=by unfold Pr.P8;rw[hcl]
     rw[ew];refine⟨w2.clear gdW a6 (fun g=>a7 (gdW.al _ g).2.1),rfl,fun _=>?_⟩;rw[yR (p:=p) (p':={p with at_:=p.at_.set y.a.toNat 0}) (by omega) (by omega) rfl (by omega),if_pos rfl]
    all_goals omega
   rw[if_neg k8];exact⟨w2,rfl,fun g=>absurd g k8⟩
  have hp':=(cS (m:=nm M) hpp.1 gdW w5 hpp.2.2).resolve_left (fun g=>hf (.inl g));rw[ey] at hp';have hee:=hp'.2.trans ((by rw[hpp.2.1,hg,hop]:aH p1.g (me W1).op=aH q.g (me U).op).trans hq'.2.symm);have e1:y.kind=X.2.kind:=congrArg (fun z=>z.1.1) hee;have e2:y.b=X.2.b:=congrArg (fun z=>z.1.2) hee;have e3:(p1.take (nm M) y).g=(q.take (nm M) X.2).g:=congrArg (fun z=>z.2) hee;rw[if_neg (by omega),←e1,←hp1];have hrs:(p1.take (nm M) y).g.rs 0=(q.take (nm M) X.2).g.rs 0:=by rw[e3]
  rw[if_neg (by rintro(g|g|g);exact absurd (hp'.1.ok.symm.trans g) (by simp);exact absurd (hq'.1.ok.symm.trans g) (by simp);exact g hrs)];refine mM hM f (k+1) X.1 W2 (n1+1) (n'+1) ps' _ _ (by omega) (by omega) w7 t1 hDX qc.1 hrk (by omega) w8.symm hp'.1 hq'.1 e3 AcL fun v a b c=>?_
  rcases Wb (by have:=aK t6;omega) c with g|⟨g1,g2⟩
  ·exact hst v (oy v a b g)
  rcases t6 with⟨-,a1,a2,a3,a4,a5,a6,a7,-⟩|⟨k,-⟩|⟨k,-⟩|⟨k,-⟩|⟨k,-⟩|⟨k,-⟩
  ·have:X.2.a=v:=by omega
   subst this;refine((t1.gd hM).al _ (.DX (by rw[a5];simp) a6.1)).2.1
  all_goals omega
end
open Go.Proofs.YtmpcfamcbaineaaGreat.Mo
section
def up:Nat→Nat→List Int
 |_,0=>[]
 |k,m+1=>(k:Int)::up (k+1) m
theorem yS{t:Int}: ∀{m k:Nat},t∈up k m↔(k:Int)≤t∧t<k+m
 |0,k=>by simp only[up,List.not_mem_nil,false_iff];omega
 |m+1,k=>by
  have ih:=yS (t:=t) (m:=m) (k:=k+1);unfold up;rw[List.mem_cons,ih];omega
theorem uA: ∀{m k:Nat},(up k m).Nodup
 |0,_=>List.nodup_nil
 |m+1,k=>List.nodup_cons.2 ⟨fun h=>by have:=(yS.1 h).1;omega,uA⟩
theorem XF(hL:La M): ∀(n k:Nat) (l:Dk) (q:Int),1≤k→(k:Int)+n≤M.Bq+1→l.length=M.all.toNat→ld (Mc M n k l) (M.FI q)=if(k:Int)≤q∧q<k+n then q+1 else ld l (M.FI q)
 |0,k,l,q,_,_,_=>by rw[if_neg (by omega)];rfl
 |n+1,k,l,q,h1,h2,hl=>by
  unfold Mo.Mc;rw[XF hL n (k+1) _ q (by omega) (by omega) (by rw[List.length_set];exact hl)];have hin:=Vx hL (p:=k) (by omega) (by omega);rw[show l.set (M.FI k).toNat ((k:Int)+1)=put l (ad M (.Cf k)) ((k:Int)+1) from Qz hin];by_cases e:q=k
  ·subst e;rw[if_neg (by omega),if_pos (by omega),show M.FI ((k:Nat):Int)=ad M (.Cf k) from rfl];refine Ei ⟨hin,?_⟩;have:=KJ hL hin;omega
  rw[show ld (put l (ad M (.Cf k)) ((k:Int)+1)) (M.FI q)=ld l (M.FI q) from DU hL (q:= .Cf q) (by simp;omega)];by_cases c:(k:Int)+1≤q∧q<k+1+n
  ·rw[if_pos (by omega),if_pos (by omega)]
  rw[if_neg (by omega),if_neg (by omega)]
theorem yT(hL:La M)(hC:x9 M)(hm:1≤M.Bq)(q:Int):ld M.first (M.FI q)=if 1≤q∧q<M.Bq then q+1 else 0:=by
 rw[MJ hL,show M.FI q=ad M (.Cf q) from rfl,Oo hL hC (by simp) (by simp) _ _ (by have:=hL.nn;omega)];unfold DX;rw[show M.D7 M.nodes=ad M (.Ea M.nodes) from rfl,DU hL (by simp),show M.DK M.nodes=ad M (.state M.nodes) from rfl,DU hL (by simp)];rw[show ad M (.Cf q)=M.FI q from rfl,XF hL _ 1 _ q (by omega) (by omega) (by rw[Hf,List.length_replicate])];rw[show ld (put (List.replicate M.all.toNat 0) 5 1) (M.FI q)=0 from by
  rw[←TO (M:=M),show M.FI q=ad M (.Cf q) from rfl,DU hL (by simp)];exact K6]
 by_cases c:1≤q∧q<M.Bq
 ·rw[if_pos c,if_pos (by omega)]
 rw[if_neg c,if_neg (by omega)]
theorem cT(hl: ∀q,ld l (M.FI q)=if 1≤q∧q<M.Bq then q+1 else 0)(h2:M.Bq≤2000): ∀(m k:Nat),1≤k→(k:Int)+m=M.Bq→Ch M false l k (up k (m+1))
 |0,k,h1,hk=>by
  refine⟨rfl,by omega,?_⟩;show NR (ld l (M.FI k))=0;rw[hl,if_neg (by omega)];rfl
 |m+1,k,h1,hk=>by
  refine⟨rfl,by omega,?_⟩;have:=cT hl h2 m (k+1) (by omega) (by omega);show Ch M false l (NR (ld l (M.FI k))) (up (k+1) (m+1));rw[hl,if_pos (by omega)];rw[show NR ((k:Int)+1)=((k+1:Nat):Int) by unfold NR;omega];exact this
theorem Ml: ∀{L:List Int} {a:Int},bO M l a L→(∀u∈L,1≤u∧u≤60)→Ch M true l (NR (ld l a)) L∧0≤ld l a∧ld l a≤60
 |[],a,h,_=>by
  have h:ld l a=0:=h;rw[h];exact⟨rfl,by omega,by omega⟩
 |u::us,a,h,hu=>by
  have h1:=hu u (List.mem_cons_self ..);have h2:=Ml h.2 (fun x hx=>hu x (List.mem_cons_of_mem _ hx));rw[h.1];refine⟨⟨by unfold NR;omega,by omega,h2.1⟩,by omega,by omega⟩
theorem qf(hL:La M)(hC:x9 M):ld M.first 5=1:=by
 rw[MJ hL,←TO (M:=M),Oo hL hC (by simp) (by simp) _ _ (by have:=hL.nn;omega)];unfold DX;rw[show M.D7 M.nodes=ad M (.Ea M.nodes) from rfl,DU hL (by simp),show M.DK M.nodes=ad M (.state M.nodes) from rfl,DU hL (by simp),WU hL (by simp) _ _ _ (by omega) (by have:=hL.Bq;omega),TO];exact Ei (Tf hL (by rw[List.length_replicate]) (by omega) (by omega))
theorem VI(hL:La M)(hC:x9 M):ld M.first (M.D7 M.nodes)=M.CU M.nodes:=by
 rw[MJ hL,show M.D7 M.nodes=ad M (.Ea M.nodes) from rfl,Oo hL hC (by simp) (by simp) _ _ (by have:=hL.nn;omega)];unfold DX;have h0:0≤ad M (.Ea M.nodes):=JJ hL hL.nn.1 (Int.le_refl _) (by omega) (by omega);refine Ei ⟨h0,?_⟩;rw[Hf,Ox,Hf,List.length_replicate];have:=KJ hL h0;show ad M (.Ea M.nodes)<_;omega
theorem aN{f:Nat→Nat}: ∀{m:Nat},(∀j,j<m→f j=0)→GY m f=0
 |0,_=>rfl
 |m+1,h=>by
  show GY m f+f m=0;rw[aN fun j hj=>h j (by omega),h m (by omega)]
end
open Go.Proofs.YtmpcfamcbaineaaGreat.Mo
section
variable{Aq:List I4}
theorem Mm(hM:M.Ak=1):(Wo.new M [Aq]).Ak=[Mu.new M 0 Aq]:=by
 show(List.range M.Ak.toNat).map _=_;rw[hM];rfl
theorem sR{j:Nat}(hj:j<nm M):(Wo.new M [Aq]).Ai.getD j OO=Mk.new M j:=by
 show(((List.range M.Ai.toNat).map fun(i:Nat)=>Mk.new M i).getD j OO)=_;rw[List.getD_eq_getElem?_getD,List.getElem?_map,List.getElem?_range (show j<M.Ai.toNat from hj)];rfl
theorem start(hM:Ma M)(hm:1≤M.Bq):WV M 0 (Wo.new M [Aq]):=by
 have hL:=hM.la;have hC:=hM.tU;have hn:=hL.nn;have hmy:=hL.Bq;have h0: ∀p:Pl,(∀q,p≠ .Cf q)→p≠ .FW 5→p≠ .state M.nodes→p≠ .Ea M.nodes→(∀q,p≠ .next q)→(∀q,p≠ .head q)→ld M.first (ad M p)=0:=fun p a b c d e f=>ZR hL hC hm a b c d e f
 have hF:=ol.of hL hC hm;have hst: ∀v,ld M.first (M.DK v)=1↔v=M.nodes:=fun v=>⟨hF.2 v,fun e=>by rw[e];exact XC hL hC⟩
 have hval: ∀v j,(vw M M.first).val v j=0:=fun v j=>hF.1 v j
 have hmw: ∀v,(vw M M.first).mw v=0:=fun v=>h0 (.mark v) (by simp) (by simp) (by simp) (by simp) (by simp) (by simp)
 have hw0:(vw M M.first).w0=0:=h0 (.FW 0) (by simp) (by simp) (by simp) (by simp) (by simp) (by simp);have hw1:(vw M M.first).w1=0:=h0 (.FW 1) (by simp) (by simp) (by simp) (by simp) (by simp) (by simp);have hw2:(vw M M.first).w2=0:=h0 (.FW 2) (by simp) (by simp) (by simp) (by simp) (by simp) (by simp);have hw3:(vw M M.first).w3=0:=h0 (.FW 3) (by simp) (by simp) (by simp) (by simp) (by simp) (by simp);have ha1:(vw M M.first).a1=0:=h0 (.Jq 0) (by simp) (by simp) (by simp) (by simp) (by simp) (by simp);have h4:ld M.first 4=0:=h0 (.FW 4) (by simp) (by simp) (by simp) (by simp) (by simp) (by simp);obtain⟨B,hB⟩: ∃B:Mu,B=⟨0,Aq.take 64,Wd,[M.nodes],[],0,0,0,0,0,.new 0 0,.Bl 0 0,BH,.ES⟩:=⟨_,rfl⟩;have hx:Mu.new M 0 Aq=B.BX M:=by rw[hB];rfl
 have bt:JX M B:=by unfold JX;rw[hB];have:=hL.bu;show(0:Int)<M.CQ;omega
 obtain⟨s1,s2,s3,s4,s5,s6,s7,s8,s9⟩:=JB (M:=M) B;have r1:(B.BX M).Af=[M.nodes]:=by rw[s2,hB]
 have r2:(B.BX M).AL=0:=by rw[s4,hB]
 have r3:(B.BX M).Bh=0:=by rw[s6,hB]
 have r4:(B.BX M).Ar=[]:=by rw[s3,hB]
 obtain⟨b1,b2,b3,b4,b5,b6,b7⟩:=VE (V:=vw M M.first) (D:=De.new) (g:=gs M (vw M M.first) (B.BX M) (BD (nm M) (fun j=>(Wo.new M [Aq]).Ai.getD j OO) [])) bt;have e0: ∀t:Int,GY (nm M) (fun _=>List.count t ([]:List Int))=0:=fun t=>aN fun _ _=>rfl
 have mk: ∀j,j<nm M→(Wo.new M [Aq]).Ai.getD j OO=Mk.new M j:=fun j hj=>sR hj
 refine⟨by simp[Wo.new,nm],B.BX M,by rw[Mm hM.one,hx],by rw[s1,hB],fun _=>0,[],up 1 M.Bq.toNat,[],[],fun _=>[],fun _=>[],fun k=>sN M k (M.nodes-1).toNat 0,?_⟩;show WI M 0 M.first De.new _ _ _ _ _ _ _ _ _ _;have pe: ∀u,tp M M.first u=0:=fun u=>h0 (.NS u) (by simp) (by simp) (by simp) (by simp) (by simp) (by simp)
 have bt0: ∀u,bot M M.first u=0:=fun u=>h0 (.DJ u) (by simp) (by simp) (by simp) (by simp) (by simp) (by simp)
 have hc5:Ch M false M.first (lo (ld M.first 5)) (up 1 M.Bq.toNat):=by
  have:=cT (M:=M) (l:=M.first) (yT hL hC hm) hmy.2 (M.Bq-1).toNat 1 (Nat.le_refl _) (by omega);rw[qf hL hC,show lo (1:Int)=1 from rfl];rw[show(M.Bq-1).toNat+1=M.Bq.toNat by omega] at this;exact this
 have Uk: ∀k:Nat,k<5→Ch M true M.first (lo (ld M.first (M.Eg k))) (sN M k (M.nodes-1).toNat 0)∧hi (ld M.first (M.Eg k))=0:=fun k hk=>by
  obtain⟨c1,c2,c3⟩:=Ml (AC hL hC hm (k:=k) (by omega) (by omega)) fun u hu=>by have:=SV.1 hu;omega
  refine⟨?_,by unfold hi;omega⟩;rw[show lo (ld M.first (M.Eg k))=NR (ld M.first (M.Eg k)) by unfold lo NR;omega];exact c1
 have hal: ∀v,(gs M (vw M M.first) (B.BX M) (BD (nm M) (fun j=>(Wo.new M [Aq]).Ai.getD j OO) [])).al v→v=M.nodes:=fun v g=>(hst v).1 g.2
 have aln:(gs M (vw M M.first) (B.BX M) (BD (nm M) (fun j=>(Wo.new M [Aq]).Ai.getD j OO) [])).al M.nodes:=⟨⟨hn.1,Int.le_refl _⟩,(hst _).2 rfl⟩;have mkn:(gs M (vw M M.first) (B.BX M) (BD (nm M) (fun j=>(Wo.new M [Aq]).Ai.getD j OO) [])).GK M.nodes:=⟨aln,by show(B.BX M).AL≤_;rw[r2];show 0≤(vw M M.first).mw M.nodes;rw[hmw];exact Int.le_refl _⟩;have hR: ∀v,(gs M (vw M M.first) (B.BX M) (BD (nm M) (fun j=>(Wo.new M [Aq]).Ai.getD j OO) [])).R v→v=M.nodes:=fun v g=>by
  refine OM.Gt (P:=fun v=>v=M.nodes) g (fun v k h1=>?_) fun v j k h1=>?_
  ·rcases k with k|k
   ·have k:v∈(B.BX M).Af:=k;rw[r1] at k;exact List.mem_singleton.1 k
   exact hal v k.1
  have h1:1≤(vw M M.first).val v j:=h1;rw[hval] at h1;omega
 refine⟨hL.first,fun u _ _=>⟨by rw[pe];exact Int.le_refl _,by rw[pe];exact Int.le_refl _,Int.le_refl _,by rw[pe];have:=hL.dq;show(0:Int)-0≤_;omega,.inl (bt0 u)⟩,⟨by rw[h4];exact rfl,hc5,by rw[h4];exact⟨Int.le_refl _,Int.le_refl _⟩,by rw[qf hL hC];exact⟨Int.le_refl _,Int.le_refl _⟩,fun p hp=>by simp at hp⟩,fun t=>?_,fun t ht=>?_,fun j hj=>?_,.inr ⟨fun g=>b6 g.1,rfl⟩,fun t=>?_,⟨fun k hk=>(Uk k hk).1,fun k hk=>by rw[(Uk k hk).2];exact⟨Int.le_refl _,Int.le_refl _⟩⟩,fun v=>?_,fun k hk v hv=>?_,fun j hj g=>?_,fun g=>?_,fun g1 g2=>?_,?_⟩
 ·rw[e0];have:=List.nodup_iff_count.1 (uA (m:=M.Bq.toNat) (k:=1)) t;simp only[List.count_nil];omega
 ·rw[e0] at ht;simp only[List.count_nil] at ht;have:=List.count_pos_iff.1 (show 0<(up 1 M.Bq.toNat).count t by omega);have:=yS.1 this;omega
 ·rw[mk j hj];exact⟨rfl,(by show(0:Int)≤0∧(0:Int)≤4∧(0:Int)≤0∧(0:Int)≤4;decide:lV QT),bt0 j,rfl,rfl⟩
 ·rw[e0,r4];have:cD M M.first (fun _=>0) t=0:=aN fun j _=>by
   unfold NY;rw[pe];rfl
  rw[this];rfl
 ·have hz:GY (nm M) (fun j=>(Je ((Wo.new M [Aq]).Ai.getD j OO)).count v)=0:=aN fun j hj=>by
   rw[mk j hj];rfl
  rw[hz,b4];have hcnt: ∀m:Nat,m≤5→GY m (fun k=>(sN M k (M.nodes-1).toNat 0).count v)≤if 1≤v∧v<M.nodes∧M.Ew v<m then 1 else 0:=fun m=>by
   induction m with
   |zero=>
    intro _;show 0≤_;omega
   |succ m ih=>
    intro hm;have ih:=ih (by omega);show GY m _+(sN M m (M.nodes-1).toNat 0).count v≤_;have hnd:=List.nodup_iff_count.1 (WW (M:=M) (k:=m) (m:=(M.nodes-1).toNat) (v:=0)) v;by_cases e:v∈sN M m (M.nodes-1).toNat 0
    ·have:=SV.1 e;rw[if_pos (by omega)];rw[if_neg (by omega)] at ih;omega
    rw[List.count_eq_zero_of_not_mem e];split at ih
    ·rw[if_pos (by omega)];omega
    omega
  have h5:=hcnt 5 (Nat.le_refl _);have:MM M M.first v=if v=M.nodes then 1 else 0:=by
   unfold MM;by_cases e:v=M.nodes
   ·rw[if_pos ((hst v).2 e),if_pos e]
   rw[if_neg (fun g=>e ((hst v).1 g)),if_neg e]
  rw[this];simp only[List.count_nil];split at h5
  ·rw[if_neg (by omega)];omega
  split<;>omega
 ·have:=SV.1 hv;exact⟨⟨by omega,by omega⟩,this.2.2⟩
 ·rw[mk j hj] at g;cases g
 ·rcases b5 M.first with q|q
  ·exact q
  exact absurd g q
 ·rcases b7 g1 with e|e<;>(rw[e] at g2;cases g2)
 have swn: ∀j,j<nm M→Ko ((Wo.new M [Aq]).Ai.getD j OO)=false:=fun j hj=>by rw[mk j hj];rfl
 refine⟨⟨fun v j=>?_,fun v g=>?_,fun v j _=> .inr (.inl (hval v j)),fun _ r hr h1=>?_,fun v=>?_,fun r hr=>?_,fun v g=>g.1⟩,fun v h1 h2 g=>?_,fun t ht=>by simp at ht,fun g=>?_,fun _ v g=>?_,?_,?_,⟨⟨Int.le_refl _,Int.le_refl _⟩,by decide,by rw[hw0];rfl,(fun g=>by rcases g with g|g|g<;>cases g),fun g=>by have g:(1:Nat)≤0:=g;omega⟩,⟨?_,?_,?_,?_,?_,?_,?_⟩,fun j hj g=>?_,?_,fun j hj g=>?_,b1⟩
 ·show 0≤(vw M M.first).val v j∧(vw M M.first).val v j≤M.nodes;rw[hval];omega
 ·rw[hR v g];exact aln
 ·have hr:r∈(B.BX M).Af:=hr;rw[r1] at hr;rw[List.mem_singleton.1 hr];exact .DX mkn hn.1
 ·show 0≤(vw M M.first).mw v∧(vw M M.first).mw v≤(B.BX M).AL;rw[hmw,r2];omega
 ·have hr:r∈(B.BX M).Af:=hr;rw[r1] at hr;rw[List.mem_singleton.1 hr];omega
 ·have e:v=M.nodes:=(hst v).1 g;subst e;have hh:(vw M M.first).Lh M.nodes=M.CU M.nodes:=VI hL hC;rw[hh];have:=(hL.BM _ hn.1 (Int.le_refl _)).1;exact⟨by omega,Int.le_refl _,fun j _=>hval _ j⟩
 ·rcases g with g|⟨j,hj,g⟩
  ·exact absurd rfl g
  rw[mk j hj] at g;cases g
 ·rw[hR v g];exact mkn
 ·rw[hw1,aN (fun j hj=>by rw[mk j hj];rfl),b3];rfl
 ·rw[hw1];exact Int.le_refl _
 ·rw[r2];show(0:Int)≤0∧(0:Int)-1≤0∧(0:Int)≤0;omega
 ·intro _;exact r2
 ·rw[r2,r3];show(0:Int)≤0∧(0:Int)-1≤0∧(0:Int)≤0;omega
 ·intro _;exact r3
 ·rw[ha1];show(0:Int)≤0∧(0:Int)≤3*0;omega
 ·intro _;exact r2
 ·intro _;exact r3
 ·rw[mk j hj] at g;cases g
 ·refine⟨?_,?_,?_,(fun g=>by rcases g with g|g<;>cases g),(fun g=>by cases g),(fun g=>by cases g),(fun _ j hj=>swn j hj),fun _=> .inr (.inr (.inr ?_)),fun i j hi _ _ g=>by rw[swn i hi] at g;cases g⟩
  ·rw[hw2];rfl
  ·rw[hw2];have:=hM.pb;show(0:Int)≤_;omega
  ·rw[hw3];exact Int.le_refl _
  rw[hw2];rfl
 rw[mk j hj] at g;cases g
end
open Go.Proofs.YtmpcfamcbaineaaGreat.Mo
def Pr.begin(M:Bz):Pr:=⟨⟨[[1]],[List.replicate (M.CU M.nodes).toNat 0],M.Af⟩,(List.replicate (M.nodes.toNat+1) 0).set M.nodes.toNat 1,true⟩
section
variable{Aq:List I4}
theorem Ma.of(h:c.Ok)(h1:c.Ak=1):Ma c.map:=by
 obtain⟨-,h2,-⟩:=Fj.nums h;refine⟨La.of h,fun v h1 h2=>JD h ⟨h1,h2⟩,fun v g1 g2=>?_,h.AO.1,⟨h2.1,by show _/_≤_;omega⟩,h1⟩;have g2:v≤c.nodes:=g2;rw[Py ⟨g1,g2⟩,Px (by omega),show(((v-1).toNat:Nat):Int)+1=v by omega];rfl
theorem uB(hn:1≤M.nodes)(v:Int)(hv:0≤v):(Pr.begin M).at v=if v=M.nodes then 1 else 0:=by
 unfold Pr.at Pr.begin;rw[mG (by rw[List.length_replicate];omega),aI];by_cases e:v=M.nodes
 ·rw[if_pos e,if_pos (by rw[e])]
 rw[if_neg e,if_neg (by omega)]
theorem Mn(hM:Ma M)(hm:1≤M.Bq)(hr:(me (Wo.new M [Aq])).Af=[M.nodes]):RF M (lv M (Wo.new M [Aq])) (me (Wo.new M [Aq])).Af (Pr.begin M):=by
 have hL:=hM.la;have hn:=hL.nn;have hF:=ol.of hL hM.tU hm;have hval: ∀v j,(lv M (Wo.new M [Aq])).val v j=0:=fun v j=>hF.1 v j
 have hh:(lv M (Wo.new M [Aq])).Lh M.nodes=M.CU M.nodes:=VI hL hM.tU;have ea:=fun v hv=>uB (M:=M) hn.1 v hv
 have an:(Pr.begin M).at M.nodes=1:=by rw[ea _ (by omega),if_pos rfl]
 have a0:(Pr.begin M).at 0=0:=by rw[ea _ (by omega),if_neg (by omega)]
 rw[hr];have hR: ∀v,Rr (lv M (Wo.new M [Aq])) [M.nodes] v→v=M.nodes:=fun v g=>by
  cases g with
  |DX a b=>exact List.mem_singleton.1 a
  |step a b=>rw[hval] at b;omega
 refine⟨rfl,?_,a0,rfl,?_,fun v g=>?_,fun v w g1 g2 _=>(hR v g1).trans (hR w g2).symm⟩
 ·show(((List.replicate (M.nodes.toNat+1) (0:Int)).set M.nodes.toNat 1).length:Int)=_;rw[List.length_set,List.length_replicate];omega
 ·show[[(1:Int)]]=[[(Pr.begin M).at M.nodes]];rw[an]
 rw[hR v g,an,hh];have hrm:=hL.BM _ hn.1 (Int.le_refl _);have es:(Pr.begin M).g.A7 1=List.replicate (M.CU M.nodes).toNat 0:=rfl;rw[es];refine⟨⟨Int.le_refl _,Int.le_refl _⟩,by rw[List.length_replicate];omega,fun j _ _=>?_⟩;rw[aI,hval,a0]
theorem Mq(hok:c.ok=true)(h1:c.Ak=1)(Aq:List I4)(ps:List (Int×Int))(hl:ps.length≤3000):
  JP c.map (nm c.map) (Qx c.map ps (Wo.new c.map [Aq])) 4000 0 (Wo.new c.map [Aq]) (Pr.begin c.map) (Pr.begin c.map)=true:=by
 have hc:=Fj.Ok.of hok;have hM:=Ma.of hc h1;have hm:1≤c.map.Bq:=VP hc;have hs:=start (Aq:=Aq) hM hm;obtain⟨B,hB⟩: ∃B:Mu,B=⟨0,Aq.take 64,Wd,[c.map.nodes],[],0,0,0,0,0,.new 0 0,.Bl 0 0,BH,.ES⟩:=⟨_,rfl⟩;have hx:me (Wo.new c.map [Aq])=B.BX c.map:=by
  unfold me;rw[Mm h1,hB];rfl
 have hr:(me (Wo.new c.map [Aq])).Af=[c.map.nodes]:=by rw[hx,(JB B).2.1,hB]
 have hb:=aJ (M:=c.map) B;have hlen:B.Aq.length≤64:=by rw[hB];show(Aq.take 64).length≤64;rw[List.length_take];omega
 have hrf:=Mn (Aq:=Aq) hM hm hr;refine mM hM 4000 0 _ _ 0 0 ps _ _ (by omega) (by omega) hs hs ⟨rfl,rfl⟩ (by rw[hx];exact hb.1) (by rw[hx];omega) (Nat.zero_le _) rfl hrf hrf rfl rfl fun v v1 v2 g=>?_
 rw[uB hM.la.nn.1 v (by omega)] at g;by_cases e:v=c.map.nodes
 ·rw[e];exact XC hM.la hM.tU
 rw[if_neg e] at g;exact absurd rfl g
end
open Go.Proofs.YtmpcfamcbaineaaGreat.Mo
section
theorem VJ(hM:Ma M): ∀(ps:List (Int×Int)) (W:Wo) (n:Int),n+ps.length<900000→WV M n W→ ∀y∈Qx M ps W,y.Di=nm M
 |[],W,n,hn,hW,y,hy=>by cases hy
 |(a,d)::ps,W,n,hn,hW,y,hy=>by
  simp only[List.length_cons] at hn;unfold Qx at hy;simp only at hy;by_cases hr:0≤a∧a<W.FX
  ·have e1:Wo.Fv M W a d=W.step M a.toNat d:=if_pos hr;rw[e1] at hy;rcases mJ hM (by omega) hW (Di:=a.toNat) (by omega) (dr:=d) with⟨h1,⟨h2,-⟩|⟨h2,h3,h4,-⟩⟩
   ·rw[if_neg (by rw[h2];simp)] at hy;exact VJ hM ps _ (n+1) (by omega) h1 y hy
   rw[if_pos h3] at hy;rcases List.mem_cons.1 hy with rfl|hy
   ·rw[h4,h2]
   exact VJ hM ps _ (n+1) (by omega) h1 y hy
  have e1:Wo.Fv M W a d=(W,BH):=if_neg hr;rw[e1] at hy;rw[if_neg (by show¬Yd BH=true;decide)] at hy;exact VJ hM ps W n (by omega) hW y hy
theorem A6(hok:c.ok=true)(h1:c.Ak=1)(Aq:List I4)(ps:List (Int×Int))(hl:ps.length≤3000):
  JP c.map c.Ai (Qx c.map ps (Wo.new c.map [Aq])) 4000 0 (Wo.new c.map [Aq]) (Pr.begin c.map) (Pr.begin c.map)=true∧ ∀y∈Qx c.map ps (Wo.new c.map [Aq]),y.Di=c.Ai:=by
 have hc:=Fj.Ok.of hok;have hmk:=hc.Ai;have e:((nm c.map:Nat):Int)=c.Ai:=by show((c.Ai.toNat:Nat):Int)=c.Ai;omega
 have h:=Mq hok h1 Aq ps hl;rw[e] at h;have hM:=Ma.of hc h1;refine⟨h,fun y hy=>?_⟩;rw[←e];exact VJ hM ps _ 0 (by omega) (start (Aq:=Aq) hM (VP hc)) y hy
end
end Iv
end Go.Proofs.YtmpcfamcbaineaaGreat.Mo
namespace Go.Proofs.YtmpcfamcbaineaaGreat.topSame
open Go.ChangeShapes Go.WideShapes Go.ChangeAt Go.RowKit
theorem own:ownKnob Tryz.prog.godebug=none:=by kernel_rfl
theorem Wc:laidOutB Tryz.prog=true:=by kernel_rfl
theorem Mr{zs:List Int}(h: ∀n∈zs,(Lit.int .u8 n).wf=true)(i:Nat):0≤Mo.Yv zs i∧Mo.Yv zs i≤255:=by
 unfold Mo.Yv;rw[List.getD_eq_getElem?_getD];cases hi:zs[i]? with
 |none=>simp
 |some z=>
  obtain⟨hlt,he⟩:=List.getElem?_eq_some_iff.1 hi;have hm:=h z (by rw[←he];exact List.getElem_mem hlt);have:0≤z∧z≤255:=by simpa[Lit.wf,IntKind.min,IntKind.max,IntKind.signed,IntKind.bits] using hm
  simpa using this
theorem blk_lt{w:World}{r:Reach}{b0 len cap:Nat}{a:Addr}(h:Value.okWide Tryz.prog w r b0 25 (.slice (some a) len cap)):a.block<w.heap.size:=by
 simp only[Value.okWide,Tryz.underlying25,Cell.okWide,Cell.ok] at h;obtain⟨-,-,-,-,row,cells,hs,-⟩:=h;by_cases g:a.block<w.heap.size
 ·exact g
 unfold World.shape? at hs;rw[Array.getElem?_eq_none (by omega)] at hs;simp at hs
theorem lifted(os:Os)(started:os.Started)(H:Type)(enc:TypeId×Value→H):
  ReturnsInHanded {} Tryz.checked os 4 .any (Rows.topSameSpec.pre6 enc Tryz.prog Tryz.f4 Rows.topSameRow.domain false) (Rows.topSameSpec.post enc Tryz.prog Tryz.f4 false true false false):=by
 refine returnsInHanded_of_change_sized (C:=Tryz.checked) own started (by kernel_rfl) Tryz.func4
  (ChangeSpec.witness6 (enc:=enc) (C:=Tryz.checked) false ⟨#[], #[.slice none 0 0],[]⟩ 8 (by kernel_rfl) (by kernel_rfl) (by kernel_rfl) (by kernel_rfl)) ?_
 intro W DX args ds gs before hval0 hW hcnd hsz0 _;have hval: ∀(j:Nat) t v,Tryz.f4.params[j]?=some t→args[j]?=some v→Value.okWide Tryz.prog W .any DX t v:=hval0;have hW':=hW;obtain⟨p,q,hA0,hV,rfl,hfz,hnd⟩:=hW;have hA:DataW.TrodAll enc Tryz.prog W 0 (fun _=>true) true Tryz.f4.params.toList args.toList ds p:=hA0;rw[Tryz.params4] at hA hval;obtain⟨v1,vs1,d1,ds1,p1,q1,hargs,rfl,rfl,h1,r1⟩:=trodAll_cons hA;obtain⟨rfl,rfl,rfl⟩:=trodAll_nil r1;obtain rfl:args= #[v1]:=by cases args;simp_all
 obtain⟨rfl,rfl⟩:=trodVars_none hV;obtain⟨a1,len1,cap1,rfl⟩:=okWide_slice Tryz.underlying25 (hval 0 25 v1 rfl rfl);have AcO:=hval 0 25 _ rfl rfl;have k1:=h1;have lt1: ∀x∈p1,x.block<W.heap.size:=by obtain⟨m,hm⟩:=k1;exact DataW.trod_lt m _ _ _ hm
 obtain⟨hv,hB⟩:Mo.Mp.BV a1 len1 (.slice a1 len1 cap1) len1∧Mo.Mp.By W (fun _=>False) a1 len1:=by
  obtain⟨fuel,hf⟩:=h1;rcases open_ints Tryz.underlying25 Tryz.underlying5 (by kernel_rfl) hf with⟨hcs,_⟩|⟨x,l,c',zs,hcs,_,hl,hm,hz,_,hcell,hwz⟩
  ·simp[Value.cells] at hcs;obtain⟨rfl,rfl,rfl⟩:=hcs;exact⟨.inl ⟨_,rfl,rfl⟩,⟨fun a h=>(by cases h)⟩⟩
  simp[Value.cells] at hcs;obtain⟨rfl,rfl,rfl⟩:=hcs;have hz':zs.length=cap1:=by simpa using hz
  have hlc:len1≤cap1:=by omega
  refine⟨.inr ⟨x,0,cap1,rfl,?_,hlc,fun _=>Nat.zero_add _⟩,⟨fun y hy=>?_⟩⟩
  ·rw[show x.add 0=x by unfold Addr.add;rw[if_pos rfl]]
  cases hy;have hci: ∀i,i<len1→W.cell? (x.add i)=some (.int .u8 (Mo.Yv zs i)):=fun i hi=>hcell i (by omega)
  refine⟨?_,fun h=>h,fun i hi=>⟨Mo.Yv zs i,hci i hi,(Mr hwz i).1,(Mr hwz i).2⟩⟩;exact blk_lt AcO
 clear hA0 hval0 hsz0;refine(Mo.Mp.To (C:=⟨()⟩) (l:=[]) W hv hB (fun c Aq ks hok h1 hl=>Mo.Iv.A6 hok h1 Aq ks hl)).mono fun e W' ⟨v,l',D',he,_,hv,hch,_⟩=>?_
 subst he;have hv:v= .bool true:=hv;subst hv;have bel:Below W.heap.size W W':=⟨hch.os,hch.tape,hch.output,hch.size,fun k hk=>hch.block k hk id⟩;exact⟨_,rfl,_,_,_,[],_,[],hW',trodAll_mk1 (shut_bool Tryz.underlying4 _),(trodAll_cons_mk (Below.trod Wc (by kernel_rfl) (of_decide_eq_true (by kernel_rfl)) k1 bel lt1) trodAll_mk0),rfl,bel.frame _,fun h=>by cases h⟩
theorem AcP:Rows.topSameRow.holds Tryz.pinned (OpenSpec.ofChange Rows.topSameSpec):=
 OpenClaim.holds_of_wide 4 Tryz.f4 rfl rfl rfl rfl rfl rfl rfl ⟨rfl,rfl,rfl,rfl,rfl⟩ rfl rfl rfl rfl rfl (by kernel_rfl) Tryz.func4 (by kernel_rfl)
  (of_decide_eq_true (by kernel_rfl)) (by unfold Func.isWrapper;first|(rw[if_pos (by decide+kernel)];kernel_rfl)|(rw[if_neg (by decide+kernel)];exact⟨rfl,rfl⟩))
  (fun os started H enc _=>lifted os started H enc)
theorem Ms:Rows.TopSameSaid:=AcP
#print axioms Ms
end Go.Proofs.YtmpcfamcbaineaaGreat.topSame
namespace Go.Proofs.YtmpcfamcbaineaaGreat
theorem topSame_holds:Rows.TopSameSaid:=topSame.Ms
end Go.Proofs.YtmpcfamcbaineaaGreat
