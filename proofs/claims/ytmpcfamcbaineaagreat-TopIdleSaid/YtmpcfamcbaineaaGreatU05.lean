/- Part 5 of the proof: contracts of the functions that the law reaches, and the plain law. No condition. -/
import Derived.Test.YtmpcfamcbaineaaGreatU04
namespace Go.Proofs.YtmpcfamcbaineaaGreat.Mo
open Go.RowKit Go.Proofs.YtmpcfamcbaineaaGreat.Mo
set_option linter.unusedVariables false
set_option linter.unusedSimpArgs false
def Sw.cs (C : Cx) (x : Sw) (pv nv : Value) : List Value :=
 [ptr C.m, .int .u64 x.cycle, .int .u64 x.w, .int .i64 x.part, .int .i64 x.v, .int .i64 x.last, pv, .int .i64 x.event.kind, .int .i64 x.event.who, .int .i64 x.event.a, .int .i64 x.event.b, .int .i64 x.event.c, nv]
def SwNx (C : Cx) (d : Nat) (x : Sw) (pv nv : Value) (RN : Asr) : Prop := match x.next with
 | .nil => nv = .nilFunc ∧ RN = emp
 | .look => nv = fm 111 d ∧ RN = emp
 | .take => nv = fm 146 d ∧ RN = emp
 | .state => nv = fm 201 d ∧ RN = emp
 | .mark => nv = fm 223 d ∧ RN = emp
 | .free => nv = fm 241 d ∧ RN = emp
 | .list => nv = fm 252 d ∧ ∃ q, pv = ptr q ∧ RN = StR C q x.push
 | .done => nv = fm 202 d ∧ RN = emp
theorem loc_SwNx {C : Cx} {d : Nat} {m : Sw} {pv : Value} (nv : Value) (RN : Asr) (h : SwNx C d m pv nv RN) : Loc RN := by
 unfold SwNx at h
 split at h <;> first
  | (obtain ⟨-, rfl⟩ := h; exact loc_emp)
  | (obtain ⟨-, q, -, rfl⟩ := h; exact loc_StR)
theorem Sw_is {C : Cx} {d : Nat} {m : Sw} {pv nv : Value} {RN : Asr} (h : SwNx C d m pv nv RN) : NxIs nv (decide (m.next = .nil)) := by
 unfold SwNx at h
 split at h <;> rename_i hn <;> rw [hn] <;> obtain ⟨rfl, -⟩ := h <;> first | exact .inl ⟨rfl, rfl⟩ | exact .inr ⟨_, _, _, rfl, rfl⟩
structure Sw.Ok (m : Sw) : Prop where
 cycle : u64R m.cycle
 w : u64R m.w
 v : 0 ≤ m.v ∧ m.v ≤ 2000000
 last : m.last ≤ 60
 push : m.push.Ok
 vl : m.next = .state ∨ m.next = .mark ∨ m.next = .free ∨ m.next = .list → m.v ≤ m.last
def ndF (a b : Int) : Nat := bif decide (a ≤ b) then 201 else 202
theorem nx_nodes {C : Cx} {d : Nat} {x : Sw} {pv : Value} (h : x.next = if x.v ≤ x.last then .state else .done) : SwNx C d x pv (fm (ndF x.v x.last) d) emp := by
 unfold SwNx ndF
 by_cases hc : x.v ≤ x.last
 ·rw [if_pos hc] at h
  rw [h]
  simp [hc]
 ·rw [if_neg hc] at h
  rw [h]
  simp [hc]
theorem partB_le {M : MapM} (hM : M.Ok) (j : Int) : M.PartB j ≤ 60 := by
 have := hM.nodes
 unfold MapM.PartB
 split <;> omega
theorem partA_rng {M : MapM} (hM : M.Ok) (j : Int) : 0 ≤ M.PartA j ∧ M.PartA j ≤ 2000000 := by
 have h2 := hM.parts
 have h3 := hM.sweep
 unfold MapM.PartA
 split
 ·omega
 ·have h4 : 0 ≤ j * M.sweep := Int.mul_nonneg (by omega) (by omega)
  have h5 : j * M.sweep ≤ 100000 * 16 := Int.mul_le_mul (by omega) h3.2 (by omega) (by omega)
  omega
def SwR (C : Cx) (d : Nat) (m : Sw) : Asr := fun D w => ∃ pv : Value, Mch 193 d (m.cs C pv) (SwNx C d m pv) D w
theorem loc_SwR {C : Cx} {d : Nat} {m : Sw} : Loc (SwR C d m) := loc_ex fun _ => loc_Mch loc_SwNx
def SwRun (C : Cx) (d : Nat) (m : Sw) (l : Wds) (m' : Sw) (l' : Wds) : Prop := ∀ (pv : Value) nv RN, SwNx C d m pv nv RN → ∃ fid fs cs, nv = .func (.func fid) (List.toArray fs) (List.toArray cs) ∧ fnB fid = true ∧ Cv C fid (fs ++ [ptr C.s] ++ cs) l (blks [⟨d, 193, m.cs C pv nv⟩] RN) (.tuple #[]) l' (SwR C d m')
theorem f193_0 : fld 193 0 0 = true := by kernel_rfl
theorem f193_1 : fld 193 1 1 = true := by kernel_rfl
theorem f193_2 : fld 193 2 2 = true := by kernel_rfl
theorem f193_3 : fld 193 3 3 = true := by kernel_rfl
theorem f193_4 : fld 193 4 4 = true := by kernel_rfl
theorem f193_5 : fld 193 5 5 = true := by kernel_rfl
theorem f193_6 : fld 193 6 6 = true := by kernel_rfl
theorem f193_7 : fld 193 7 7 = true := by kernel_rfl
theorem f193_8 : fld 193 8 12 = true := by kernel_rfl
theorem g111 : fnB 111 = true := by kernel_rfl
theorem g143 : fnB 143 = true := by kernel_rfl
theorem g146 : fnB 146 = true := by kernel_rfl
theorem g166 : fnB 166 = true := by kernel_rfl
theorem g176 : fnB 176 = true := by kernel_rfl
theorem g177 : fnB 177 = true := by kernel_rfl
theorem g201 : fnB 201 = true := by kernel_rfl
theorem g202 : fnB 202 = true := by kernel_rfl
theorem g223 : fnB 223 = true := by kernel_rfl
theorem g224 : fnB 224 = true := by kernel_rfl
theorem g241 : fnB 241 = true := by kernel_rfl
theorem g252 : fnB 252 = true := by kernel_rfl
theorem g33 : fnB 33 = true := by kernel_rfl
theorem g35 : fnB 35 = true := by kernel_rfl
theorem g37 : fnB 37 = true := by kernel_rfl
theorem l193 : layB 193 [(0, 1), (1, 1), (2, 1), (3, 1), (4, 1), (5, 1), (6, 1), (7, 5), (12, 1)] = true := by kernel_rfl
theorem u163_dPtr : undIs 163 (dPtr) = true := by kernel_rfl
theorem z193 : zer 193 = some [.pointer none, .int .u64 0, .int .u64 0, .int .i64 0, .int .i64 0, .int .i64 0, .pointer none, .int .i64 0, .int .i64 0, .int .i64 0, .int .i64 0, .int .i64 0, .nilFunc] := by kernel_rfl
set_option maxHeartbeats 1000000 in
theorem sw_Nil {C : Cx} {d : Nat} {m : Sw} {l : Wds} (hn : m.next = .nil) : Cv C 289 [ptr d, ptr C.s] l (SwR C d m) (.bool true) l (SwR C d { m with event := ev0 }) := by
 refine Ct.of Tryz.func289 rfl Tryz.ntmps289 (by simp) loc_SwR ?_
 intro w0 D0
 refine T.ex (fun _ => loc_Mch loc_SwNx) ?_
 intro pv
 refine T.mch (H := []) loc_SwNx ?_
 intro nv RN hN hl
 have hi := Sw_is hN
 rw [hn] at hi
 refine T.seq <| tx [0] nf Z Z <| xas Z Z Z <| X.nil <| T.seq <| T.seq <| tx [0,1] nf Z Z <| xmv Z Z Z <| xnp Z Z Z Z u163_dPtr <| X.nil <| T.no Z <| T.skip <| T.seq <| tx [0,1,2,3,4] (ct [4]) Z Z <| xmv Z Z Z <| xbd Z Z Z l33 z33 Z <| xnc Z Z Z ?_
 refine xfa Z Z Z f193_7 <| xsta Z Z Z Z m33 Z Z .z (Nat.le_of_ble_eq_true Z) .z pend0 <| X.nil <| T.seq <| T.seq <| tx [0,1,2,3,4] nf Z Z <| xmv Z Z Z <| xnc Z Z Z <| xfa Z Z Z f193_8 <| xld Z Z Z o130 .z Z <| xbo Z Z Z Z (nx_gd hi) (nx_eq hi u130_dFun) ?_
 refine X.nil <| T.yes Z <| T.seq <| tx [0] nf Z Z <| xas Z Z Z <| X.nil <| T.ret1 Z (fun W D h => ?_)
 exact ⟨D, ⟨rfl, rfl, pv, nv, RN, hN, h⟩, fun _ hk => hk⟩
set_option maxHeartbeats 1000000 in
theorem sw_Step {C : Cx} {d : Nat} {m m' : Sw} {l l' : Wds} (hrun : SwRun C d { m with event := ev0 } l m' l') : Cv C 289 [ptr d, ptr C.s] l (SwR C d m) (.bool (decide (m'.next = .nil))) l' (SwR C d m') := by
 refine Ct.of Tryz.func289 rfl Tryz.ntmps289 (by simp) loc_SwR ?_
 intro w0 D0
 refine T.ex (fun _ => loc_Mch loc_SwNx) ?_
 intro pv
 refine T.mch (H := []) loc_SwNx ?_
 intro nv RN hN hl
 obtain ⟨fid, fs, cs, rfl, hg, hc⟩ := hrun pv nv RN hN
 refine T.seq <| tx [0] nf Z Z <| xas Z Z Z <| X.nil <| T.seq <| T.seq <| tx [0,1] nf Z Z <| xmv Z Z Z <| xnp Z Z Z Z u163_dPtr <| X.nil <| T.no Z <| T.skip <| T.seq <| tx [0,1,2,3,4] (ct [4]) Z Z <| xmv Z Z Z <| xbd Z Z Z l33 z33 Z <| xnc Z Z Z ?_
 refine xfa Z Z Z f193_7 <| xsta Z Z Z Z m33 Z Z .z (Nat.le_of_ble_eq_true Z) .z pend0 <| X.nil <| T.seq <| T.seq <| tx [0,1,2,3,4] nf Z Z <| xmv Z Z Z <| xnc Z Z Z <| xfa Z Z Z f193_8 <| xld Z Z Z o130 .z Z <| xnf Z Z Z Z u130_dFun <| X.nil <| T.no Z ?_
 refine T.skip <| T.seq <| tx [0,1,2,3,4,5] (ct [5]) Z Z <| xmv Z Z Z <| xnc Z Z Z <| xfa Z Z Z f193_8 <| xld Z Z Z o130 .z Z <| xmv Z Z Z <| xcf (H1 := []) (H2 := [_]) Z Z Z Z hg Z hc loc_SwR pend0 <| X.nil <| T.seq <| T.ex (fun _ => loc_Mch loc_SwNx) ?_
 intro pv'
 refine T.mch loc_SwNx ?_
 intro nv' RN' hN' hl'
 refine tx [0,1,2,3,4,5] nf Z Z <| xmv Z Z Z <| xnc Z Z Z <| xfa Z Z Z f193_8 <| xld Z Z Z o130 .z Z <| xbo Z Z Z Z (nx_gd (Sw_is hN')) (nx_eq (Sw_is hN') u130_dFun) <| xas Z Z Z <| X.nil <| T.ret1 Z (fun W D h => ?_)
 exact ⟨D, ⟨rfl, rfl, pv', nv', RN', hN', h⟩, fun _ hk => hk⟩
set_option maxHeartbeats 1000000 in
theorem sw_Event {C : Cx} {d : Nat} {m : Sw} {l : Wds} : Cv C 288 [ptr d] l (SwR C d m) (.agg m.event.cells.toArray) l (SwR C d m) := by
 refine Ct.of Tryz.func288 rfl Tryz.ntmps288 (by simp) loc_SwR ?_
 intro w0 D0
 refine T.ex (fun _ => loc_Mch loc_SwNx) ?_
 intro pv
 refine T.mch (H := []) loc_SwNx ?_
 intro nv RN hN hl
 refine T.seq <| tx [0] (ct [0]) Z Z <| xal Z Z z33 (fun _ => pend0) (fun b0 => ?_)
 refine X.nil <| T.seq <| T.seq <| tx [0,1] nf Z Z <| xmv Z Z Z <| xnp Z Z Z Z u163_dPtr <| X.nil <| T.no Z <| T.skip <| T.seq <| tx [0,1,2,3,4] (ct [4]) Z Z <| xmv Z Z Z <| xnc Z Z Z <| xfa Z Z Z f193_7 <| xlda Z Z Z m33 (.s .z) Z ?_
 refine xsta Z Z Z Z m33 Z Z .z (Nat.le_of_ble_eq_true Z) .z pend0 <| X.nil <| T.retc Z Z m33 .z Z (fun W D h => ?_)
 obtain ⟨D1, h1, h2⟩ := blks_tail h
 exact ⟨D1, ⟨rfl, rfl, pv, nv, RN, hN, h1⟩, h2⟩
set_option maxHeartbeats 1000000 in
theorem ct_nodes {C : Cx} {l : Wds} {d : Nat} {Hx : List Bk} {R : Asr} (hl : Loc R) {a0 a1 a2 a3 a6 a7 a8 a9 a10 a11 a12 : Value} {v la : Int} : Cv C 177 [ptr d] l (blks (⟨d, 193, [a0, a1, a2, a3, .int .i64 v, .int .i64 la, a6, a7, a8, a9, a10, a11, a12]⟩ :: Hx) R) (fm (ndF v la) d) l (blks (⟨d, 193, [a0, a1, a2, a3, .int .i64 v, .int .i64 la, a6, a7, a8, a9, a10, a11, a12]⟩ :: Hx) R) := by
 refine Ct.of Tryz.func177 rfl Tryz.ntmps177 (by simp) (loc_blks hl _) ?_
 intro w0 D0
 refine T.conv (fun w h => Sy.opens (H2 := _ :: Hx) h hl) <| T.seq <| tx [0] nf Z Z <| xas Z Z Z <| X.nil <| T.seq <| T.seq <| T.any (ord := [0, 1, 2, 3, 4, 5, 6, 7, 8]) (lo := (fun _ => false)) (ef := (fun _ => false)) (by kernel_rfl) (fun _ h => h.drew) ?_
 refine xmv Z Z Z <| xnc Z Z Z <| xfa Z Z Z f193_4 <| xld Z Z Z o3 .z Z <| xmv Z Z Z <| xnc Z Z Z <| xfa Z Z Z f193_5 <| xld Z Z Z o3 .z Z <| xcm Z Z Z Z Z Z <| X.nil <| T.cond Z ?_ ?_
 ·intro hb0
  refine T.seq <| tx [0,1,2] nf Z Z <| xmv Z Z Z <| xmf Z Z Z Z <| xas Z Z Z <| X.nil <| T.ret1 Z (fun W D h => ?_)
  rw [show ndF v la = 201 by unfold ndF; rw [show decide (v ≤ la) = true from hb0]; rfl]
  exact ⟨D, ⟨rfl, rfl, h⟩, fun _ hk => hk⟩
 ·intro hb0
  refine T.skip <| T.seq <| tx [0,1,2] nf Z Z <| xmv Z Z Z <| xmf Z Z Z Z <| xas Z Z Z <| X.nil <| T.ret1 Z (fun W D h => ?_)
  rw [show ndF v la = 202 by unfold ndF; rw [show decide (v ≤ la) = false from hb0]; rfl]
  exact ⟨D, ⟨rfl, rfl, h⟩, fun _ hk => hk⟩
set_option maxHeartbeats 1000000 in
theorem ct_swOn {C : Cx} {l : Wds} {d : Nat} {Hx : List Bk} {R : Asr} (hl : Loc R) {a0 a1 a2 a3 a6 a7 a8 a9 a10 a11 a12 : Value} {v la : Int} (hv : 0 ≤ v ∧ v ≤ 1000) : Cv C 224 [ptr d] l (blks (⟨d, 193, [a0, a1, a2, a3, .int .i64 v, .int .i64 la, a6, a7, a8, a9, a10, a11, a12]⟩ :: Hx) R) (.tuple #[]) l (blks (⟨d, 193, [a0, a1, a2, a3, .int .i64 (v + 1), .int .i64 la, a6, a7, a8, a9, a10, a11, fm (ndF (v + 1) la) d]⟩ :: Hx) R) := by
 refine Ct.of Tryz.func224 rfl Tryz.ntmps224 (by simp) (loc_blks hl _) ?_
 intro w0 D0
 refine T.conv (fun w h => Sy.opens (H2 := _ :: Hx) h hl) <| T.seq <| tx [0,1,2,3,4,5,6,7] (ct [7]) Z Z <| xmv Z Z Z <| xnc Z Z Z <| xfa Z Z Z f193_4 <| xld Z Z Z o3 .z Z <| xarc (c := v + 1) Z Z Z Z Z (wrap64i (by simp only [ari]; omega)) <| xnc Z Z Z ?_
 refine xfa Z Z Z f193_4 <| xst Z Z Z Z o3 Z .z Z .z pend0 <| X.nil <| tx [0,1,2,3,4,5] (ct [5]) Z Z <| xmv Z Z Z <| xmv Z Z Z <| xcr (H1 := []) (H2 := _ :: _) Z Z Z Z g177 Z (ct_nodes hl) hl <| xnc Z Z Z <| xfa Z Z Z f193_8 ?_
 refine xst Z Z Z Z o130 Z .z Z .z pend0 <| X.nil <| T.end0 Z (fun W D h => ?_)
 exact ⟨D, ⟨rfl, rfl, h⟩, fun _ hk => hk⟩
set_option maxHeartbeats 1000000 in
theorem sw_look {C : Cx} {d : Nat} {m : Sw} {l : Wds} (hM : C.M.Ok) (hm : m.Ok) (hr : ∀ a, u64R (ld l a)) (hn : m.next = .look) : SwRun C d m l (m.step0 C.M l).1 (m.step0 C.M l).2 := by
 obtain ⟨cycle, w, part, v, last, push, event, nx⟩ := m
 obtain rfl : nx = .look := hn
 rintro pv nv RN ⟨rfl, rfl⟩
 refine ⟨111, [ptr d], [], rfl, g111, ?_⟩
 refine Ct.of (vs := [ptr d, ptr C.s]) Tryz.func111 rfl Tryz.ntmps111 (by simp) (loc_blks loc_emp _) ?_
 intro w0 D0
 refine T.conv (fun w h => Sy.opens (H2 := [_]) h loc_emp) <| T.seq <| tx [0,1,2,3,4,5,6,7,8,9,10] (ct [10]) Z Z <| xmv Z Z Z <| xmv Z Z Z <| xmv Z Z Z <| xnc Z Z Z <| xfa Z Z Z f193_0 <| xld Z Z Z o39 .z Z <| xcq Z Z Z Z g143 (ct_Sweep) loc_emp ?_
 refine xcq Z Z Z Z g32 (ct_Load loc_emp) loc_emp <| xnc Z Z Z <| xfa Z Z Z f193_2 <| xst Z Z Z Z o90 Z .z Z .z pend0 <| X.nil <| T.seq <| tx [0,1,2,3,4,5,6,7,8,9] nf Z Z <| xmv Z Z Z <| xnc Z Z Z <| xfa Z Z Z f193_2 <| xld Z Z Z o90 .z Z ?_
 refine xcq Z Z Z Z g144 (ct_Split loc_emp (hr _)) loc_emp <| xmv Z Z Z <| xex Z Z Z Z <| xex Z Z Z Z <| xas Z Z Z <| xas Z Z Z <| X.nil <| T.seq <| tx [0,1,2,3] (ct [3]) Z Z <| xmv Z Z Z <| xnc Z Z Z <| xfa Z Z Z f193_8 <| xst Z Z Z Z o130 Z .z Z .z pend0 ?_
 refine X.nil <| T.seq ?_
 by_cases hq : hi (ld l 2) = w32 cycle
 ·skip
  refine tx [0,1,2,3,4,5,6,7,8,9,10,11,12,13,14,15,16] nf Z Z <| xmv Z Z Z <| xmv Z Z Z <| xnc Z Z Z <| xfa Z Z Z f193_1 <| xld Z Z Z o90 .z Z <| xcvc Z Z Z u115_dIntu32 u90_fun_true (wrap32u _) <| xcm (c := true) Z Z Z Z Z (beq_iff_eq.2 hq) <| xmv Z Z Z ?_
  refine xmv Z Z Z <| xcvc Z Z Z u3_dInti64 u115_fun_true (wrap64i32 (lo_rng _)) <| xmv Z Z Z <| xnc Z Z Z <| xfa Z Z Z f193_0 <| xld Z Z Z o39 .z Z <| xcq Z Z Z Z g145 (ct_Parts) loc_emp <| xcm Z Z Z Z Z Z <| xpk Z Z Z Z <| X.nil <| T.cond Z ?_ ?_
  ·intro hb1
   refine tx [0,1,2,3,4,5] (ct [5]) Z Z <| xmv Z Z Z <| xmv Z Z Z <| xmf Z Z Z Z <| xnc Z Z Z <| xfa Z Z Z f193_8 <| xst Z Z Z Z o130 Z .z Z .z pend0 <| X.nil <| T.end0 Z (fun W D h => ?_)
   rw [show (⟨cycle, w, part, v, last, push, event, .look⟩ : Sw).step0 C.M l = _ from if_pos ⟨hq, of_decide_eq_true hb1⟩]
   exact ⟨D, ⟨rfl, rfl, _, _, _, ⟨rfl, rfl⟩, h⟩, fun _ hk => hk⟩
  ·intro hb1
   refine T.skip <| T.end0 Z (fun W D h => ?_)
   rw [show (⟨cycle, w, part, v, last, push, event, .look⟩ : Sw).step0 C.M l = _ from if_neg (fun h => of_decide_eq_false hb1 h.2)]
   exact ⟨D, ⟨rfl, rfl, _, _, _, ⟨rfl, rfl⟩, h⟩, fun _ hk => hk⟩
 ·skip
  refine tx [0,1,2,3,4,5,6,7,8,9,10,11,12,13,14,15,16] nf Z Z <| xmv Z Z Z <| xmv Z Z Z <| xnc Z Z Z <| xfa Z Z Z f193_1 <| xld Z Z Z o90 .z Z <| xcvc Z Z Z u115_dIntu32 u90_fun_true (wrap32u _) <| xcm (c := false) Z Z Z Z Z (beq_eq_false_iff_ne.2 hq) ?_
  refine xmv Z Z Z <| x_skip Z Z Z <| x_skip Z Z Z <| x_skip Z Z Z <| x_skip Z Z Z <| x_skip Z Z Z <| x_skip Z Z Z <| x_skip Z Z Z <| x_skip Z Z Z <| xpk Z Z Z Z <| X.nil <| T.no Z <| T.skip <| T.end0 Z (fun W D h => ?_)
  rw [show (⟨cycle, w, part, v, last, push, event, .look⟩ : Sw).step0 C.M l = _ from if_neg (fun h => hq h.1)]
  exact ⟨D, ⟨rfl, rfl, _, _, _, ⟨rfl, rfl⟩, h⟩, fun _ hk => hk⟩
set_option maxHeartbeats 1000000 in
theorem sw_take {C : Cx} {d : Nat} {m : Sw} {l : Wds} (hM : C.M.Ok) (hm : m.Ok) (hr : ∀ a, u64R (ld l a)) (hn : m.next = .take) : SwRun C d m l (m.step0 C.M l).1 (m.step0 C.M l).2 := by
 obtain ⟨cycle, w, part, v, last, push, event, nx⟩ := m
 obtain rfl : nx = .take := hn
 rintro pv nv RN ⟨rfl, rfl⟩
 refine ⟨146, [ptr d], [], rfl, g146, ?_⟩
 refine Ct.of (vs := [ptr d, ptr C.s]) Tryz.func146 rfl Tryz.ntmps146 (by simp) (loc_blks loc_emp _) ?_
 intro w0 D0
 refine T.conv (fun w h => Sy.opens (H2 := [_]) h loc_emp) <| T.seq <| tx [0,1,2,3,4,5,6,7,8,9] nf Z Z <| xmv Z Z Z <| xnc Z Z Z <| xfa Z Z Z f193_2 <| xld Z Z Z o90 .z Z <| xcq Z Z Z Z g144 (ct_Split loc_emp hm.w) loc_emp <| xmv Z Z Z <| xex Z Z Z Z ?_
 refine xex Z Z Z Z <| xas Z Z Z <| xas Z Z Z <| X.nil <| T.seq <| tx [0,1,2,3] (ct [3]) Z Z <| xmv Z Z Z <| xnc Z Z Z <| xfa Z Z Z f193_8 <| xst Z Z Z Z o130 Z .z Z .z pend0 <| X.nil <| T.seq ?_
 refine T.any (ord := [0, 1, 2, 3, 4, 5, 6, 7, 8, 9, 10, 11, 12, 13, 14]) (lo := (fun _ => false)) (ef := (fun i => [14].contains i)) (by kernel_rfl) (fun _ h => h.drew) <| xmv Z Z Z <| xmv Z Z Z <| xnc Z Z Z <| xfa Z Z Z f193_0 <| xld Z Z Z o39 .z Z ?_
 refine xcq Z Z Z Z g143 (ct_Sweep) loc_emp <| xmv Z Z Z <| xnc Z Z Z <| xfa Z Z Z f193_2 <| xld Z Z Z o90 .z Z <| xmv Z Z Z <| xmv Z Z Z <| xarc Z Z Z Z Z (wrap32u _) <| xcq Z Z Z Z g53 (ct_Pair (hi_rng hm.w) (w32_rng _)) loc_emp ?_
 refine xce Z Z Z Z g175 (ct_Swap loc_emp (pair_rng (hi_rng hm.w) (w32_rng _))) loc_emp pend0 <| X.nil <| T.cond Z ?_ ?_
 ·intro hb0
  refine T.seq <| tx [0,1,2,3,4,5] (ct [5]) Z Z <| xmv Z Z Z <| xmv Z Z Z <| xcvc Z Z Z u3_dInti64 u115_fun_true (wrap64i32 (lo_rng _)) <| xnc Z Z Z <| xfa Z Z Z f193_3 <| xst Z Z Z Z o3 Z .z Z .z pend0 <| X.nil <| T.seq ?_
  refine T.any (ord := [0, 1, 2, 3, 4, 5, 6, 7, 8, 9, 10, 11, 12, 13, 14, 15, 16, 17, 18, 19]) (lo := (fun i => [1, 13].contains i)) (ef := (fun i => [16, 19].contains i)) (by kernel_rfl) (fun _ h => h.drew) <| xmv Z Z Z <| xmv Z Z Z <| xmv Z Z Z ?_
  refine xnc Z Z Z <| xfa Z Z Z f193_0 <| xld Z Z Z o39 .z Z <| xmv Z Z Z <| xnc Z Z Z <| xfa Z Z Z f193_3 <| xld Z Z Z o3 .z Z <| xcq Z Z Z Z g176 (ct_Part loc_emp hM) loc_emp <| xmv Z Z Z <| xex Z Z Z Z <| xex Z Z Z Z <| xnc Z Z Z <| xfa Z Z Z f193_4 ?_
  refine xst Z Z Z Z o3 Z .z Z .z (pxex Z Z Z (pendmv Z Z pend0)) <| xnc Z Z Z <| xfa Z Z Z f193_5 <| xst Z Z Z Z o3 Z .z Z .z (pendsk (by kernel_rfl) (pendsk (by kernel_rfl) pend0)) <| X.nil <| tx [0,1,2,3,4,5] (ct [5]) Z Z <| xmv Z Z Z <| xmv Z Z Z ?_
  refine xcr (H1 := []) (H2 := _ :: _) Z Z Z Z g177 Z (ct_nodes loc_emp) loc_emp <| xnc Z Z Z <| xfa Z Z Z f193_8 <| xst Z Z Z Z o130 Z .z Z .z pend0 <| X.nil <| T.end0 Z (fun W D h => ?_)
  rw [show (⟨cycle, w, part, v, last, push, event, .take⟩ : Sw).step0 C.M l = _ from if_pos hb0]
  exact ⟨D, ⟨rfl, rfl, _, _, _, nx_nodes rfl, h⟩, fun _ hk => hk⟩
 ·intro hb0
  refine T.skip <| T.end0 Z (fun W D h => ?_)
  rw [show (⟨cycle, w, part, v, last, push, event, .take⟩ : Sw).step0 C.M l = _ from if_neg (by rw [hb0]; exact Bool.false_ne_true)]
  exact ⟨D, ⟨rfl, rfl, _, _, _, ⟨rfl, rfl⟩, h⟩, fun _ hk => hk⟩
set_option maxHeartbeats 1000000 in
theorem sw_state {C : Cx} {d : Nat} {m : Sw} {l : Wds} (hM : C.M.Ok) (hm : m.Ok) (hr : ∀ a, u64R (ld l a)) (hn : m.next = .state) : SwRun C d m l (m.step0 C.M l).1 (m.step0 C.M l).2 := by
 obtain ⟨cycle, w, part, v, last, push, event, nx⟩ := m
 obtain rfl : nx = .state := hn
 have hv : 0 ≤ v ∧ v ≤ 1000 := by have h1 : v ≤ last := hm.vl (by simp); have h2 : last ≤ 60 := hm.last; have h3 : 0 ≤ v := hm.v.1; omega
 rintro pv nv RN ⟨rfl, rfl⟩
 refine ⟨201, [ptr d], [], rfl, g201, ?_⟩
 refine Ct.of (vs := [ptr d, ptr C.s]) Tryz.func201 rfl Tryz.ntmps201 (by simp) (loc_blks loc_emp _) ?_
 intro w0 D0
 refine T.conv (fun w h => Sy.opens (H2 := [_]) h loc_emp) <| T.seq <| T.seq <| T.any (ord := [0, 1, 2, 3, 4, 5, 6, 7, 8, 9, 10, 11]) (lo := (fun _ => false)) (ef := (fun _ => false)) (by kernel_rfl) (fun _ h => h.drew) <| xmv Z Z Z <| xmv Z Z Z ?_
 refine xnc Z Z Z <| xfa Z Z Z f193_0 <| xld Z Z Z o39 .z Z <| xmv Z Z Z <| xnc Z Z Z <| xfa Z Z Z f193_4 <| xld Z Z Z o3 .z Z <| xcq Z Z Z Z g33 (ct_State) loc_emp <| xcq Z Z Z Z g32 (ct_Load loc_emp) loc_emp <| xcm Z Z Z Z Z Z <| X.nil <| T.cond Z ?_ ?_
 ·intro hb0
  refine T.seq <| tx [0,1,2,3,4,5] (ct [5]) Z Z <| xmv Z Z Z <| xmv Z Z Z <| xmf Z Z Z Z <| xnc Z Z Z <| xfa Z Z Z f193_8 <| xst Z Z Z Z o130 Z .z Z .z pend0 <| X.nil <| T.ret0 Z (fun W D h => ?_)
  rw [show (⟨cycle, w, part, v, last, push, event, .state⟩ : Sw).step0 C.M l = _ from if_pos (eq_of_beq hb0)]
  exact ⟨D, ⟨rfl, rfl, _, _, _, ⟨rfl, rfl⟩, h⟩, fun _ hk => hk⟩
 ·intro hb0
  refine T.skip <| tx [0,1] (ct [1]) Z Z <| xmv Z Z Z <| xcb (H1 := []) (H2 := _ :: _) (H2' := _ :: _) Z Z Z Z g224 Z (ct_swOn loc_emp hv) loc_emp Z pend0 <| X.nil <| T.end0 Z (fun W D h => ?_)
  rw [show (⟨cycle, w, part, v, last, push, event, .state⟩ : Sw).step0 C.M l = _ from if_neg (ne_of_beq_false hb0)]
  exact ⟨D, ⟨rfl, rfl, _, _, _, nx_nodes rfl, h⟩, fun _ hk => hk⟩
set_option maxHeartbeats 1000000 in
theorem sw_mark {C : Cx} {d : Nat} {m : Sw} {l : Wds} (hM : C.M.Ok) (hm : m.Ok) (hr : ∀ a, u64R (ld l a)) (hn : m.next = .mark) : SwRun C d m l (m.step0 C.M l).1 (m.step0 C.M l).2 := by
 obtain ⟨cycle, w, part, v, last, push, event, nx⟩ := m
 obtain rfl : nx = .mark := hn
 have hv : 0 ≤ v ∧ v ≤ 1000 := by have h1 : v ≤ last := hm.vl (by simp); have h2 : last ≤ 60 := hm.last; have h3 : 0 ≤ v := hm.v.1; omega
 rintro pv nv RN ⟨rfl, rfl⟩
 refine ⟨223, [ptr d], [], rfl, g223, ?_⟩
 refine Ct.of (vs := [ptr d, ptr C.s]) Tryz.func223 rfl Tryz.ntmps223 (by simp) (loc_blks loc_emp _) ?_
 intro w0 D0
 refine T.conv (fun w h => Sy.opens (H2 := [_]) h loc_emp) <| T.seq <| T.seq <| T.any (ord := [0, 1, 2, 3, 4, 5, 6, 7, 8, 9, 10, 11, 12, 13, 14, 15]) (lo := (fun _ => false)) (ef := (fun _ => false)) (by kernel_rfl) (fun _ h => h.drew) <| xmv Z Z Z ?_
 refine xmv Z Z Z <| xnc Z Z Z <| xfa Z Z Z f193_0 <| xld Z Z Z o39 .z Z <| xmv Z Z Z <| xnc Z Z Z <| xfa Z Z Z f193_4 <| xld Z Z Z o3 .z Z <| xcq Z Z Z Z g240 (ct_Mark) loc_emp <| xcq Z Z Z Z g32 (ct_Load loc_emp) loc_emp <| xmv Z Z Z <| xnc Z Z Z ?_
 refine xfa Z Z Z f193_1 <| xld Z Z Z o90 .z Z <| xcm Z Z Z Z Z Z <| X.nil <| T.cond Z ?_ ?_
 ·intro hb0
  refine T.seq <| tx [0,1,2,3,4,5] (ct [5]) Z Z <| xmv Z Z Z <| xmv Z Z Z <| xmf Z Z Z Z <| xnc Z Z Z <| xfa Z Z Z f193_8 <| xst Z Z Z Z o130 Z .z Z .z pend0 <| X.nil <| T.ret0 Z (fun W D h => ?_)
  rw [show (⟨cycle, w, part, v, last, push, event, .mark⟩ : Sw).step0 C.M l = _ from if_pos (of_decide_eq_true hb0)]
  exact ⟨D, ⟨rfl, rfl, _, _, _, ⟨rfl, rfl⟩, h⟩, fun _ hk => hk⟩
 ·intro hb0
  refine T.skip <| tx [0,1] (ct [1]) Z Z <| xmv Z Z Z <| xcb (H1 := []) (H2 := _ :: _) (H2' := _ :: _) Z Z Z Z g224 Z (ct_swOn loc_emp hv) loc_emp Z pend0 <| X.nil <| T.end0 Z (fun W D h => ?_)
  rw [show (⟨cycle, w, part, v, last, push, event, .mark⟩ : Sw).step0 C.M l = _ from if_neg (of_decide_eq_false hb0)]
  exact ⟨D, ⟨rfl, rfl, _, _, _, nx_nodes rfl, h⟩, fun _ hk => hk⟩
set_option maxHeartbeats 1000000 in
theorem sw_free {C : Cx} {d : Nat} {m : Sw} {l : Wds} (hM : C.M.Ok) (hm : m.Ok) (hr : ∀ a, u64R (ld l a)) (hn : m.next = .free) : SwRun C d m l (m.step0 C.M l).1 (m.step0 C.M l).2 := by
 obtain ⟨cycle, w, part, v, last, push, event, nx⟩ := m
 obtain rfl : nx = .free := hn
 have hv : 0 ≤ v ∧ v ≤ 1000 := by have h1 : v ≤ last := hm.vl (by simp); have h2 : last ≤ 60 := hm.last; have h3 : 0 ≤ v := hm.v.1; omega
 rintro pv nv RN ⟨rfl, rfl⟩
 refine ⟨241, [ptr d], [], rfl, g241, ?_⟩
 refine Ct.of (vs := [ptr d, ptr C.s]) Tryz.func241 rfl Tryz.ntmps241 (by simp) (loc_blks loc_emp _) ?_
 intro w0 D0
 refine T.conv (fun w h => Sy.opens (H2 := [_]) h loc_emp) <| T.seq <| T.any (ord := [0, 1, 2, 3, 4, 5, 6, 7, 8, 9, 10]) (lo := (fun _ => false)) (ef := (fun i => [10].contains i)) (by kernel_rfl) (fun _ h => h.drew) <| xmv Z Z Z <| xmv Z Z Z <| xnc Z Z Z ?_
 refine xfa Z Z Z f193_0 <| xld Z Z Z o39 .z Z <| xmv Z Z Z <| xnc Z Z Z <| xfa Z Z Z f193_4 <| xld Z Z Z o3 .z Z <| xcq Z Z Z Z g33 (ct_State) loc_emp <| xce Z Z Z Z g148 (ct_Put loc_emp (by omega)) loc_emp pend0 <| X.nil <| T.seq ?_
 refine tx [0,1,2,3,4,5,6,7,8] (ct [8]) Z Z <| xmv Z Z Z <| xmv Z Z Z <| xnc Z Z Z <| xfa Z Z Z f193_4 <| xld Z Z Z o3 .z Z <| xbd Z Z Z l33 z33 Z <| xnc Z Z Z <| xfa Z Z Z f193_7 <| xsta Z Z Z Z m33 Z Z .z (Nat.le_of_ble_eq_true Z) .z pend0 <| X.nil ?_
 refine T.seq <| T.any (ord := [0, 1, 2, 3, 4, 5, 6, 7, 8, 9, 10, 11, 12, 13, 14, 15, 16, 17, 18, 19, 20, 21, 22, 23, 24, 25, 26, 27]) (lo := (fun i => [0].contains i)) (ef := (fun i => [24, 27].contains i)) (by kernel_rfl) (fun _ h => h.drew) <| xmv Z Z Z ?_
 refine xmv Z Z Z <| xnc Z Z Z <| xfa Z Z Z f193_0 <| xld Z Z Z o39 .z Z <| xmv Z Z Z <| xnc Z Z Z <| xfa Z Z Z f193_0 <| xld Z Z Z o39 .z Z <| xmv Z Z Z <| xnc Z Z Z <| xfa Z Z Z f193_4 <| xld Z Z Z o3 .z Z ?_
 refine xcq Z Z Z Z g37 (ct_Class loc_emp hM (show v ≤ 9223372036854775807 by omega)) loc_emp <| xcq Z Z Z Z g35 (ct_Head) loc_emp <| xmv Z Z Z <| xnc Z Z Z <| xfa Z Z Z f193_0 <| xld Z Z Z o39 .z Z <| xmf Z Z Z Z <| xmv Z Z Z <| xnc Z Z Z ?_
 refine xfa Z Z Z f193_4 <| xld Z Z Z o3 .z Z <| xcn Z Z Z Z g187 (ct_stPush (node := true) (show u32R v by unfold u32R; omega)) (fun _ => loc_StR) (fun _ => (pendmv Z Z pend0)) (fun q0 => ?_)
 refine xnc Z Z Z <| xfa Z Z Z f193_6 <| xst Z Z Z Z o191 Z .z Z .z (pendsk (by kernel_rfl) pend0) <| X.nil <| tx [0,1,2,3,4,5] (ct [5]) Z Z <| xmv Z Z Z <| xmv Z Z Z <| xmf Z Z Z Z <| xnc Z Z Z <| xfa Z Z Z f193_8 <| xst Z Z Z Z o130 Z .z Z .z pend0 ?_
 refine X.nil <| T.end0 Z (fun W D h => ?_)
 exact ⟨D, ⟨rfl, rfl, _, _, _, ⟨rfl, _, rfl, rfl⟩, h⟩, fun _ hk => hk⟩
set_option maxHeartbeats 1000000 in
theorem sw_list {C : Cx} {d : Nat} {m : Sw} {l : Wds} (hM : C.M.Ok) (hm : m.Ok) (hr : ∀ a, u64R (ld l a)) (hn : m.next = .list) : SwRun C d m l (m.step0 C.M l).1 (m.step0 C.M l).2 := by
 obtain ⟨cycle, w, part, v, last, push, event, nx⟩ := m
 obtain rfl : nx = .list := hn
 have hv : 0 ≤ v ∧ v ≤ 1000 := by have h1 : v ≤ last := hm.vl (by simp); have h2 : last ≤ 60 := hm.last; have h3 : 0 ≤ v := hm.v.1; omega
 rintro pv nv RN ⟨rfl, q, rfl, rfl⟩
 refine ⟨252, [ptr d], [], rfl, g252, ?_⟩
 refine Ct.of (vs := [ptr d, ptr C.s]) Tryz.func252 rfl Tryz.ntmps252 (by simp) (loc_blks loc_StR _) ?_
 intro w0 D0
 refine T.conv (fun w h => Sy.opens (H2 := [_]) h loc_StR) <| T.seq <| tx [0,1,2,3,4,5] (ct [5]) Z Z <| xmv Z Z Z <| xnc Z Z Z <| xfa Z Z Z f193_6 <| xld Z Z Z o191 .z Z <| xmv Z Z Z <| xce Z Z Z Z g260 (ct_stStep hm.push hr) loc_StR pend0 <| X.nil ?_
 refine T.cond Z ?_ ?_
 ·intro hb0
  refine tx [0,1] (ct [1]) Z Z <| xmv Z Z Z <| xcb (H1 := []) (H2 := _ :: _) (H2' := _ :: _) Z Z Z Z g224 Z (ct_swOn loc_StR hv) loc_StR Z pend0 <| X.nil <| T.end0 Z (fun W D h => ?_)
  rw [show (⟨cycle, w, part, v, last, push, event, .list⟩ : Sw).step0 C.M l = _ from if_pos (of_decide_eq_true hb0)]
  obtain ⟨D1, h1, h2⟩ := blks_drop h
  exact ⟨D1, ⟨rfl, rfl, _, _, _, nx_nodes rfl, h1⟩, h2⟩
 ·intro hb0
  refine T.skip <| T.end0 Z (fun W D h => ?_)
  rw [show (⟨cycle, w, part, v, last, push, event, .list⟩ : Sw).step0 C.M l = _ from if_neg (of_decide_eq_false hb0)]
  exact ⟨D, ⟨rfl, rfl, _, _, _, ⟨rfl, _, rfl, rfl⟩, h⟩, fun _ hk => hk⟩
set_option maxHeartbeats 1000000 in
theorem sw_done {C : Cx} {d : Nat} {m : Sw} {l : Wds} (hM : C.M.Ok) (hm : m.Ok) (hr : ∀ a, u64R (ld l a)) (hn : m.next = .done) : SwRun C d m l (m.step0 C.M l).1 (m.step0 C.M l).2 := by
 obtain ⟨cycle, w, part, v, last, push, event, nx⟩ := m
 obtain rfl : nx = .done := hn
 rintro pv nv RN ⟨rfl, rfl⟩
 refine ⟨202, [ptr d], [], rfl, g202, ?_⟩
 refine Ct.of (vs := [ptr d, ptr C.s]) Tryz.func202 rfl Tryz.ntmps202 (by simp) (loc_blks loc_emp _) ?_
 intro w0 D0
 refine T.conv (fun w h => Sy.opens (H2 := [_]) h loc_emp) <| T.seq <| tx [0,1,2,3,4,5,6] (ct [6]) Z Z <| xmv Z Z Z <| xmv Z Z Z <| xnc Z Z Z <| xfa Z Z Z f193_0 <| xld Z Z Z o39 .z Z <| xcq Z Z Z Z g166 (ct_Done) loc_emp ?_
 refine xce Z Z Z Z g221 (ct_Add loc_emp) loc_emp pend0 <| X.nil <| T.seq <| tx [0,1,2,3,4,5,6,7,8] (ct [8]) Z Z <| xmv Z Z Z <| xmv Z Z Z <| xnc Z Z Z <| xfa Z Z Z f193_3 <| xld Z Z Z o3 .z Z <| xbd Z Z Z l33 z33 Z <| xnc Z Z Z <| xfa Z Z Z f193_7 ?_
 refine xsta Z Z Z Z m33 Z Z .z (Nat.le_of_ble_eq_true Z) .z pend0 <| X.nil <| tx [0,1,2,3] (ct [3]) Z Z <| xmv Z Z Z <| xnc Z Z Z <| xfa Z Z Z f193_8 <| xst Z Z Z Z o130 Z .z Z .z pend0 <| X.nil <| T.end0 Z (fun W D h => ?_)
 exact ⟨D, ⟨rfl, rfl, _, _, _, ⟨rfl, rfl⟩, h⟩, fun _ hk => hk⟩
theorem sw_run {C : Cx} {d : Nat} {m : Sw} {l : Wds} (hM : C.M.Ok) (hm : m.Ok) (hr : ∀ a, u64R (ld l a)) (hn : m.next ≠ .nil) : SwRun C d m l (m.step0 C.M l).1 (m.step0 C.M l).2 := by
 cases h : m.next with
 | nil => exact (hn h).elim
 | look => exact sw_look hM hm hr h
 | take => exact sw_take hM hm hr h
 | state => exact sw_state hM hm hr h
 | mark => exact sw_mark hM hm hr h
 | free => exact sw_free hM hm hr h
 | list => exact sw_list hM hm hr h
 | done => exact sw_done hM hm hr h
theorem Sw.noev_ok {m : Sw} (hm : m.Ok) : ({ m with event := ev0 } : Sw).Ok := ⟨hm.cycle, hm.w, hm.v, hm.last, hm.push, hm.vl⟩
theorem ct_swStep {C : Cx} {d : Nat} {m : Sw} {l : Wds} (hM : C.M.Ok) (hm : m.Ok) (hr : ∀ a, u64R (ld l a)) : Cv C 289 [ptr d, ptr C.s] l (SwR C d m) (.bool (decide ((m.step C.M l).1.next = .nil))) (m.step C.M l).2 (SwR C d (m.step C.M l).1) := by
 by_cases hn : m.next = .nil
 ·have e : m.step C.M l = ({ m with event := ev0 }, l) := by unfold Sw.step Sw.step0; rw [show ({ m with event := ev0 } : Sw).next = .nil from hn]
  rw [e, show decide (({ m with event := ev0 } : Sw).next = .nil) = true from decide_eq_true hn]
  exact sw_Nil hn
 ·exact sw_Step (sw_run hM (Sw.noev_ok hm) hr hn)
theorem Sw.on_ok {m : Sw} (h : m.Ok) (hv : m.v ≤ m.last) : (m.on).Ok := by
 have h1 := h.last
 have h2 := h.v
 refine ⟨h.cycle, h.w, by simp only [Sw.on]; omega, h.last, h.push, fun hx => ?_⟩
 simp only [Sw.on] at hx ⊢
 split at hx
 ·assumption
 ·simp at hx
theorem St.push_ok {h : Int} {n : Bool} {v : Int} (hv : u32R v) : (St.push h n v).Ok := ⟨hv, by unfold u64R; simp [St.push], by unfold u32R; simp [St.push]⟩
theorem Sw.step_ok {M : MapM} (hM : M.Ok) {m : Sw} {l : Wds} (hm : m.Ok) (hr : ∀ a, u64R (ld l a)) : (m.step M l).1.Ok := by
 have h1 := St.step_ok (M := M) hm.push hr
 unfold Sw.step Sw.step0
 split
 ·exact Sw.noev_ok hm
 ·split <;> exact ⟨hm.cycle, hr _, hm.v, hm.last, hm.push, by simp⟩
 ·split
  ·refine ⟨hm.cycle, hm.w, partA_rng hM _, partB_le hM _, hm.push, fun hx => ?_⟩
   simp only at hx ⊢
   split at hx
   ·assumption
   ·simp at hx
  ·exact ⟨hm.cycle, hm.w, hm.v, hm.last, hm.push, by simp⟩
 ·rename_i hn
  have hv := hm.vl (.inl hn)
  split
  ·exact ⟨hm.cycle, hm.w, hm.v, hm.last, hm.push, fun _ => hv⟩
  ·exact Sw.on_ok (Sw.noev_ok hm) hv
 ·rename_i hn
  have hv := hm.vl (.inr (.inl hn))
  split
  ·exact ⟨hm.cycle, hm.w, hm.v, hm.last, hm.push, fun _ => hv⟩
  ·exact Sw.on_ok (Sw.noev_ok hm) hv
 ·rename_i hn
  have hv := hm.vl (.inr (.inr (.inl hn)))
  have h2 := hm.last
  have h3 := hm.v
  exact ⟨hm.cycle, hm.w, hm.v, hm.last, St.push_ok (by unfold u32R; simp only; omega), fun _ => hv⟩
 ·rename_i hn
  have hv := hm.vl (.inr (.inr (.inr hn)))
  split
  ·exact Sw.on_ok (m := { m with event := ev0, push := (m.push.step M l).1 }) ⟨hm.cycle, hm.w, hm.v, hm.last, h1, fun _ => hv⟩ hv
  ·exact ⟨hm.cycle, hm.w, hm.v, hm.last, h1, fun _ => hv⟩
 ·exact ⟨hm.cycle, hm.w, hm.v, hm.last, hm.push, by simp⟩
theorem Sw.step_rng {M : MapM} {m : Sw} {l : Wds} (hm : m.Ok) (hr : Rng l) : Rng (m.step M l).2 := by
 have h1 := St.step_rng (M := M) hm.push hr
 unfold Sw.step Sw.step0
 split <;> (try split) <;> first | exact hr | exact hr.fad | exact h1 | exact hr.cas (pair_rng (hi_rng hm.w) (w32_rng _)) | exact hr.put (by unfold u64R; omega)
set_option maxHeartbeats 1000000 in
theorem ct_swNew {C : Cx} {l : Wds} {c : Int} : Cn C 88 [ptr C.m, .int .u64 c] l emp l (fun q => SwR C q (.new c)) := by
 refine Ct.of Tryz.func88 rfl Tryz.ntmps88 (by simp) loc_emp ?_
 intro w0 D0
 refine T.seq <| tx [0] nf Z Z <| xas Z Z Z <| X.nil <| T.seq <| tx [0,1,2,3,4] (ct [3]) Z Z <| xmv Z Z Z <| xmv Z Z Z <| xbd Z Z Z l193 z193 Z <| xbx Z Z Z Z (fun _ => pend0) (fun b0 => ?_)
 refine xas Z Z Z <| X.nil <| T.seq <| T.seq <| tx [0,1] nf Z Z <| xmv Z Z Z <| xnpn Z Z Z Z u39_dPtr <| X.nil <| T.yes Z <| tx [0,1,2,3,4,5] (ct [5]) Z Z <| xmv Z Z Z <| xmv Z Z Z <| xmf Z Z Z Z <| xnc Z Z Z <| xfa Z Z Z f193_8 ?_
 refine xst Z Z Z Z o130 Z .z Z .z pend0 <| X.nil <| T.seq <| tx [0,1] nf Z Z <| xmv Z Z Z <| xas Z Z Z <| X.nil <| T.ret1 Z (fun W D h => ?_)
 exact ⟨D, ⟨_, rfl, rfl, _, _, _, ⟨rfl, rfl⟩, h⟩, fun _ hk => hk⟩
theorem Sw.new_ok {c : Int} (h : u64R c) : (Sw.new c).Ok := ⟨h, by unfold u64R; simp [Sw.new], by simp [Sw.new], by simp [Sw.new], ⟨by unfold u32R; simp [Sw.new, st0], by unfold u64R; simp [Sw.new, st0], by unfold u32R; simp [Sw.new, st0]⟩, by simp [Sw.new]⟩
def Mk.cs (C : Cx) (x : Mk) (dv sv wv nv : Value) : List Value :=
 [ptr C.m, .int .i64 x.i, dv, sv, wv, .int .i64 x.bag.packet, .int .i64 x.bag.at_, .int .i64 x.bag.many, .int .u64 x.task, .bool x.has, .int .i64 x.event.kind, .int .i64 x.event.who, .int .i64 x.event.a, .int .i64 x.event.b, .int .i64 x.event.c, nv]
def MkNx (C : Cx) (d : Nat) (x : Mk) (dv sv wv nv : Value) (RN : Asr) : Prop := match x.next with
 | .look => nv = fm 58 d ∧ RN = emp
 | .seeks => nv = fm 87 d ∧ ∃ q, sv = ptr q ∧ RN = SkR C q x.seek
 | .wait => nv = fm 110 d ∧ RN = emp
 | .scans => nv = fm 89 d ∧ ∃ q, wv = .iface 208 (ptr q) ∧ RN = ScR C q x.scan
 | .sweeps => nv = fm 89 d ∧ ∃ q, wv = .iface 163 (ptr q) ∧ RN = SwR C q x.sweep
theorem loc_MkNx {C : Cx} {d : Nat} {m : Mk} {dv sv wv : Value} (nv : Value) (RN : Asr) (h : MkNx C d m dv sv wv nv RN) : Loc RN := by
 unfold MkNx at h
 split at h <;> first
  | (obtain ⟨-, rfl⟩ := h; exact loc_emp)
  | (obtain ⟨-, q, -, rfl⟩ := h; first | exact loc_SkR | exact loc_ScR | exact loc_SwR)
structure Mk.Ok (M : MapM) (m : Mk) : Prop where
 i : 0 ≤ m.i ∧ m.i < M.markers
 seek : m.seek.Ok M
 scan : m.scan.Ok M
 sweep : m.sweep.Ok
 packet : u32R m.bag.packet
 task : u64R m.task
theorem nx_look {C : Cx} {d : Nat} {x : Mk} {dv sv wv : Value} (h : x.next = .look) : MkNx C d x dv sv wv (fm 58 d) emp := by unfold MkNx; rw [h]; exact ⟨rfl, rfl⟩
theorem nx_wait {C : Cx} {d : Nat} {x : Mk} {dv sv wv : Value} (h : x.next = .wait) : MkNx C d x dv sv wv (fm 110 d) emp := by unfold MkNx; rw [h]; exact ⟨rfl, rfl⟩
theorem mth_sc (q : Nat) (w : World) : (method (Tryz.prog.types.size + Made.depth) 208 (ptr q) "Step").run Tryz.prog w = .ok (291, ptr q) w := by kernel_rfl
theorem mth_sce (q : Nat) (w : World) : (method (Tryz.prog.types.size + Made.depth) 208 (ptr q) "Event").run Tryz.prog w = .ok (290, ptr q) w := by kernel_rfl
theorem mth_sw (q : Nat) (w : World) : (method (Tryz.prog.types.size + Made.depth) 163 (ptr q) "Step").run Tryz.prog w = .ok (289, ptr q) w := by kernel_rfl
theorem mth_swe (q : Nat) (w : World) : (method (Tryz.prog.types.size + Made.depth) 163 (ptr q) "Event").run Tryz.prog w = .ok (288, ptr q) w := by kernel_rfl
def MkR (C : Cx) (d : Nat) (m : Mk) : Asr := fun D w => ∃ dv : Value, ∃ sv : Value, ∃ wv : Value, Mch 125 d (m.cs C dv sv wv) (MkNx C d m dv sv wv) D w
theorem loc_MkR {C : Cx} {d : Nat} {m : Mk} : Loc (MkR C d m) := loc_ex fun _ => loc_ex fun _ => loc_ex fun _ => loc_Mch loc_MkNx
def MkRun (C : Cx) (d : Nat) (m : Mk) (dr : Int) (l : Wds) (m' : Mk) (l' : Wds) : Prop := ∀ (dv : Value) (sv : Value) (wv : Value) nv RN, MkNx C d m dv sv wv nv RN → ∃ fid fs cs, nv = .func (.func fid) (List.toArray fs) (List.toArray cs) ∧ fnB fid = true ∧ Cv C fid (fs ++ [ptr C.s, .int .i64 dr] ++ cs) l (blks [⟨d, 125, m.cs C dv sv wv nv⟩] RN) (.tuple #[]) l' (MkR C d m')
theorem f125_0 : fld 125 0 0 = true := by kernel_rfl
theorem f125_1 : fld 125 1 1 = true := by kernel_rfl
theorem f125_2 : fld 125 2 2 = true := by kernel_rfl
theorem f125_3 : fld 125 3 3 = true := by kernel_rfl
theorem f125_4 : fld 125 4 4 = true := by kernel_rfl
theorem f125_5 : fld 125 5 5 = true := by kernel_rfl
theorem f125_6 : fld 125 6 8 = true := by kernel_rfl
theorem f125_7 : fld 125 7 9 = true := by kernel_rfl
theorem f125_8 : fld 125 8 10 = true := by kernel_rfl
theorem f125_9 : fld 125 9 15 = true := by kernel_rfl
theorem g107 : fnB 107 = true := by kernel_rfl
theorem g108 : fnB 108 = true := by kernel_rfl
theorem g109 : fnB 109 = true := by kernel_rfl
theorem g110 : fnB 110 = true := by kernel_rfl
theorem g142 : fnB 142 = true := by kernel_rfl
theorem g288 : fnB 288 = true := by kernel_rfl
theorem g289 : fnB 289 = true := by kernel_rfl
theorem g290 : fnB 290 = true := by kernel_rfl
theorem g291 : fnB 291 = true := by kernel_rfl
theorem g58 : fnB 58 = true := by kernel_rfl
theorem g82 : fnB 82 = true := by kernel_rfl
theorem g83 : fnB 83 = true := by kernel_rfl
theorem g84 : fnB 84 = true := by kernel_rfl
theorem g85 : fnB 85 = true := by kernel_rfl
theorem g86 : fnB 86 = true := by kernel_rfl
theorem g87 : fnB 87 = true := by kernel_rfl
theorem g88 : fnB 88 = true := by kernel_rfl
theorem g89 : fnB 89 = true := by kernel_rfl
theorem l125 : layB 125 [(0, 1), (1, 1), (2, 1), (3, 1), (4, 1), (5, 3), (8, 1), (9, 1), (10, 5), (15, 1)] = true := by kernel_rfl
theorem o118 : one 118 = true := by kernel_rfl
theorem o120 : one 120 = true := by kernel_rfl
theorem o123 : one 123 = true := by kernel_rfl
theorem u123_dFun : undIs 123 (dFun) = true := by kernel_rfl
theorem u163_dNoIface : undIs 163 (dNoIface) = true := by kernel_rfl
theorem u208_dNoIface : undIs 208 (dNoIface) = true := by kernel_rfl
theorem u81_dPtr : undIs 81 (dPtr) = true := by kernel_rfl
theorem z125 : zer 125 = some [.pointer none, .int .i64 0, .int .i64 0, .pointer none, .nilIface, .int .i64 0, .int .i64 0, .int .i64 0, .int .u64 0, .bool false, .int .i64 0, .int .i64 0, .int .i64 0, .int .i64 0, .int .i64 0, .nilFunc] := by kernel_rfl
theorem ct_marks0 {C : Cx} {l : Wds} {p : Int} : Cv C 84 [.int .i64 p] l emp (.bool (decide (p = 3 ∨ p = 4))) l emp := by
 refine Ct.of Tryz.func84 rfl Tryz.ntmps84 (by simp) loc_emp ?_
 intro w0 D0
 refine T.seq <| tx [0] nf Z Z <| xas Z Z Z <| X.nil <| T.seq ?_
 by_cases hq : p = 3
 ·skip
  refine tx [0,1,2,3,4,5,6] nf Z Z <| xmv Z Z Z <| xcm (c := true) Z Z Z Z Z (beq_iff_eq.2 hq) <| xmv Z Z Z <| x_skip Z Z Z <| x_skip Z Z Z <| xpk Z Z Z Z <| xas Z Z Z <| X.nil <| T.ret1 Z (fun W D h => ?_)
  rw [show decide (p = 3 ∨ p = 4) = true by simp [hq]]
  exact ⟨D, ⟨rfl, rfl, h⟩, fun _ hk => hk⟩
 ·skip
  refine tx [0,1,2,3,4,5,6] nf Z Z <| xmv Z Z Z <| xcm (c := false) Z Z Z Z Z (beq_eq_false_iff_ne.2 hq) <| xmv Z Z Z <| xmv Z Z Z <| xcm (c := decide (p = 4)) Z Z Z Z Z (by simp only [cmpI]; rfl) <| xpk Z Z Z Z <| xas Z Z Z <| X.nil ?_
  refine T.ret1 Z (fun W D h => ?_)
  rw [show decide (p = 3 ∨ p = 4) = decide (p = 4) by simp [hq]]
  exact ⟨D, ⟨rfl, rfl, h⟩, fun _ hk => hk⟩
set_option maxHeartbeats 1000000 in
theorem ct_mkbegin {C : Cx} {l : Wds} {d : Nat} {Hx : List Bk} {R : Asr} (hl : Loc R) {a0 a1 a2 a3 a4 a5 a6 a7 a8 a9 a10 a11 a12 a13 a14 a15 : Value} {k : Int} {f : Fn} {p q : Array Value} : Cv C 86 [ptr d, .int .i64 k, .func f p q] l (blks (⟨d, 125, [a0, a1, a2, a3, a4, a5, a6, a7, a8, a9, a10, a11, a12, a13, a14, a15]⟩ :: Hx) R) (.tuple #[]) l (blks (⟨d, 125, [a0, a1, .int .i64 k, a3, a4, a5, a6, a7, a8, a9, a10, a11, a12, a13, a14, .func f p q]⟩ :: Hx) R) := by
 refine Ct.of Tryz.func86 rfl Tryz.ntmps86 (by simp) (loc_blks hl _) ?_
 intro w0 D0
 refine T.conv (fun w h => Sy.opens (H2 := _ :: Hx) h hl) <| tx [0,1,2,3,4,5,6,7,8,9] (ct [6,9]) Z Z <| xmv Z Z Z <| xmv Z Z Z <| xmv Z Z Z <| xmv Z Z Z <| xnc Z Z Z <| xfa Z Z Z f125_2 <| xst Z Z Z Z o3 Z .z Z .z pend0 <| xnc Z Z Z <| xfa Z Z Z f125_9 ?_
 refine xst Z Z Z Z o123 Z .z Z .z pend0 <| X.nil <| T.end0 Z (fun W D h => ?_)
 exact ⟨D, ⟨rfl, rfl, h⟩, fun _ hk => hk⟩
set_option maxHeartbeats 1000000 in
theorem mk_look {C : Cx} {d : Nat} {m : Mk} {dr : Int} {l : Wds} (hM : C.M.Ok) (hm : m.Ok C.M) (hr : ∀ a, u64R (ld l a)) (he : m.event = ev0) (hn : m.next = .look) : MkRun C d m dr l (m.step C.M l dr).1 (m.step C.M l dr).2 := by
 obtain ⟨i, seek, scan, sweep, ⟨bp, ba, bm⟩, task, has, event, nx⟩ := m
 obtain rfl : event = ev0 := he
 obtain rfl : nx = .look := hn
 rintro dv sv wv nv RN ⟨rfl, rfl⟩
 refine ⟨58, [ptr d], [], rfl, g58, ?_⟩
 refine Ct.of (vs := [ptr d, ptr C.s, .int .i64 dr]) Tryz.func58 rfl Tryz.ntmps58 (by simp) (loc_blks loc_emp _) ?_
 intro w0 D0
 refine T.conv (fun w h => Sy.opens (H2 := [_]) h loc_emp) <| T.seq <| tx [0,1,2,3,4,5,6,7,8,9,10,11,12] nf Z Z <| xmv Z Z Z <| xmv Z Z Z <| xnc Z Z Z <| xfa Z Z Z f125_0 <| xld Z Z Z o39 .z Z <| xcq Z Z Z Z g83 (ct_Phase) loc_emp ?_
 refine xcq Z Z Z Z g32 (ct_Load loc_emp) loc_emp <| xcq Z Z Z Z g82 (ct_Cycle loc_emp (hr _)) loc_emp <| xmv Z Z Z <| xex Z Z Z Z <| xex Z Z Z Z <| xas Z Z Z <| xas Z Z Z <| X.nil <| T.block <| T.seq <| tx [0,1,2] nf Z Z <| xmv Z Z Z ?_
 refine xcq Z Z Z Z g84 (Cv.frame loc_emp ct_marks0) loc_emp <| xas Z Z Z <| X.nil <| T.cond Z ?_ ?_
 ·intro hb0
  refine T.seq <| T.any (ord := [0, 1, 2, 3, 4, 5, 6, 7, 8, 9, 10, 11, 12, 13, 14, 15, 16, 17]) (lo := (fun i => [0].contains i)) (ef := (fun i => [14, 17].contains i)) (by kernel_rfl) (fun _ h => h.drew) <| xmv Z Z Z <| xmv Z Z Z <| xnc Z Z Z ?_
  refine xfa Z Z Z f125_0 <| xld Z Z Z o39 .z Z <| xmv Z Z Z <| xnc Z Z Z <| xfa Z Z Z f125_1 <| xld Z Z Z o3 .z Z <| xmv Z Z Z <| xnc Z Z Z <| xfa Z Z Z f125_5 <| xlda Z Z Z m122 .z Z <| xmv Z Z Z ?_
  refine xcn Z Z Z Z g85 (ct_skNew (b := ⟨bp, ba, bm⟩) hM hm.i) (fun _ => loc_SkR) (fun _ => (pendmv Z Z pend0)) (fun q0 => ?_)
  refine xnc Z Z Z <| xfa Z Z Z f125_3 <| xst Z Z Z Z o118 Z .z Z .z (pendsk (by kernel_rfl) pend0) <| X.nil <| tx [0,1,2,3] (ct [3]) Z Z <| xmv Z Z Z <| xmv Z Z Z <| xmf Z Z Z Z ?_
  refine xcb (H1 := []) (H2 := _ :: _) (H2' := _ :: _) Z Z Z Z g86 Z (ct_mkbegin loc_SkR) loc_SkR Z pend0 <| X.nil <| T.blk_end <| T.end0 Z (fun W D h => ?_)
  rw [show (⟨i, seek, scan, sweep, ⟨bp, ba, bm⟩, task, has, ev0, .look⟩ : Mk).step C.M l dr = _ from if_pos (of_decide_eq_true hb0)]
  exact ⟨D, ⟨rfl, rfl, _, _, _, _, _, ⟨rfl, _, rfl, rfl⟩, h⟩, fun _ hk => hk⟩
 ·intro hb0
  refine T.seq <| tx [0,1,2] nf Z Z <| xmv Z Z Z <| xcm Z Z Z Z Z Z <| xas Z Z Z <| X.nil <| T.cond Z ?_ ?_
  ·intro hb1
   refine T.seq <| tx [0,1,2,3,4,5,6,7,8,9,10] (ct [6,10]) Z Z <| xmv Z Z Z <| xmv Z Z Z <| xnc Z Z Z <| xfa Z Z Z f125_0 <| xld Z Z Z o39 .z Z <| xmv Z Z Z <| xcn Z Z Z Z g88 (ct_swNew) (fun _ => loc_SwR) (fun _ => pend0) (fun q1 => ?_)
   refine xif Z Z Z u163_dNoIface <| xnc Z Z Z <| xfa Z Z Z f125_4 <| xst Z Z Z Z o120 Z .z Z .z pend0 <| X.nil <| tx [0,1,2,3] (ct [3]) Z Z <| xmv Z Z Z <| xmv Z Z Z <| xmf Z Z Z Z ?_
   refine xcb (H1 := []) (H2 := _ :: _) (H2' := _ :: _) Z Z Z Z g86 Z (ct_mkbegin loc_SwR) loc_SwR Z pend0 <| X.nil <| T.blk_end <| T.end0 Z (fun W D h => ?_)
   rw [show (⟨i, seek, scan, sweep, ⟨bp, ba, bm⟩, task, has, ev0, .look⟩ : Mk).step C.M l dr = _ from (if_neg (of_decide_eq_false hb0)).trans (if_pos (eq_of_beq hb1))]
   exact ⟨D, ⟨rfl, rfl, _, _, _, _, _, ⟨rfl, _, rfl, rfl⟩, h⟩, fun _ hk => hk⟩
  ·intro hb1
   refine T.skip <| T.blk_end <| T.end0 Z (fun W D h => ?_)
   rw [show (⟨i, seek, scan, sweep, ⟨bp, ba, bm⟩, task, has, ev0, .look⟩ : Mk).step C.M l dr = _ from (if_neg (of_decide_eq_false hb0)).trans (if_neg (ne_of_beq_false hb1))]
   exact ⟨D, ⟨rfl, rfl, _, _, _, _, _, ⟨rfl, rfl⟩, h⟩, fun _ hk => hk⟩
set_option maxHeartbeats 1000000 in
theorem mk_seeks {C : Cx} {d : Nat} {m : Mk} {dr : Int} {l : Wds} (hM : C.M.Ok) (hm : m.Ok C.M) (hr : ∀ a, u64R (ld l a)) (he : m.event = ev0) (hn : m.next = .seeks) : MkRun C d m dr l (m.step C.M l dr).1 (m.step C.M l dr).2 := by
 obtain ⟨i, seek, scan, sweep, ⟨bp, ba, bm⟩, task, has, event, nx⟩ := m
 obtain rfl : event = ev0 := he
 obtain rfl : nx = .seeks := hn
 rintro dv sv wv nv RN ⟨rfl, q, rfl, rfl⟩
 refine ⟨87, [ptr d], [], rfl, g87, ?_⟩
 refine Ct.of (vs := [ptr d, ptr C.s, .int .i64 dr]) Tryz.func87 rfl Tryz.ntmps87 (by simp) (loc_blks loc_SkR _) ?_
 intro w0 D0
 refine T.conv (fun w h => Sy.opens (H2 := [_]) h loc_SkR) <| T.seq <| T.seq <| tx [0,1,2,3,4,5,6] (ct [5]) Z Z <| xmv Z Z Z <| xnc Z Z Z <| xfa Z Z Z f125_3 <| xld Z Z Z o118 .z Z <| xmv Z Z Z <| xce Z Z Z Z g107 (ct_skStep hM hm.seek hr) loc_SkR pend0 ?_
 refine xnot Z Z Z <| X.nil <| T.cond Z ?_ ?_
 ·intro hb0
  refine T.ret0 Z (fun W D h => ?_)
  have hn : ¬ (seek.step C.M l).1.next = .nil := by simpa using hb0
  rw [show (⟨i, seek, scan, sweep, ⟨bp, ba, bm⟩, task, has, ev0, .seeks⟩ : Mk).step C.M l dr = _ from if_neg hn]
  exact ⟨D, ⟨rfl, rfl, _, _, _, _, _, ⟨rfl, _, rfl, rfl⟩, h⟩, fun _ hk => hk⟩
 ·intro hb0
  have hn0 : (seek.step C.M l).1.next = .nil := by simpa using hb0
  refine T.skip <| T.seq <| tx [0,1,2,3,4,5,6,7,8] (ct [8]) Z Z <| xmv Z Z Z <| xmv Z Z Z <| xnc Z Z Z <| xfa Z Z Z f125_3 <| xld Z Z Z o118 .z Z <| xcq Z Z Z Z g108 (sk_Bag) loc_SkR <| xnc Z Z Z <| xfa Z Z Z f125_5 ?_
  refine xsta Z Z Z Z m122 Z Z .z (Nat.le_of_ble_eq_true Z) .z pend0 <| X.nil <| T.seq <| tx [0,1,2,3,4,5,6,7,8,9,10,11,12,13,14,15] (ct [12,15]) Z Z <| xmv Z Z Z <| xmv Z Z Z <| xmv Z Z Z <| xnc Z Z Z <| xfa Z Z Z f125_3 <| xld Z Z Z o118 .z Z ?_
  refine xcq Z Z Z Z g109 (sk_Task) loc_SkR <| xmv Z Z Z <| xex Z Z Z Z <| xex Z Z Z Z <| xnc Z Z Z <| xfa Z Z Z f125_6 <| xst Z Z Z Z o90 Z .z Z .z pend0 <| xnc Z Z Z <| xfa Z Z Z f125_7 <| xst Z Z Z Z o4 Z .z Z .z pend0 <| X.nil <| T.seq ?_
  refine tx [0,1,2,3] (ct [3]) Z Z <| xmv Z Z Z <| xmv Z Z Z <| xmf Z Z Z Z <| xcb (H1 := []) (H2 := _ :: _) (H2' := _ :: _) Z Z Z Z g86 Z (ct_mkbegin loc_SkR) loc_SkR Z pend0 <| X.nil <| T.seq <| tx [0,1,2,3] nf Z Z <| xmv Z Z Z <| xnc Z Z Z ?_
  refine xfa Z Z Z f125_7 <| xld Z Z Z o4 .z Z <| X.nil <| T.cond Z ?_ ?_
  ·intro hb1
   refine tx [0,1,2,3] (ct [3]) Z Z <| xmv Z Z Z <| xmv Z Z Z <| xmf Z Z Z Z <| xcb (H1 := []) (H2 := _ :: _) (H2' := _ :: _) Z Z Z Z g86 Z (ct_mkbegin loc_SkR) loc_SkR Z pend0 <| X.nil <| T.end0 Z (fun W D h => ?_)
   rw [show (⟨i, seek, scan, sweep, ⟨bp, ba, bm⟩, task, has, ev0, .seeks⟩ : Mk).step C.M l dr = _ from if_pos hn0]
   obtain ⟨D1, h1, h2⟩ := blks_drop h
   exact ⟨D1, ⟨rfl, rfl, _, _, _, _, _, nx_wait (if_pos hb1), h1⟩, h2⟩
  ·intro hb1
   refine T.skip <| T.end0 Z (fun W D h => ?_)
   rw [show (⟨i, seek, scan, sweep, ⟨bp, ba, bm⟩, task, has, ev0, .seeks⟩ : Mk).step C.M l dr = _ from if_pos hn0]
   obtain ⟨D1, h1, h2⟩ := blks_drop h
   exact ⟨D1, ⟨rfl, rfl, _, _, _, _, _, nx_look (if_neg (by rw [hb1]; exact Bool.false_ne_true)), h1⟩, h2⟩
set_option maxHeartbeats 1000000 in
theorem mk_wait {C : Cx} {d : Nat} {m : Mk} {dr : Int} {l : Wds} (hM : C.M.Ok) (hm : m.Ok C.M) (hr : ∀ a, u64R (ld l a)) (he : m.event = ev0) (hn : m.next = .wait) : MkRun C d m dr l (m.step C.M l dr).1 (m.step C.M l dr).2 := by
 obtain ⟨i, seek, scan, sweep, ⟨bp, ba, bm⟩, task, has, event, nx⟩ := m
 obtain rfl : event = ev0 := he
 obtain rfl : nx = .wait := hn
 rintro dv sv wv nv RN ⟨rfl, rfl⟩
 refine ⟨110, [ptr d], [], rfl, g110, ?_⟩
 refine Ct.of (vs := [ptr d, ptr C.s, .int .i64 dr]) Tryz.func110 rfl Tryz.ntmps110 (by simp) (loc_blks loc_emp _) ?_
 intro w0 D0
 refine T.conv (fun w h => Sy.opens (H2 := [_]) h loc_emp) <| T.seq <| tx [0,1,2,3,4,5,6,7,8,9,10,11,12] nf Z Z <| xmv Z Z Z <| xmv Z Z Z <| xnc Z Z Z <| xfa Z Z Z f125_0 <| xld Z Z Z o39 .z Z <| xcq Z Z Z Z g83 (ct_Phase) loc_emp ?_
 refine xcq Z Z Z Z g32 (ct_Load loc_emp) loc_emp <| xcq Z Z Z Z g82 (ct_Cycle loc_emp (hr _)) loc_emp <| xmv Z Z Z <| xex Z Z Z Z <| xex Z Z Z Z <| xas Z Z Z <| xas Z Z Z <| X.nil <| T.seq <| tx [0,1] nf Z Z <| xmv Z Z Z ?_
 refine xcq Z Z Z Z g84 (Cv.frame loc_emp ct_marks0) loc_emp <| X.nil <| T.cond Z ?_ ?_
 ·intro hb0
  refine T.seq <| T.any (ord := [0, 1, 2, 3, 4, 5, 6, 7, 8, 9, 10, 11, 12, 13, 14, 15, 16, 17, 18]) (lo := (fun i => [0].contains i)) (ef := (fun i => [14, 18].contains i)) (by kernel_rfl) (fun _ h => h.drew) <| xmv Z Z Z <| xmv Z Z Z <| xnc Z Z Z ?_
  refine xfa Z Z Z f125_0 <| xld Z Z Z o39 .z Z <| xmv Z Z Z <| xnc Z Z Z <| xfa Z Z Z f125_1 <| xld Z Z Z o3 .z Z <| xmv Z Z Z <| xnc Z Z Z <| xfa Z Z Z f125_6 <| xld Z Z Z o90 .z Z <| xmv Z Z Z ?_
  refine xcn Z Z Z Z g142 (ct_scNew hm.task) (fun _ => loc_ScR) (fun _ => (pendmv Z Z pend0)) (fun q0 => ?_)
  refine xif Z Z Z u208_dNoIface <| xnc Z Z Z <| xfa Z Z Z f125_4 <| xst Z Z Z Z o120 Z .z Z .z (pendsk (by kernel_rfl) pend0) <| X.nil <| tx [0,1,2,3] (ct [3]) Z Z <| xmv Z Z Z <| xmv Z Z Z <| xmf Z Z Z Z ?_
  refine xcb (H1 := []) (H2 := _ :: _) (H2' := _ :: _) Z Z Z Z g86 Z (ct_mkbegin loc_ScR) loc_ScR Z pend0 <| X.nil <| T.end0 Z (fun W D h => ?_)
  rw [show (⟨i, seek, scan, sweep, ⟨bp, ba, bm⟩, task, has, ev0, .wait⟩ : Mk).step C.M l dr = _ from if_pos (of_decide_eq_true hb0)]
  exact ⟨D, ⟨rfl, rfl, _, _, _, _, _, ⟨rfl, _, rfl, rfl⟩, h⟩, fun _ hk => hk⟩
 ·intro hb0
  refine T.skip <| T.end0 Z (fun W D h => ?_)
  rw [show (⟨i, seek, scan, sweep, ⟨bp, ba, bm⟩, task, has, ev0, .wait⟩ : Mk).step C.M l dr = _ from if_neg (of_decide_eq_false hb0)]
  exact ⟨D, ⟨rfl, rfl, _, _, _, _, _, ⟨rfl, rfl⟩, h⟩, fun _ hk => hk⟩
set_option maxHeartbeats 1000000 in
theorem mk_scans {C : Cx} {d : Nat} {m : Mk} {dr : Int} {l : Wds} (hM : C.M.Ok) (hm : m.Ok C.M) (hr : ∀ a, u64R (ld l a)) (he : m.event = ev0) (hn : m.next = .scans) : MkRun C d m dr l (m.step C.M l dr).1 (m.step C.M l dr).2 := by
 obtain ⟨i, seek, scan, sweep, ⟨bp, ba, bm⟩, task, has, event, nx⟩ := m
 obtain rfl : event = ev0 := he
 obtain rfl : nx = .scans := hn
 rintro dv sv wv nv RN ⟨rfl, q, rfl, rfl⟩
 refine ⟨89, [ptr d], [], rfl, g89, ?_⟩
 refine Ct.of (vs := [ptr d, ptr C.s, .int .i64 dr]) Tryz.func89 rfl Tryz.ntmps89 (by simp) (loc_blks loc_ScR _) ?_
 intro w0 D0
 refine T.conv (fun w h => Sy.opens (H2 := [_]) h loc_ScR) <| T.seq <| tx [0,1,2,3,4,5,6] (ct [5]) Z Z <| xmv Z Z Z <| xnc Z Z Z <| xfa Z Z Z f125_4 <| xld Z Z Z o120 .z Z <| xmv Z Z Z ?_
 refine xiv Z Z Z Z g291 (fun w => mth_sc _ w) (ct_scStep hM hm.scan hr) loc_ScR pend0 <| xas Z Z Z <| X.nil <| T.seq <| tx [0,1,2,3,4,5,6,7,8] (ct [5,8]) Z Z <| xmv Z Z Z <| xmv Z Z Z <| xnc Z Z Z <| xfa Z Z Z f125_4 <| xld Z Z Z o120 .z Z ?_
 refine xiv Z Z Z Z g290 (fun w => mth_sce _ w) (sc_Event) loc_ScR pend0 <| xnc Z Z Z <| xfa Z Z Z f125_8 <| xsta Z Z Z Z m33 Z Z .z (Nat.le_of_ble_eq_true Z) .z pend0 <| X.nil <| T.seq <| tx [0] nf Z Z <| xmv Z Z Z <| X.nil <| T.cond Z ?_ ?_
 ·intro hb0
  refine T.seq <| tx [0,1,2,3,4,5,6,7] (ct [4,7]) Z Z <| xmv Z Z Z <| xmv Z Z Z <| xnc Z Z Z <| xfa Z Z Z f125_6 <| xst Z Z Z Z o90 Z .z Z .z pend0 <| xnc Z Z Z <| xfa Z Z Z f125_7 <| xst Z Z Z Z o4 Z .z Z .z pend0 <| X.nil <| tx [0,1,2,3] (ct [3]) Z Z ?_
  refine xmv Z Z Z <| xmv Z Z Z <| xmf Z Z Z Z <| xcb (H1 := []) (H2 := _ :: _) (H2' := _ :: _) Z Z Z Z g86 Z (ct_mkbegin loc_ScR) loc_ScR Z pend0 <| X.nil <| T.end0 Z (fun W D h => ?_)
  rw [show (⟨i, seek, scan, sweep, ⟨bp, ba, bm⟩, task, has, ev0, .scans⟩ : Mk).step C.M l dr = _ from if_pos (of_decide_eq_true hb0)]
  obtain ⟨D1, h1, h2⟩ := blks_drop h
  exact ⟨D1, ⟨rfl, rfl, _, _, _, _, _, ⟨rfl, rfl⟩, h1⟩, h2⟩
 ·intro hb0
  refine T.skip <| T.end0 Z (fun W D h => ?_)
  rw [show (⟨i, seek, scan, sweep, ⟨bp, ba, bm⟩, task, has, ev0, .scans⟩ : Mk).step C.M l dr = _ from if_neg (of_decide_eq_false hb0)]
  exact ⟨D, ⟨rfl, rfl, _, _, _, _, _, ⟨rfl, _, rfl, rfl⟩, h⟩, fun _ hk => hk⟩
set_option maxHeartbeats 1000000 in
theorem mk_sweeps {C : Cx} {d : Nat} {m : Mk} {dr : Int} {l : Wds} (hM : C.M.Ok) (hm : m.Ok C.M) (hr : ∀ a, u64R (ld l a)) (he : m.event = ev0) (hn : m.next = .sweeps) : MkRun C d m dr l (m.step C.M l dr).1 (m.step C.M l dr).2 := by
 obtain ⟨i, seek, scan, sweep, ⟨bp, ba, bm⟩, task, has, event, nx⟩ := m
 obtain rfl : event = ev0 := he
 obtain rfl : nx = .sweeps := hn
 rintro dv sv wv nv RN ⟨rfl, q, rfl, rfl⟩
 refine ⟨89, [ptr d], [], rfl, g89, ?_⟩
 refine Ct.of (vs := [ptr d, ptr C.s, .int .i64 dr]) Tryz.func89 rfl Tryz.ntmps89 (by simp) (loc_blks loc_SwR _) ?_
 intro w0 D0
 refine T.conv (fun w h => Sy.opens (H2 := [_]) h loc_SwR) <| T.seq <| tx [0,1,2,3,4,5,6] (ct [5]) Z Z <| xmv Z Z Z <| xnc Z Z Z <| xfa Z Z Z f125_4 <| xld Z Z Z o120 .z Z <| xmv Z Z Z ?_
 refine xiv Z Z Z Z g289 (fun w => mth_sw _ w) (ct_swStep hM hm.sweep hr) loc_SwR pend0 <| xas Z Z Z <| X.nil <| T.seq <| tx [0,1,2,3,4,5,6,7,8] (ct [5,8]) Z Z <| xmv Z Z Z <| xmv Z Z Z <| xnc Z Z Z <| xfa Z Z Z f125_4 <| xld Z Z Z o120 .z Z ?_
 refine xiv Z Z Z Z g288 (fun w => mth_swe _ w) (sw_Event) loc_SwR pend0 <| xnc Z Z Z <| xfa Z Z Z f125_8 <| xsta Z Z Z Z m33 Z Z .z (Nat.le_of_ble_eq_true Z) .z pend0 <| X.nil <| T.seq <| tx [0] nf Z Z <| xmv Z Z Z <| X.nil <| T.cond Z ?_ ?_
 ·intro hb0
  refine T.seq <| tx [0,1,2,3,4,5,6,7] (ct [4,7]) Z Z <| xmv Z Z Z <| xmv Z Z Z <| xnc Z Z Z <| xfa Z Z Z f125_6 <| xst Z Z Z Z o90 Z .z Z .z pend0 <| xnc Z Z Z <| xfa Z Z Z f125_7 <| xst Z Z Z Z o4 Z .z Z .z pend0 <| X.nil <| tx [0,1,2,3] (ct [3]) Z Z ?_
  refine xmv Z Z Z <| xmv Z Z Z <| xmf Z Z Z Z <| xcb (H1 := []) (H2 := _ :: _) (H2' := _ :: _) Z Z Z Z g86 Z (ct_mkbegin loc_SwR) loc_SwR Z pend0 <| X.nil <| T.end0 Z (fun W D h => ?_)
  rw [show (⟨i, seek, scan, sweep, ⟨bp, ba, bm⟩, task, has, ev0, .sweeps⟩ : Mk).step C.M l dr = _ from if_pos (of_decide_eq_true hb0)]
  obtain ⟨D1, h1, h2⟩ := blks_drop h
  exact ⟨D1, ⟨rfl, rfl, _, _, _, _, _, ⟨rfl, rfl⟩, h1⟩, h2⟩
 ·intro hb0
  refine T.skip <| T.end0 Z (fun W D h => ?_)
  rw [show (⟨i, seek, scan, sweep, ⟨bp, ba, bm⟩, task, has, ev0, .sweeps⟩ : Mk).step C.M l dr = _ from if_neg (of_decide_eq_false hb0)]
  exact ⟨D, ⟨rfl, rfl, _, _, _, _, _, ⟨rfl, _, rfl, rfl⟩, h⟩, fun _ hk => hk⟩
set_option maxHeartbeats 1000000 in
theorem mk_Step {C : Cx} {d : Nat} {m m' : Mk} {dr : Int} {l l' : Wds} (hrun : MkRun C d { m with event := ev0 } dr l m' l') : Cv C 63 [ptr d, ptr C.s, .int .i64 dr] l (MkR C d m) (.tuple #[]) l' (MkR C d m') := by
 refine Ct.of Tryz.func63 rfl Tryz.ntmps63 (by simp) loc_MkR ?_
 intro w0 D0
 refine T.ex (fun _ => loc_ex fun _ => loc_ex fun _ => loc_Mch loc_MkNx) ?_
 intro dv
 refine T.ex (fun _ => loc_ex fun _ => loc_Mch loc_MkNx) ?_
 intro sv
 refine T.ex (fun _ => loc_Mch loc_MkNx) ?_
 intro wv
 refine T.mch (H := []) loc_MkNx ?_
 intro nv RN hN hl
 obtain ⟨fid, fs, cs, rfl, hg, hc⟩ := hrun dv sv wv nv RN hN
 refine T.seq <| T.seq <| tx [0,1,2,3,4,5,6,7,8] nf Z Z <| xmv Z Z Z <| xnp Z Z Z Z u81_dPtr <| xmv Z Z Z <| xmv Z Z Z <| xnc Z Z Z <| xfa Z Z Z f125_9 <| xld Z Z Z o123 .z Z <| xnf Z Z Z Z u123_dFun <| xpk Z Z Z Z <| X.nil <| T.no Z <| T.skip <| T.seq ?_
 refine tx [0,1,2,3,4] (ct [4]) Z Z <| xmv Z Z Z <| xbd Z Z Z l33 z33 Z <| xnc Z Z Z <| xfa Z Z Z f125_8 <| xsta Z Z Z Z m33 Z Z .z (Nat.le_of_ble_eq_true Z) .z pend0 <| X.nil <| tx [0,1,2,3,4,5,6] (ct [6]) Z Z <| xmv Z Z Z <| xnc Z Z Z <| xfa Z Z Z f125_9 ?_
 refine xld Z Z Z o123 .z Z <| xmv Z Z Z <| xmv Z Z Z <| xcf (H1 := []) (H2 := [_]) Z Z Z Z hg Z hc loc_MkR pend0 <| X.nil <| T.end0 Z (fun W D h => ?_)
 exact ⟨D, ⟨rfl, rfl, h⟩, fun _ hk => hk⟩
set_option maxHeartbeats 1000000 in
theorem mk_Event {C : Cx} {d : Nat} {m : Mk} {l : Wds} : Cv C 285 [ptr d] l (MkR C d m) (.agg m.event.cells.toArray) l (MkR C d m) := by
 refine Ct.of Tryz.func285 rfl Tryz.ntmps285 (by simp) loc_MkR ?_
 intro w0 D0
 refine T.ex (fun _ => loc_ex fun _ => loc_ex fun _ => loc_Mch loc_MkNx) ?_
 intro dv
 refine T.ex (fun _ => loc_ex fun _ => loc_Mch loc_MkNx) ?_
 intro sv
 refine T.ex (fun _ => loc_Mch loc_MkNx) ?_
 intro wv
 refine T.mch (H := []) loc_MkNx ?_
 intro nv RN hN hl
 refine T.seq <| tx [0] (ct [0]) Z Z <| xal Z Z z33 (fun _ => pend0) (fun b0 => ?_)
 refine X.nil <| T.seq <| T.seq <| tx [0,1] nf Z Z <| xmv Z Z Z <| xnp Z Z Z Z u81_dPtr <| X.nil <| T.no Z <| T.skip <| T.seq <| tx [0,1,2,3,4] (ct [4]) Z Z <| xmv Z Z Z <| xnc Z Z Z <| xfa Z Z Z f125_8 <| xlda Z Z Z m33 (.s .z) Z ?_
 refine xsta Z Z Z Z m33 Z Z .z (Nat.le_of_ble_eq_true Z) .z pend0 <| X.nil <| T.retc Z Z m33 .z Z (fun W D h => ?_)
 obtain ⟨D1, h1, h2⟩ := blks_tail h
 exact ⟨D1, ⟨rfl, rfl, dv, sv, wv, nv, RN, hN, h1⟩, h2⟩
theorem Mk.noev_ok {M : MapM} {m : Mk} (hm : m.Ok M) : ({ m with event := ev0 } : Mk).Ok M := ⟨hm.i, hm.seek, hm.scan, hm.sweep, hm.packet, hm.task⟩
theorem mk_run {C : Cx} {d : Nat} {m : Mk} {dr : Int} {l : Wds} (hM : C.M.Ok) (hm : m.Ok C.M) (hr : ∀ a, u64R (ld l a)) (he : m.event = ev0) : MkRun C d m dr l (m.step C.M l dr).1 (m.step C.M l dr).2 := by
 cases h : m.next with
 | look => exact mk_look hM hm hr he h
 | seeks => exact mk_seeks hM hm hr he h
 | wait => exact mk_wait hM hm hr he h
 | scans => exact mk_scans hM hm hr he h
 | sweeps => exact mk_sweeps hM hm hr he h
theorem ct_mkStep {C : Cx} {d : Nat} {m : Mk} {dr : Int} {l : Wds} (hM : C.M.Ok) (hm : m.Ok C.M) (hr : ∀ a, u64R (ld l a)) : Cv C 63 [ptr d, ptr C.s, .int .i64 dr] l (MkR C d m) (.tuple #[]) (m.step C.M l dr).2 (MkR C d (m.step C.M l dr).1) := by
 have e : ({ m with event := ev0 } : Mk).step C.M l dr = m.step C.M l dr := by unfold Mk.step; rfl
 have h := mk_run (d := d) (dr := dr) hM (Mk.noev_ok hm) hr rfl
 rw [e] at h
 exact mk_Step h
theorem Mk.step_ok {M : MapM} (hM : M.Ok) {m : Mk} {l : Wds} {dr : Int} (hm : m.Ok M) (hr : ∀ a, u64R (ld l a)) : (m.step M l dr).1.Ok M := by
 have h1 := Sk.step_ok hM hm.seek hr
 have h2 := Sc.step_ok hM hm.scan hr
 have h3 := Sw.step_ok hM hm.sweep hr
 have z : u64R 0 := by unfold u64R; omega
 have hc : u64R (ld l 0 / 8) := by have := hr 0; unfold u64R at *; omega
 unfold Mk.step
 split
 ·split
  ·exact ⟨hm.i, Sk.new_ok hM hm.i hm.packet, hm.scan, hm.sweep, hm.packet, hm.task⟩
  ·split
   ·exact ⟨hm.i, hm.seek, hm.scan, Sw.new_ok hc, hm.packet, hm.task⟩
   ·exact Mk.noev_ok hm
 ·split
  ·refine ⟨hm.i, h1, hm.scan, hm.sweep, h1.packet, ?_⟩
   simp only
   split
   ·exact h1.task
   ·exact z
  ·exact ⟨hm.i, h1, hm.scan, hm.sweep, hm.packet, hm.task⟩
 ·split
  ·exact ⟨hm.i, hm.seek, Sc.new_ok hm.task hm.i hc, hm.sweep, hm.packet, hm.task⟩
  ·exact Mk.noev_ok hm
 ·split <;> exact ⟨hm.i, hm.seek, h2, hm.sweep, hm.packet, by first | exact z | exact hm.task⟩
 ·split <;> exact ⟨hm.i, hm.seek, hm.scan, h3, hm.packet, by first | exact z | exact hm.task⟩
theorem Mk.step_rng {M : MapM} {m : Mk} {l : Wds} {dr : Int} (hm : m.Ok M) (hr : Rng l) : Rng (m.step M l dr).2 := by
 have h1 := Sk.step_rng hm.seek hr
 have h2 := Sc.step_rng hm.scan hr
 have h3 := Sw.step_rng (M := M) hm.sweep hr
 unfold Mk.step
 split <;> (try split) <;> (try split) <;> first | exact hr | exact h1 | exact h2 | exact h3
set_option maxHeartbeats 1000000 in
theorem ct_mkNew {C : Cx} {l : Wds} {i : Int} (hM : C.M.Ok) (hi : 0 ≤ i ∧ i < C.M.markers) : Cn C 27 [ptr C.m, .int .i64 i] l emp l (fun q => MkR C q (.new C.M i)) := by
 refine Ct.of Tryz.func27 rfl Tryz.ntmps27 (by simp) loc_emp ?_
 intro w0 D0
 refine T.seq <| tx [0] nf Z Z <| xas Z Z Z <| X.nil <| T.seq <| tx [0,1,2,3,4] (ct [3]) Z Z <| xmv Z Z Z <| xmv Z Z Z <| xbd Z Z Z l125 z125 Z <| xbx Z Z Z Z (fun _ => pend0) (fun b0 => ?_)
 refine xas Z Z Z <| X.nil <| T.seq <| T.seq <| tx [0,1,2,3] nf Z Z <| xmv Z Z Z <| xmv Z Z Z <| xcq Z Z Z Z g57 (ct_Top loc_emp) loc_emp <| xcm (c := true) Z Z Z Z Z (decide_eq_true (top_ge hM hi)) <| X.nil <| T.yes Z <| tx [0,1,2,3,4,5] (ct [5]) Z Z ?_
 refine xmv Z Z Z <| xmv Z Z Z <| xmf Z Z Z Z <| xnc Z Z Z <| xfa Z Z Z f125_9 <| xst Z Z Z Z o123 Z .z Z .z pend0 <| X.nil <| T.seq <| tx [0,1] nf Z Z <| xmv Z Z Z <| xas Z Z Z <| X.nil <| T.ret1 Z (fun W D h => ?_)
 exact ⟨D, ⟨_, rfl, rfl, _, _, _, _, _, ⟨rfl, rfl⟩, h⟩, fun _ hk => hk⟩
theorem Mk.new_ok {M : MapM} {i : Int} (hM : M.Ok) (hi : 0 ≤ i ∧ i < M.markers) : (Mk.new M i).Ok M := by
 have z : u64R 0 := by unfold u64R; omega
 have z2 : u32R 0 := by unfold u32R; omega
 have h0 : (0 : Int) ≤ 0 ∧ (0 : Int) < M.markers := by omega
 exact ⟨hi, Sk.new_ok hM h0 z2, Sc.new_ok z h0 z, Sw.new_ok z, z2, z⟩
structure BuS extends Bu where
 bf : Nat
 ts : List Int
def BuS.step0 (M : MapM) (x : BuS) (l : Wds) : BuS × Wds := (⟨(x.toBu.step0 M x.ts l).1, x.bf, (x.toBu.step0 M x.ts l).2.1⟩, (x.toBu.step0 M x.ts l).2.2)
def BuS.step (M : MapM) (x : BuS) (l : Wds) : BuS × Wds := ({ x with event := ev0 } : BuS).step0 M l
def Sls (tv : Value) (ts : List Int) (B : List Bk) : Prop :=
 (tv = .slice none 0 0 ∧ ts = [] ∧ B = []) ∨ ∃ b rs m, tv = slv b ts.length m ∧ ts ≠ [] ∧ B = [⟨b, 90, u64s ts ++ rs⟩] ∧ ts.length ≤ m ∧ (u64s ts).length + rs.length = m * 1
def BuS.cs (C : Cx) (x : BuS) (tv : Value) (B : List Bk) (cv pv nv : Value) : List Value :=
 [ptr x.bf, .int .i64 x.v, cv, pv, .int .i64 x.event.kind, .int .i64 x.event.who, .int .i64 x.event.a, .int .i64 x.event.b, .int .i64 x.event.c, nv]
abbrev BfB (C : Cx) (bf : Nat) (tv : Value) : Bk := ⟨bf, 166, [ptr C.m, tv]⟩
def BuNx (C : Cx) (d : Nat) (x : BuS) (tv : Value) (B : List Bk) (cv pv nv : Value) (RN : Asr) : Prop := Sls tv x.ts B ∧ match x.next with
 | .nil => nv = .nilFunc ∧ RN = blks (BfB C x.bf tv :: B) emp
 | .claims => nv = fm 204 d ∧ ∃ q, cv = ptr q ∧ RN = blks (BfB C x.bf tv :: B) (ClR C q x.claim)
 | .puts => nv = fm 206 d ∧ ∃ q, pv = ptr q ∧ RN = blks (BfB C x.bf tv :: B) (PkR C q x.put)
theorem loc_BuNx {C : Cx} {d : Nat} {m : BuS} {tv : Value} {B : List Bk} {cv pv : Value} (nv : Value) (RN : Asr) (h : BuNx C d m tv B cv pv nv RN) : Loc RN := by
 obtain ⟨-, h⟩ := h
 split at h
 ·obtain ⟨-, rfl⟩ := h; exact loc_blks loc_emp _
 ·obtain ⟨-, q, -, rfl⟩ := h; exact loc_blks loc_ClR _
 ·obtain ⟨-, q, -, rfl⟩ := h; exact loc_blks loc_PkR _
theorem Bu_is {C : Cx} {d : Nat} {m : BuS} {tv : Value} {B : List Bk} {cv pv nv : Value} {RN : Asr} (h : BuNx C d m tv B cv pv nv RN) : NxIs nv (decide (m.next = .nil)) := by
 obtain ⟨-, h⟩ := h
 split at h <;> rename_i hn <;> rw [hn] <;> obtain ⟨rfl, -⟩ := h <;> first | exact .inl ⟨rfl, rfl⟩ | exact .inr ⟨_, _, _, rfl, rfl⟩
structure BuS.Ok (M : MapM) (m : BuS) : Prop where
 v : u32R m.v
 claim : m.claim.Ok
 put : m.put.Ok
 ts : ∀ t ∈ m.ts, u64R t
 le : (m.ts.length : Int) ≤ M.buffer
 lt : m.next ≠ .puts → (m.ts.length : Int) < M.buffer
 ne : m.next = .puts → m.ts ≠ []
theorem u64s_app (ts : List Int) (x : Int) : u64s ts ++ [.int .u64 x] = u64s (ts ++ [x]) := by simp [u64s]
theorem Sls.new {q m : Nat} {ts : List Int} {rs : List Value} (h : ts ≠ []) (hm : ts.length ≤ m) (hl : (u64s ts).length + rs.length = m * 1) : Sls (slv q ts.length m) ts [⟨q, 90, u64s ts ++ rs⟩] := .inr ⟨q, rs, m, rfl, h, rfl, hm, hl⟩
def BuR (C : Cx) (d : Nat) (m : BuS) : Asr := fun D w => ∃ tv : Value, ∃ B : List Bk, ∃ cv : Value, ∃ pv : Value, Mch 235 d (m.cs C tv B cv pv) (BuNx C d m tv B cv pv) D w
theorem loc_BuR {C : Cx} {d : Nat} {m : BuS} : Loc (BuR C d m) := loc_ex fun _ => loc_ex fun _ => loc_ex fun _ => loc_ex fun _ => loc_Mch loc_BuNx
def BuRun (C : Cx) (d : Nat) (m : BuS) (l : Wds) (m' : BuS) (l' : Wds) : Prop := ∀ (tv : Value) (B : List Bk) (cv : Value) (pv : Value) nv RN, BuNx C d m tv B cv pv nv RN → ∃ fid fs cs, nv = .func (.func fid) (List.toArray fs) (List.toArray cs) ∧ fnB fid = true ∧ Cv C fid (fs ++ [ptr C.s] ++ cs) l (blks [⟨d, 235, m.cs C tv B cv pv nv⟩] RN) (.tuple #[]) l' (BuR C d m')
def BfR (C : Cx) (bf : Nat) (ts : List Int) : Asr := fun D w => ∃ tv B, Sls tv ts B ∧ blks (BfB C bf tv :: B) emp D w
theorem loc_BfR {C : Cx} {bf : Nat} {ts : List Int} : Loc (BfR C bf ts) := loc_ex fun _ => loc_ex fun _ => loc_and (loc_blks loc_emp _)
theorem f166_0 : fld 166 0 0 = true := by kernel_rfl
theorem f166_1 : fld 166 1 1 = true := by kernel_rfl
theorem f235_0 : fld 235 0 0 = true := by kernel_rfl
theorem f235_1 : fld 235 1 1 = true := by kernel_rfl
theorem f235_2 : fld 235 2 2 = true := by kernel_rfl
theorem f235_3 : fld 235 3 3 = true := by kernel_rfl
theorem f235_4 : fld 235 4 4 = true := by kernel_rfl
theorem f235_5 : fld 235 5 9 = true := by kernel_rfl
theorem f24_5 : fld 24 5 9 = true := by kernel_rfl
theorem g182 : fnB 182 = true := by kernel_rfl
theorem g204 : fnB 204 = true := by kernel_rfl
theorem g206 : fnB 206 = true := by kernel_rfl
theorem l235 : layB 235 [(0, 1), (1, 1), (2, 1), (3, 1), (4, 5), (9, 1)] = true := by kernel_rfl
theorem o126 : one 126 = true := by kernel_rfl
theorem t24_5 : fldT 24 5 3 = true := by kernel_rfl
theorem u126_dPtr : undIs 126 (dPtr) = true := by kernel_rfl
theorem u129_dPtr : undIs 129 (dPtr) = true := by kernel_rfl
theorem z235 : zer 235 = some [.pointer none, .int .i64 0, .pointer none, .pointer none, .int .i64 0, .int .i64 0, .int .i64 0, .int .i64 0, .int .i64 0, .nilFunc] := by kernel_rfl
set_option maxHeartbeats 1000000 in
theorem bu_Nil {C : Cx} {d : Nat} {m : BuS} {l : Wds} (hn : m.next = .nil) : Cv C 180 [ptr d, ptr C.s] l (BuR C d m) (.bool true) l (BuR C d { m with event := ev0 }) := by
 refine Ct.of Tryz.func180 rfl Tryz.ntmps180 (by simp) loc_BuR ?_
 intro w0 D0
 refine T.ex (fun _ => loc_ex fun _ => loc_ex fun _ => loc_ex fun _ => loc_Mch loc_BuNx) ?_
 intro tv
 refine T.ex (fun _ => loc_ex fun _ => loc_ex fun _ => loc_Mch loc_BuNx) ?_
 intro B
 refine T.ex (fun _ => loc_ex fun _ => loc_Mch loc_BuNx) ?_
 intro cv
 refine T.ex (fun _ => loc_Mch loc_BuNx) ?_
 intro pv
 refine T.mch (H := []) loc_BuNx ?_
 intro nv RN hN hl
 have hi := Bu_is hN
 rw [hn] at hi
 refine T.seq <| tx [0] nf Z Z <| xas Z Z Z <| X.nil <| T.seq <| T.seq <| tx [0,1] nf Z Z <| xmv Z Z Z <| xnp Z Z Z Z u129_dPtr <| X.nil <| T.no Z <| T.skip <| T.seq <| tx [0,1,2,3,4] (ct [4]) Z Z <| xmv Z Z Z <| xbd Z Z Z l33 z33 Z <| xnc Z Z Z ?_
 refine xfa Z Z Z f235_4 <| xsta Z Z Z Z m33 Z Z .z (Nat.le_of_ble_eq_true Z) .z pend0 <| X.nil <| T.seq <| T.seq <| tx [0,1,2,3,4] nf Z Z <| xmv Z Z Z <| xnc Z Z Z <| xfa Z Z Z f235_5 <| xld Z Z Z o130 .z Z <| xbo Z Z Z Z (nx_gd hi) (nx_eq hi u130_dFun) ?_
 refine X.nil <| T.yes Z <| T.seq <| tx [0] nf Z Z <| xas Z Z Z <| X.nil <| T.ret1 Z (fun W D h => ?_)
 exact ⟨D, ⟨rfl, rfl, tv, B, cv, pv, nv, RN, hN, h⟩, fun _ hk => hk⟩
set_option maxHeartbeats 1000000 in
theorem bu_Step {C : Cx} {d : Nat} {m m' : BuS} {l l' : Wds} (hrun : BuRun C d { m with event := ev0 } l m' l') : Cv C 180 [ptr d, ptr C.s] l (BuR C d m) (.bool (decide (m'.next = .nil))) l' (BuR C d m') := by
 refine Ct.of Tryz.func180 rfl Tryz.ntmps180 (by simp) loc_BuR ?_
 intro w0 D0
 refine T.ex (fun _ => loc_ex fun _ => loc_ex fun _ => loc_ex fun _ => loc_Mch loc_BuNx) ?_
 intro tv
 refine T.ex (fun _ => loc_ex fun _ => loc_ex fun _ => loc_Mch loc_BuNx) ?_
 intro B
 refine T.ex (fun _ => loc_ex fun _ => loc_Mch loc_BuNx) ?_
 intro cv
 refine T.ex (fun _ => loc_Mch loc_BuNx) ?_
 intro pv
 refine T.mch (H := []) loc_BuNx ?_
 intro nv RN hN hl
 obtain ⟨fid, fs, cs, rfl, hg, hc⟩ := hrun tv B cv pv nv RN hN
 refine T.seq <| tx [0] nf Z Z <| xas Z Z Z <| X.nil <| T.seq <| T.seq <| tx [0,1] nf Z Z <| xmv Z Z Z <| xnp Z Z Z Z u129_dPtr <| X.nil <| T.no Z <| T.skip <| T.seq <| tx [0,1,2,3,4] (ct [4]) Z Z <| xmv Z Z Z <| xbd Z Z Z l33 z33 Z <| xnc Z Z Z ?_
 refine xfa Z Z Z f235_4 <| xsta Z Z Z Z m33 Z Z .z (Nat.le_of_ble_eq_true Z) .z pend0 <| X.nil <| T.seq <| T.seq <| tx [0,1,2,3,4] nf Z Z <| xmv Z Z Z <| xnc Z Z Z <| xfa Z Z Z f235_5 <| xld Z Z Z o130 .z Z <| xnf Z Z Z Z u130_dFun <| X.nil <| T.no Z ?_
 refine T.skip <| T.seq <| tx [0,1,2,3,4,5] (ct [5]) Z Z <| xmv Z Z Z <| xnc Z Z Z <| xfa Z Z Z f235_5 <| xld Z Z Z o130 .z Z <| xmv Z Z Z <| xcf (H1 := []) (H2 := [_]) Z Z Z Z hg Z hc loc_BuR pend0 <| X.nil <| T.seq ?_
 refine T.ex (fun _ => loc_ex fun _ => loc_ex fun _ => loc_ex fun _ => loc_Mch loc_BuNx) ?_
 intro tv'
 refine T.ex (fun _ => loc_ex fun _ => loc_ex fun _ => loc_Mch loc_BuNx) ?_
 intro B'
 refine T.ex (fun _ => loc_ex fun _ => loc_Mch loc_BuNx) ?_
 intro cv'
 refine T.ex (fun _ => loc_Mch loc_BuNx) ?_
 intro pv'
 refine T.mch loc_BuNx ?_
 intro nv' RN' hN' hl'
 refine tx [0,1,2,3,4,5] nf Z Z <| xmv Z Z Z <| xnc Z Z Z <| xfa Z Z Z f235_5 <| xld Z Z Z o130 .z Z <| xbo Z Z Z Z (nx_gd (Bu_is hN')) (nx_eq (Bu_is hN') u130_dFun) <| xas Z Z Z <| X.nil <| T.ret1 Z (fun W D h => ?_)
 exact ⟨D, ⟨rfl, rfl, tv', B', cv', pv', nv', RN', hN', h⟩, fun _ hk => hk⟩
set_option maxHeartbeats 1000000 in
theorem bu_Event {C : Cx} {d : Nat} {m : BuS} {l : Wds} : Cv C 181 [ptr d] l (BuR C d m) (.agg m.event.cells.toArray) l (BuR C d m) := by
 refine Ct.of Tryz.func181 rfl Tryz.ntmps181 (by simp) loc_BuR ?_
 intro w0 D0
 refine T.ex (fun _ => loc_ex fun _ => loc_ex fun _ => loc_ex fun _ => loc_Mch loc_BuNx) ?_
 intro tv
 refine T.ex (fun _ => loc_ex fun _ => loc_ex fun _ => loc_Mch loc_BuNx) ?_
 intro B
 refine T.ex (fun _ => loc_ex fun _ => loc_Mch loc_BuNx) ?_
 intro cv
 refine T.ex (fun _ => loc_Mch loc_BuNx) ?_
 intro pv
 refine T.mch (H := []) loc_BuNx ?_
 intro nv RN hN hl
 refine T.seq <| tx [0] (ct [0]) Z Z <| xal Z Z z33 (fun _ => pend0) (fun b0 => ?_)
 refine X.nil <| T.seq <| T.seq <| tx [0,1] nf Z Z <| xmv Z Z Z <| xnp Z Z Z Z u129_dPtr <| X.nil <| T.no Z <| T.skip <| T.seq <| tx [0,1,2,3,4] (ct [4]) Z Z <| xmv Z Z Z <| xnc Z Z Z <| xfa Z Z Z f235_4 <| xlda Z Z Z m33 (.s .z) Z ?_
 refine xsta Z Z Z Z m33 Z Z .z (Nat.le_of_ble_eq_true Z) .z pend0 <| X.nil <| T.retc Z Z m33 .z Z (fun W D h => ?_)
 obtain ⟨D1, h1, h2⟩ := blks_tail h
 exact ⟨D1, ⟨rfl, rfl, tv, B, cv, pv, nv, RN, hN, h1⟩, h2⟩
set_option maxHeartbeats 1000000 in
theorem ct_buFlush {C : Cx} {l : Wds} {d : Nat} {R : Asr} (hl : Loc R) {v : Int} {claim : Cl} {put : Pk} {event : Ev} {nx : BuN} {bf b cm : Nat} {ts : List Int} {rs : List Value} {B : List Bk} {tv cv pv nv : Value} (ht : ts ≠ []) (h4 : ts.length ≤ 4) (hc : ts.length ≤ cm) (hle : (u64s ts).length + rs.length = cm * 1) :
  Cv C 182 [ptr d] l (blks [⟨d, 235, BuS.cs C ⟨⟨v, claim, put, event, nx⟩, bf, ts⟩ tv B cv pv nv⟩, BfB C bf (slv b ts.length cm), ⟨b, 90, u64s ts ++ rs⟩] R) (.tuple #[]) l (BuR C d ⟨⟨v, claim, .put ts, event, .puts⟩, bf, ts⟩) := by
 have h0 : (ts.length : Int) > 0 := by
  have := List.length_pos_iff.2 ht
  omega
 refine Ct.of Tryz.func182 rfl Tryz.ntmps182 (by simp) (loc_blks hl _) ?_
 intro w0 D0
 refine T.conv (fun w h => Sy.opens (H2 := [_, _, _]) h hl) <| T.seq <| tx [0,1,2,3] (ct [3]) Z Z <| xmv Z Z Z <| xnc Z Z Z <| xfa Z Z Z f235_5 <| xst Z Z Z Z o130 Z .z Z .z pend0 <| X.nil <| T.seq <| tx [0,1,2,3,4,5,6,7,8] nf Z Z <| xmv Z Z Z <| xnc Z Z Z ?_
 refine xfa Z Z Z f235_0 <| xld Z Z Z o126 .z Z <| xnc Z Z Z <| xfa Z Z Z f166_1 <| xld Z Z Z o43 (.s .z) Z <| xlen Z Z Z u43_dSlice <| xcm (c := true) Z Z Z Z Z (decide_eq_true h0) <| X.nil <| T.yes Z <| T.seq ?_
 refine T.any (ord := [0, 1, 2, 3, 4, 5, 6, 7, 8, 9, 10, 11, 12, 13, 14, 15, 16, 17, 18]) (lo := (fun i => [0].contains i)) (ef := (fun i => [15, 18].contains i)) (by kernel_rfl) (fun _ h => h.drew) <| xmv Z Z Z <| xmv Z Z Z <| xnc Z Z Z ?_
 refine xfa Z Z Z f235_0 <| xld Z Z Z o126 .z Z <| xnc Z Z Z <| xfa Z Z Z f166_0 <| xld Z Z Z o39 (.s .z) Z <| xmv Z Z Z <| xnc Z Z Z <| xfa Z Z Z f235_0 <| xld Z Z Z o126 .z Z <| xnc Z Z Z <| xfa Z Z Z f166_1 <| xld Z Z Z o43 (.s .z) Z ?_
 refine xcnf (H1 := [_, _]) (H2 := [_]) Z Z Z Z g205 Z (ct_pkPut ht h4 hc) (fun _ => loc_blks loc_PkR _) (fun _ => (pendmv Z Z pend0)) (fun q0 => ?_)
 refine xnc Z Z Z <| xfa Z Z Z f235_3 <| xst Z Z Z Z o180 Z .z Z .z (pendsk (by kernel_rfl) pend0) <| X.nil <| tx [0,1,2,3,4,5] (ct [5]) Z Z <| xmv Z Z Z <| xmv Z Z Z <| xmf Z Z Z Z <| xnc Z Z Z <| xfa Z Z Z f235_5 <| xst Z Z Z Z o130 Z .z Z .z pend0 ?_
 refine X.nil <| T.end0 Z (fun W D h => ?_)
 exact ⟨D, ⟨rfl, rfl, _, _, _, _, _, _, ⟨.inr ⟨b, rs, cm, rfl, ht, rfl, hc, hle⟩, rfl, _, rfl, rfl⟩, h⟩, fun _ hk => hk⟩
set_option maxHeartbeats 1000000 in
theorem bu_claims {C : Cx} {d : Nat} {m : BuS} {l : Wds} (hM : C.M.Ok) (hm : m.Ok C.M) (hr : ∀ a, u64R (ld l a)) (hn : m.next = .claims) : BuRun C d m l (m.step0 C.M l).1 (m.step0 C.M l).2 := by
 obtain ⟨⟨v, claim, put, event, nx⟩, bf, ts⟩ := m
 obtain rfl : nx = .claims := hn
 have hB := hM.buffer
 rintro tv B cv pv nv RN ⟨hs, rfl, q, rfl, rfl⟩
 rcases hs with ⟨rfl, rfl, rfl⟩ | ⟨tb, rs0, cm0, rfl, hne, rfl, hcm0, hle0⟩
 ·refine ⟨204, [ptr d], [], rfl, g204, ?_⟩
  refine Ct.of (vs := [ptr d, ptr C.s]) Tryz.func204 rfl Tryz.ntmps204 (by simp) (loc_blks (loc_blks loc_ClR _) _) ?_
  intro w0 D0
  refine T.conv (fun w h => Sy.opens (H2 := [_]) h (loc_blks loc_ClR _)) <| T.bks loc_ClR <| T.seq <| T.seq <| tx [0,1,2,3,4,5,6] (ct [5]) Z Z <| xmv Z Z Z <| xnc Z Z Z <| xfa Z Z Z f235_2 <| xld Z Z Z o225 .z Z <| xmv Z Z Z ?_
  refine xce Z Z Z Z g226 (ct_clStep hm.claim) loc_ClR pend0 <| xnot Z Z Z <| X.nil <| T.cond Z ?_ ?_
  ·intro hb0
   refine T.ret0 Z (fun W D h => ?_)
   have hn : ¬ (claim.step C.M l).1.next = .nil := by simpa using hb0
   have e : (⟨v, claim, put, event, .claims⟩ : Bu).step0 C.M [] l = _ := if_neg hn
   rw [show (⟨⟨v, claim, put, event, .claims⟩, bf, []⟩ : BuS).step0 C.M l = (⟨((⟨v, claim, put, event, .claims⟩ : Bu).step0 C.M [] l).1, bf, ((⟨v, claim, put, event, .claims⟩ : Bu).step0 C.M [] l).2.1⟩, ((⟨v, claim, put, event, .claims⟩ : Bu).step0 C.M [] l).2.2) from rfl, e]
   exact ⟨D, ⟨rfl, rfl, _, _, _, _, _, _, ⟨.inl ⟨rfl, rfl, rfl⟩, rfl, _, rfl, rfl⟩, h⟩, fun _ hk => hk⟩
  ·intro hb0
   have hn0 : (claim.step C.M l).1.next = .nil := by simpa using hb0
   refine T.skip <| T.seq <| tx [0,1,2,3] (ct [3]) Z Z <| xmv Z Z Z <| xnc Z Z Z <| xfa Z Z Z f235_5 <| xst Z Z Z Z o130 Z .z Z .z pend0 <| X.nil <| T.seq <| T.seq <| tx [0,1,2,3,4,5] nf Z Z <| xmv Z Z Z <| xnc Z Z Z <| xfa Z Z Z f235_2 ?_
   refine xld Z Z Z o225 .z Z <| xcq Z Z Z Z g227 (cl_Won) loc_ClR <| xnot Z Z Z <| X.nil <| T.cond Z ?_ ?_
   ·intro hb1
    have hw : ¬ (claim.step C.M l).1.won = true := by simpa using hb1
    refine T.ret0 Z (fun W D h => ?_)
    have e : (⟨v, claim, put, event, .claims⟩ : Bu).step0 C.M [] l = _ := (if_pos hn0).trans (if_neg hw)
    rw [show (⟨⟨v, claim, put, event, .claims⟩, bf, []⟩ : BuS).step0 C.M l = (⟨((⟨v, claim, put, event, .claims⟩ : Bu).step0 C.M [] l).1, bf, ((⟨v, claim, put, event, .claims⟩ : Bu).step0 C.M [] l).2.1⟩, ((⟨v, claim, put, event, .claims⟩ : Bu).step0 C.M [] l).2.2) from rfl, e]
    obtain ⟨D1, h1, h2⟩ := blks_drop h
    exact ⟨D1, ⟨rfl, rfl, _, _, _, _, _, _, ⟨.inl ⟨rfl, rfl, rfl⟩, rfl, rfl⟩, h1⟩, h2⟩
   ·intro hb1
    have hw : (claim.step C.M l).1.won = true := by simpa using hb1
    refine T.skip <| T.seq <| tx [0,1,2,3,4,5,6,7,8] (ct [8]) Z Z <| xmv Z Z Z <| xmv Z Z Z <| xnc Z Z Z <| xfa Z Z Z f235_1 <| xld Z Z Z o3 .z Z <| xbd Z Z Z l33 z33 Z <| xnc Z Z Z <| xfa Z Z Z f235_4 ?_
    refine xsta Z Z Z Z m33 Z Z .z (Nat.le_of_ble_eq_true Z) .z pend0 <| X.nil <| T.seq ?_
    refine T.any (ord := [0, 1, 2, 3, 4, 5, 6, 7, 8, 9, 10, 11, 12, 13, 14, 15, 16, 17, 18, 19, 20, 21]) (lo := (fun i => [0, 1, 2, 3, 4, 5, 6, 7, 8, 9, 10].contains i)) (ef := (fun i => [17, 18, 21].contains i)) (by kernel_rfl) (fun _ h => h.drew) ?_
    refine xmv Z Z Z <| xnc Z Z Z <| xfa Z Z Z f235_0 <| xld Z Z Z o126 .z Z <| xmv Z Z Z <| xnc Z Z Z <| xfa Z Z Z f235_0 <| xld Z Z Z o126 .z Z <| xnc Z Z Z <| xfa Z Z Z f166_1 <| xld Z Z Z o43 (.s .z) Z <| xmv Z Z Z <| xnc Z Z Z <| xfa Z Z Z f235_1 ?_
    refine xld Z Z Z o3 .z Z <| xcvc Z Z Z u115_dIntu32 u3_fun_true (wrap32u32 hm.v) <| xcq Z Z Z Z g53 (ct_Pair hm.v (by omega)) loc_ClR ?_
    refine xbs Z Z Z s43 z90 (by decide) Z Z Z (fun _ => (pxld Z Z o43 (.s (.s .z)) Z (pxfa Z Z f166_1 (pxnc Z Z (pxld Z Z o126 (.s .z) Z (pxfa Z Z f235_0 (pxnc Z Z (pendmv Z Z (pxld Z Z o126 (.s .z) Z (pxfa Z Z f235_0 (pxnc Z Z (pendmv Z Z pend0)))))))))))) (fun b0 => ?_)
    refine xap0 (cs := [.int .u64 (pair v 0)]) (rest := []) Z Z Z s43 .z (by omega) Z (fun _ _ => (pxld Z Z o43 (.s (.s (.s .z))) Z (pxfa Z Z f166_1 (pxnc Z Z (pxld Z Z o126 (.s (.s .z)) Z (pxfa Z Z f235_0 (pxnc Z Z (pendmv Z Z (pxld Z Z o126 (.s (.s .z)) Z (pxfa Z Z f235_0 (pxnc Z Z (pendmv Z Z pend0)))))))))))) (fun q1 rs cm hcm => ?_)
    refine xnc Z Z Z <| xfa Z Z Z f166_1 ?_
    refine xst Z Z Z Z o43 Z (.s (.s (.s .z))) Z (.s (.s (.s .z))) (pendsk (by kernel_rfl) (pendsk (by kernel_rfl) (pendsk (by kernel_rfl) (pendsk (by kernel_rfl) (pendsk (by kernel_rfl) (pendsk (by kernel_rfl) (pendsk (by kernel_rfl) (pendsk (by kernel_rfl) (pendsk (by kernel_rfl) (pendsk (by kernel_rfl) (pendsk (by kernel_rfl) pend0))))))))))) ?_
    refine X.nil <| T.seq <| T.any (ord := [0, 1, 2, 3, 4, 5, 6, 7, 8, 9, 10, 11, 12, 13, 14, 15, 16, 17]) (lo := (fun _ => false)) (ef := (fun _ => false)) (by kernel_rfl) (fun _ h => h.drew) <| xmv Z Z Z <| xnc Z Z Z <| xfa Z Z Z f235_0 ?_
    refine xld Z Z Z o126 (.s (.s .z)) Z <| xnc Z Z Z <| xfa Z Z Z f166_1 <| xld Z Z Z o43 (.s (.s (.s .z))) Z <| xlen Z Z Z u43_dSlice <| xmv Z Z Z <| xnc Z Z Z <| xfa Z Z Z f235_0 <| xld Z Z Z o126 (.s (.s .z)) Z <| xnc Z Z Z <| xfa Z Z Z f166_0 ?_
    refine xld Z Z Z o39 (.s (.s (.s .z))) Z <| xcq Z Z Z Z g115 (ct_ConfigR loc_ClR) loc_ClR <| xfd Z Z Z f24_5 t24_5 o3 Z <| xcm Z Z Z Z Z Z <| X.nil <| T.cond Z ?_ ?_
    ·intro hb2
     refine tx [0,1] (ct [1]) Z Z <| xmv Z Z Z ?_
     refine xcfp (H2 := [_, _, _]) (is := [2, 3, 0]) (by decide) Z Z Z Z g182 Z (ct_buFlush loc_ClR (v := v) (claim := (claim.step C.M l).1) (put := put) (event := ⟨1, 0, v, 0, 0⟩) (nx := .claims) (bf := bf) (ts := [pair v 0]) (tv := .slice none 0 0) (B := []) (by simp) (by simp) hcm.1 hcm.2) loc_BuR pend0 ?_
     refine X.nil <| T.end0 Z (fun W D h => ?_)
     have e : (⟨v, claim, put, event, .claims⟩ : Bu).step0 C.M [] l = _ := (if_pos hn0).trans ((if_pos hw).trans (if_pos (of_decide_eq_true hb2)))
     rw [show (⟨⟨v, claim, put, event, .claims⟩, bf, []⟩ : BuS).step0 C.M l = (⟨((⟨v, claim, put, event, .claims⟩ : Bu).step0 C.M [] l).1, bf, ((⟨v, claim, put, event, .claims⟩ : Bu).step0 C.M [] l).2.1⟩, ((⟨v, claim, put, event, .claims⟩ : Bu).step0 C.M [] l).2.2) from rfl, e]
     exact ⟨D, ⟨rfl, rfl, h⟩, fun _ hk => hk⟩
    ·intro hb2
     refine T.skip <| T.end0 Z (fun W D h => ?_)
     have e : (⟨v, claim, put, event, .claims⟩ : Bu).step0 C.M [] l = _ := (if_pos hn0).trans ((if_pos hw).trans (if_neg (of_decide_eq_false hb2)))
     rw [show (⟨⟨v, claim, put, event, .claims⟩, bf, []⟩ : BuS).step0 C.M l = (⟨((⟨v, claim, put, event, .claims⟩ : Bu).step0 C.M [] l).1, bf, ((⟨v, claim, put, event, .claims⟩ : Bu).step0 C.M [] l).2.1⟩, ((⟨v, claim, put, event, .claims⟩ : Bu).step0 C.M [] l).2.2) from rfl, e]
     obtain ⟨D1, h1, h2⟩ := blks_pick0 [2, 3, 0] (by decide) h
     exact ⟨D1, ⟨rfl, rfl, _, _, _, _, _, _, ⟨Sls.new (by simp) hcm.1 hcm.2, rfl, rfl⟩, h1⟩, h2⟩
 
 ·have hlt : (ts.length : Int) < C.M.buffer := hm.lt (by simp)
  refine ⟨204, [ptr d], [], rfl, g204, ?_⟩
  refine Ct.of (vs := [ptr d, ptr C.s]) Tryz.func204 rfl Tryz.ntmps204 (by simp) (loc_blks (loc_blks loc_ClR _) _) ?_
  intro w0 D0
  refine T.conv (fun w h => Sy.opens (H2 := [_]) h (loc_blks loc_ClR _)) <| T.bks loc_ClR <| T.seq <| T.seq <| tx [0,1,2,3,4,5,6] (ct [5]) Z Z <| xmv Z Z Z <| xnc Z Z Z <| xfa Z Z Z f235_2 <| xld Z Z Z o225 .z Z <| xmv Z Z Z ?_
  refine xce Z Z Z Z g226 (ct_clStep hm.claim) loc_ClR pend0 <| xnot Z Z Z <| X.nil <| T.cond Z ?_ ?_
  ·intro hb0
   refine T.ret0 Z (fun W D h => ?_)
   have hn : ¬ (claim.step C.M l).1.next = .nil := by simpa using hb0
   have e : (⟨v, claim, put, event, .claims⟩ : Bu).step0 C.M ts l = _ := if_neg hn
   rw [show (⟨⟨v, claim, put, event, .claims⟩, bf, ts⟩ : BuS).step0 C.M l = (⟨((⟨v, claim, put, event, .claims⟩ : Bu).step0 C.M ts l).1, bf, ((⟨v, claim, put, event, .claims⟩ : Bu).step0 C.M ts l).2.1⟩, ((⟨v, claim, put, event, .claims⟩ : Bu).step0 C.M ts l).2.2) from rfl, e]
   exact ⟨D, ⟨rfl, rfl, _, _, _, _, _, _, ⟨.inr ⟨_, _, _, rfl, hne, rfl, hcm0, hle0⟩, rfl, _, rfl, rfl⟩, h⟩, fun _ hk => hk⟩
  ·intro hb0
   have hn0 : (claim.step C.M l).1.next = .nil := by simpa using hb0
   refine T.skip <| T.seq <| tx [0,1,2,3] (ct [3]) Z Z <| xmv Z Z Z <| xnc Z Z Z <| xfa Z Z Z f235_5 <| xst Z Z Z Z o130 Z .z Z .z pend0 <| X.nil <| T.seq <| T.seq <| tx [0,1,2,3,4,5] nf Z Z <| xmv Z Z Z <| xnc Z Z Z <| xfa Z Z Z f235_2 ?_
   refine xld Z Z Z o225 .z Z <| xcq Z Z Z Z g227 (cl_Won) loc_ClR <| xnot Z Z Z <| X.nil <| T.cond Z ?_ ?_
   ·intro hb1
    have hw : ¬ (claim.step C.M l).1.won = true := by simpa using hb1
    refine T.ret0 Z (fun W D h => ?_)
    have e : (⟨v, claim, put, event, .claims⟩ : Bu).step0 C.M ts l = _ := (if_pos hn0).trans (if_neg hw)
    rw [show (⟨⟨v, claim, put, event, .claims⟩, bf, ts⟩ : BuS).step0 C.M l = (⟨((⟨v, claim, put, event, .claims⟩ : Bu).step0 C.M ts l).1, bf, ((⟨v, claim, put, event, .claims⟩ : Bu).step0 C.M ts l).2.1⟩, ((⟨v, claim, put, event, .claims⟩ : Bu).step0 C.M ts l).2.2) from rfl, e]
    obtain ⟨D1, h1, h2⟩ := blks_drop h
    exact ⟨D1, ⟨rfl, rfl, _, _, _, _, _, _, ⟨.inr ⟨_, _, _, rfl, hne, rfl, hcm0, hle0⟩, rfl, rfl⟩, h1⟩, h2⟩
   ·intro hb1
    have hw : (claim.step C.M l).1.won = true := by simpa using hb1
    refine T.skip <| T.seq <| tx [0,1,2,3,4,5,6,7,8] (ct [8]) Z Z <| xmv Z Z Z <| xmv Z Z Z <| xnc Z Z Z <| xfa Z Z Z f235_1 <| xld Z Z Z o3 .z Z <| xbd Z Z Z l33 z33 Z <| xnc Z Z Z <| xfa Z Z Z f235_4 ?_
    refine xsta Z Z Z Z m33 Z Z .z (Nat.le_of_ble_eq_true Z) .z pend0 <| X.nil <| T.seq ?_
    refine T.any (ord := [0, 1, 2, 3, 4, 5, 6, 7, 8, 9, 10, 11, 12, 13, 14, 15, 16, 17, 18, 19, 20, 21]) (lo := (fun i => [0, 1, 2, 3, 4, 5, 6, 7, 8, 9, 10].contains i)) (ef := (fun i => [17, 18, 21].contains i)) (by kernel_rfl) (fun _ h => h.drew) ?_
    refine xmv Z Z Z <| xnc Z Z Z <| xfa Z Z Z f235_0 <| xld Z Z Z o126 .z Z <| xmv Z Z Z <| xnc Z Z Z <| xfa Z Z Z f235_0 <| xld Z Z Z o126 .z Z <| xnc Z Z Z <| xfa Z Z Z f166_1 <| xld Z Z Z o43 (.s .z) Z <| xmv Z Z Z <| xnc Z Z Z <| xfa Z Z Z f235_1 ?_
    refine xld Z Z Z o3 .z Z <| xcvc Z Z Z u115_dIntu32 u3_fun_true (wrap32u32 hm.v) <| xcq Z Z Z Z g53 (ct_Pair hm.v (by omega)) loc_ClR ?_
    refine xbs Z Z Z s43 z90 (by decide) Z Z Z (fun _ => (pxld Z Z o43 (.s (.s .z)) Z (pxfa Z Z f166_1 (pxnc Z Z (pxld Z Z o126 (.s .z) Z (pxfa Z Z f235_0 (pxnc Z Z (pendmv Z Z (pxld Z Z o126 (.s .z) Z (pxfa Z Z f235_0 (pxnc Z Z (pendmv Z Z pend0)))))))))))) (fun b0 => ?_)
    refine xapg (Hr := [_, _, _]) (cs := u64s ts) (rest := rs0) (rest2 := []) Z Z Z s43 Z (by simp [u64s]) hle0 .z Z (by simp [isCell]) ⟨by omega, (show ts.length + 1 ≤ 1000000 by omega), by omega, by omega, hcm0⟩ (u64s_app ts _) (show ts.length + 1 = (ts ++ [pair v 0]).length by simp) (fun _ _ => (pxld Z Z o43 (.s (.s (.s .z))) Z (pxfa Z Z f166_1 (pxnc Z Z (pxld Z Z o126 (.s (.s .z)) Z (pxfa Z Z f235_0 (pxnc Z Z (pendmv Z Z (pxld Z Z o126 (.s (.s .z)) Z (pxfa Z Z f235_0 (pxnc Z Z (pendmv Z Z pend0)))))))))))) (fun q1 rs cm hcm => ?_)
    refine xnc Z Z Z <| xfa Z Z Z f166_1 ?_
    refine xst Z Z Z Z o43 Z (.s (.s (.s .z))) Z (.s (.s (.s .z))) (pendsk (by kernel_rfl) (pendsk (by kernel_rfl) (pendsk (by kernel_rfl) (pendsk (by kernel_rfl) (pendsk (by kernel_rfl) (pendsk (by kernel_rfl) (pendsk (by kernel_rfl) (pendsk (by kernel_rfl) (pendsk (by kernel_rfl) (pendsk (by kernel_rfl) (pendsk (by kernel_rfl) pend0))))))))))) ?_
    refine X.nil <| T.seq <| T.any (ord := [0, 1, 2, 3, 4, 5, 6, 7, 8, 9, 10, 11, 12, 13, 14, 15, 16, 17]) (lo := (fun _ => false)) (ef := (fun _ => false)) (by kernel_rfl) (fun _ h => h.drew) <| xmv Z Z Z <| xnc Z Z Z <| xfa Z Z Z f235_0 ?_
    refine xld Z Z Z o126 (.s (.s .z)) Z <| xnc Z Z Z <| xfa Z Z Z f166_1 <| xld Z Z Z o43 (.s (.s (.s .z))) Z <| xlen Z Z Z u43_dSlice <| xmv Z Z Z <| xnc Z Z Z <| xfa Z Z Z f235_0 <| xld Z Z Z o126 (.s (.s .z)) Z <| xnc Z Z Z <| xfa Z Z Z f166_0 ?_
    refine xld Z Z Z o39 (.s (.s (.s .z))) Z <| xcq Z Z Z Z g115 (ct_ConfigR loc_ClR) loc_ClR <| xfd Z Z Z f24_5 t24_5 o3 Z <| xcm Z Z Z Z Z Z <| X.nil <| T.cond Z ?_ ?_
    ·intro hb2
     refine tx [0,1] (ct [1]) Z Z <| xmv Z Z Z ?_
     refine xcfp (H2 := [_, _, _]) (is := [2, 3, 0]) (by decide) Z Z Z Z g182 Z (ct_buFlush loc_ClR (v := v) (claim := (claim.step C.M l).1) (put := put) (event := ⟨1, 0, v, 0, 0⟩) (nx := .claims) (bf := bf) (ts := (ts ++ [pair v 0])) (tv := .slice none 0 0) (B := []) (by simp) (by simp only [List.length_append, List.length_singleton]; omega) hcm.1 hcm.2) loc_BuR pend0 ?_
     refine X.nil <| T.end0 Z (fun W D h => ?_)
     have e : (⟨v, claim, put, event, .claims⟩ : Bu).step0 C.M ts l = _ := (if_pos hn0).trans ((if_pos hw).trans (if_pos (of_decide_eq_true hb2)))
     rw [show (⟨⟨v, claim, put, event, .claims⟩, bf, ts⟩ : BuS).step0 C.M l = (⟨((⟨v, claim, put, event, .claims⟩ : Bu).step0 C.M ts l).1, bf, ((⟨v, claim, put, event, .claims⟩ : Bu).step0 C.M ts l).2.1⟩, ((⟨v, claim, put, event, .claims⟩ : Bu).step0 C.M ts l).2.2) from rfl, e]
     exact ⟨D, ⟨rfl, rfl, h⟩, fun _ hk => hk⟩
    ·intro hb2
     refine T.skip <| T.end0 Z (fun W D h => ?_)
     have e : (⟨v, claim, put, event, .claims⟩ : Bu).step0 C.M ts l = _ := (if_pos hn0).trans ((if_pos hw).trans (if_neg (of_decide_eq_false hb2)))
     rw [show (⟨⟨v, claim, put, event, .claims⟩, bf, ts⟩ : BuS).step0 C.M l = (⟨((⟨v, claim, put, event, .claims⟩ : Bu).step0 C.M ts l).1, bf, ((⟨v, claim, put, event, .claims⟩ : Bu).step0 C.M ts l).2.1⟩, ((⟨v, claim, put, event, .claims⟩ : Bu).step0 C.M ts l).2.2) from rfl, e]
     obtain ⟨D1, h1, h2⟩ := blks_pick0 [2, 3, 0] (by decide) h
     exact ⟨D1, ⟨rfl, rfl, _, _, _, _, _, _, ⟨Sls.new (by simp) hcm.1 hcm.2, rfl, rfl⟩, h1⟩, h2⟩
 
set_option maxHeartbeats 1000000 in
theorem bu_puts {C : Cx} {d : Nat} {m : BuS} {l : Wds} (hM : C.M.Ok) (hm : m.Ok C.M) (hr : ∀ a, u64R (ld l a)) (hn : m.next = .puts) : BuRun C d m l (m.step0 C.M l).1 (m.step0 C.M l).2 := by
 obtain ⟨⟨v, claim, put, event, nx⟩, bf, ts⟩ := m
 obtain rfl : nx = .puts := hn
 have hB := hM.buffer
 rintro tv B cv pv nv RN ⟨hs, rfl, q, rfl, rfl⟩
 rcases hs with ⟨rfl, rfl, rfl⟩ | ⟨tb, rs0, cm0, rfl, hne, rfl, hcm0, hle0⟩
 ·refine ⟨206, [ptr d], [], rfl, g206, ?_⟩
  refine Ct.of (vs := [ptr d, ptr C.s]) Tryz.func206 rfl Tryz.ntmps206 (by simp) (loc_blks (loc_blks loc_PkR _) _) ?_
  intro w0 D0
  refine T.conv (fun w h => Sy.opens (H2 := [_]) h (loc_blks loc_PkR _)) <| T.bks loc_PkR <| T.seq <| tx [0,1,2,3,4,5] (ct [5]) Z Z <| xmv Z Z Z <| xnc Z Z Z <| xfa Z Z Z f235_3 <| xld Z Z Z o180 .z Z <| xmv Z Z Z ?_
  refine xce Z Z Z Z g190 (ct_pkStep hm.put hr) loc_PkR pend0 <| X.nil <| T.cond Z ?_ ?_
  ·intro hb0
   refine T.seq <| tx [0,1,2,3,4,5,6] (ct [6]) Z Z <| xmv Z Z Z <| xnc Z Z Z <| xfa Z Z Z f235_0 <| xld Z Z Z o126 .z Z <| xnc Z Z Z <| xfa Z Z Z f166_1 <| xst Z Z Z Z o43 Z (.s .z) Z (.s .z) pend0 <| X.nil <| tx [0,1,2,3] (ct [3]) Z Z <| xmv Z Z Z ?_
   refine xnc Z Z Z <| xfa Z Z Z f235_5 <| xst Z Z Z Z o130 Z .z Z .z pend0 <| X.nil <| T.end0 Z (fun W D h => ?_)
   have e : (⟨v, claim, put, event, .puts⟩ : Bu).step0 C.M [] l = _ := if_pos (of_decide_eq_true hb0)
   rw [show (⟨⟨v, claim, put, event, .puts⟩, bf, []⟩ : BuS).step0 C.M l = (⟨((⟨v, claim, put, event, .puts⟩ : Bu).step0 C.M [] l).1, bf, ((⟨v, claim, put, event, .puts⟩ : Bu).step0 C.M [] l).2.1⟩, ((⟨v, claim, put, event, .puts⟩ : Bu).step0 C.M [] l).2.2) from rfl, e]
   obtain ⟨D1, h1, h2⟩ := blks_pick0 [0, 1] (by decide) h
   exact ⟨D1, ⟨rfl, rfl, _, _, _, _, _, _, ⟨.inl ⟨rfl, rfl, rfl⟩, rfl, rfl⟩, h1⟩, h2⟩
  ·intro hb0
   refine T.skip <| T.end0 Z (fun W D h => ?_)
   have e : (⟨v, claim, put, event, .puts⟩ : Bu).step0 C.M [] l = _ := if_neg (of_decide_eq_false hb0)
   rw [show (⟨⟨v, claim, put, event, .puts⟩, bf, []⟩ : BuS).step0 C.M l = (⟨((⟨v, claim, put, event, .puts⟩ : Bu).step0 C.M [] l).1, bf, ((⟨v, claim, put, event, .puts⟩ : Bu).step0 C.M [] l).2.1⟩, ((⟨v, claim, put, event, .puts⟩ : Bu).step0 C.M [] l).2.2) from rfl, e]
   exact ⟨D, ⟨rfl, rfl, _, _, _, _, _, _, ⟨.inl ⟨rfl, rfl, rfl⟩, rfl, _, rfl, rfl⟩, h⟩, fun _ hk => hk⟩
 
 ·refine ⟨206, [ptr d], [], rfl, g206, ?_⟩
  refine Ct.of (vs := [ptr d, ptr C.s]) Tryz.func206 rfl Tryz.ntmps206 (by simp) (loc_blks (loc_blks loc_PkR _) _) ?_
  intro w0 D0
  refine T.conv (fun w h => Sy.opens (H2 := [_]) h (loc_blks loc_PkR _)) <| T.bks loc_PkR <| T.seq <| tx [0,1,2,3,4,5] (ct [5]) Z Z <| xmv Z Z Z <| xnc Z Z Z <| xfa Z Z Z f235_3 <| xld Z Z Z o180 .z Z <| xmv Z Z Z ?_
  refine xce Z Z Z Z g190 (ct_pkStep hm.put hr) loc_PkR pend0 <| X.nil <| T.cond Z ?_ ?_
  ·intro hb0
   refine T.seq <| tx [0,1,2,3,4,5,6] (ct [6]) Z Z <| xmv Z Z Z <| xnc Z Z Z <| xfa Z Z Z f235_0 <| xld Z Z Z o126 .z Z <| xnc Z Z Z <| xfa Z Z Z f166_1 <| xst Z Z Z Z o43 Z (.s .z) Z (.s .z) pend0 <| X.nil <| tx [0,1,2,3] (ct [3]) Z Z <| xmv Z Z Z ?_
   refine xnc Z Z Z <| xfa Z Z Z f235_5 <| xst Z Z Z Z o130 Z .z Z .z pend0 <| X.nil <| T.end0 Z (fun W D h => ?_)
   have e : (⟨v, claim, put, event, .puts⟩ : Bu).step0 C.M ts l = _ := if_pos (of_decide_eq_true hb0)
   rw [show (⟨⟨v, claim, put, event, .puts⟩, bf, ts⟩ : BuS).step0 C.M l = (⟨((⟨v, claim, put, event, .puts⟩ : Bu).step0 C.M ts l).1, bf, ((⟨v, claim, put, event, .puts⟩ : Bu).step0 C.M ts l).2.1⟩, ((⟨v, claim, put, event, .puts⟩ : Bu).step0 C.M ts l).2.2) from rfl, e]
   obtain ⟨D1, h1, h2⟩ := blks_pick0 [0, 1] (by decide) h
   exact ⟨D1, ⟨rfl, rfl, _, _, _, _, _, _, ⟨.inl ⟨rfl, rfl, rfl⟩, rfl, rfl⟩, h1⟩, h2⟩
  ·intro hb0
   refine T.skip <| T.end0 Z (fun W D h => ?_)
   have e : (⟨v, claim, put, event, .puts⟩ : Bu).step0 C.M ts l = _ := if_neg (of_decide_eq_false hb0)
   rw [show (⟨⟨v, claim, put, event, .puts⟩, bf, ts⟩ : BuS).step0 C.M l = (⟨((⟨v, claim, put, event, .puts⟩ : Bu).step0 C.M ts l).1, bf, ((⟨v, claim, put, event, .puts⟩ : Bu).step0 C.M ts l).2.1⟩, ((⟨v, claim, put, event, .puts⟩ : Bu).step0 C.M ts l).2.2) from rfl, e]
   exact ⟨D, ⟨rfl, rfl, _, _, _, _, _, _, ⟨.inr ⟨_, _, _, rfl, hne, rfl, hcm0, hle0⟩, rfl, _, rfl, rfl⟩, h⟩, fun _ hk => hk⟩
 
theorem bu_run {C : Cx} {d : Nat} {m : BuS} {l : Wds} (hM : C.M.Ok) (hm : m.Ok C.M) (hr : ∀ a, u64R (ld l a)) (hn : m.next ≠ .nil) : BuRun C d m l (m.step0 C.M l).1 (m.step0 C.M l).2 := by
 cases h : m.next with
 | nil => exact (hn h).elim
 | claims => exact bu_claims hM hm hr h
 | puts => exact bu_puts hM hm hr h
theorem BuS.noev_ok {M : MapM} {m : BuS} (hm : m.Ok M) : ({ m with event := ev0 } : BuS).Ok M := ⟨hm.v, hm.claim, hm.put, hm.ts, hm.le, hm.lt, hm.ne⟩
theorem ct_buStep {C : Cx} {d : Nat} {m : BuS} {l : Wds} (hM : C.M.Ok) (hm : m.Ok C.M) (hr : ∀ a, u64R (ld l a)) : Cv C 180 [ptr d, ptr C.s] l (BuR C d m) (.bool (decide ((m.step C.M l).1.next = .nil))) (m.step C.M l).2 (BuR C d (m.step C.M l).1) := by
 by_cases hn : m.next = .nil
 ·have e : m.step C.M l = ({ m with event := ev0 }, l) := by unfold BuS.step BuS.step0 Bu.step0; simp only [hn]
  rw [e, show decide (({ m with event := ev0 } : BuS).next = .nil) = true from decide_eq_true hn]
  exact bu_Nil hn
 ·exact bu_Step (bu_run hM (BuS.noev_ok hm) hr hn)
set_option maxHeartbeats 1000000 in
theorem ct_buLog {C : Cx} {l : Wds} {bf : Nat} {ts : List Int} {v c : Int} (hv : C.M.Room v > 0) : Cn C 178 [ptr bf, .int .i64 v, .int .u64 c] l (BfR C bf ts) l (fun q => BuR C q ⟨.log v c, bf, ts⟩) := by
 refine Ct.of Tryz.func178 rfl Tryz.ntmps178 (by simp) loc_BfR ?_
 intro w0 D0
 refine T.ex (fun _ => loc_ex fun _ => loc_and (loc_blks loc_emp _)) ?_
 intro tv
 refine T.ex (fun _ => loc_and (loc_blks loc_emp _)) ?_
 intro B
 refine T.and (fun _ => loc_blks loc_emp _) ?_
 intro hs
 refine T.conv (fun w h => Sy.opens (H2 := _ :: _) h loc_emp) <| T.seq <| tx [0] nf Z Z <| xas Z Z Z <| X.nil <| T.seq <| tx [0,1,2,3,4] (ct [3]) Z Z <| xmv Z Z Z <| xmv Z Z Z <| xbd Z Z Z l235 z235 Z <| xbx Z Z Z Z (fun _ => pend0) (fun b0 => ?_)
 refine xas Z Z Z <| X.nil <| T.seq <| T.seq <| tx [0,1,2,3,4,5,6,7,8,9,10] nf Z Z <| xmv Z Z Z <| xnpn Z Z Z Z u126_dPtr <| xmv Z Z Z <| xmv Z Z Z <| xnc Z Z Z <| xfa Z Z Z f166_0 <| xld Z Z Z o39 (.s .z) Z <| xmv Z Z Z ?_
 refine xcq Z Z Z Z g55 (ct_Room) loc_emp <| xcm (c := true) Z Z Z Z Z (decide_eq_true hv) <| xpk Z Z Z Z <| X.nil <| T.yes Z <| T.seq <| tx [0,1,2,3,4,5,6,7,8,9,10] (ct [7,10]) Z Z <| xmv Z Z Z <| xmv Z Z Z <| xnc Z Z Z <| xfa Z Z Z f166_0 ?_
 refine xld Z Z Z o39 (.s .z) Z <| xmv Z Z Z <| xmv Z Z Z <| xcn Z Z Z Z g203 (ct_clNew) (fun _ => loc_ClR) (fun _ => pend0) (fun q1 => ?_)
 refine xnc Z Z Z <| xfa Z Z Z f235_2 <| xst Z Z Z Z o225 Z .z Z .z pend0 <| X.nil <| tx [0,1,2,3,4,5] (ct [5]) Z Z <| xmv Z Z Z <| xmv Z Z Z <| xmf Z Z Z Z <| xnc Z Z Z <| xfa Z Z Z f235_5 <| xst Z Z Z Z o130 Z .z Z .z pend0 <| X.nil <| T.seq ?_
 refine tx [0,1] nf Z Z <| xmv Z Z Z <| xas Z Z Z <| X.nil <| T.ret1 Z (fun W D h => ?_)
 exact ⟨D, ⟨_, rfl, rfl, _, _, _, _, _, _, ⟨hs, rfl, _, rfl, rfl⟩, h⟩, fun _ hk => hk⟩
set_option maxHeartbeats 1000000 in
theorem ct_buFlushNew {C : Cx} {l : Wds} {bf : Nat} {ts : List Int} (ht : ts ≠ []) (h4 : ts.length ≤ 4) : Cn C 153 [ptr bf] l (BfR C bf ts) l (fun q => BuR C q ⟨.flush ts, bf, ts⟩) := by
 refine Ct.of Tryz.func153 rfl Tryz.ntmps153 (by simp) loc_BfR ?_
 intro w0 D0
 refine T.ex (fun _ => loc_ex fun _ => loc_and (loc_blks loc_emp _)) ?_
 intro tv
 refine T.ex (fun _ => loc_and (loc_blks loc_emp _)) ?_
 intro B
 refine T.and (fun _ => loc_blks loc_emp _) ?_
 intro hs
 obtain ⟨tb, rs, cm, rfl, -, rfl, hcm, hle⟩ := hs.resolve_left (fun h => ht h.2.1)
 refine T.conv (fun w h => Sy.opens (H2 := [_, _]) h loc_emp) <| T.seq <| tx [0] nf Z Z <| xas Z Z Z <| X.nil <| T.seq <| tx [0,1,2,3] (ct [2]) Z Z <| xmv Z Z Z <| xbd Z Z Z l235 z235 Z <| xbx Z Z Z Z (fun _ => pend0) (fun b0 => ?_)
 refine xas Z Z Z <| X.nil <| T.seq <| T.seq <| tx [0,1,2,3,4,5,6,7,8] nf Z Z <| xmv Z Z Z <| xnpn Z Z Z Z u126_dPtr <| xmv Z Z Z <| xmv Z Z Z <| xnc Z Z Z <| xfa Z Z Z f166_0 <| xld Z Z Z o39 (.s .z) Z <| xnpn Z Z Z Z u39_dPtr <| xpk Z Z Z Z <| X.nil ?_
 refine T.yes Z <| tx [0,1] (ct [1]) Z Z <| xmv Z Z Z ?_
 refine xcfp (H2 := [_, _, _]) (is := [0, 1, 2]) (by decide) Z Z Z Z g182 Z (ct_buFlush loc_emp (v := 0) (claim := .new 0 0) (put := .take) (event := ev0) (nx := .nil) (bf := bf) (ts := ts) (tv := .slice none 0 0) (B := []) ht h4 hcm hle) loc_BuR pend0 ?_
 refine X.nil <| T.seq <| tx [0,1] nf Z Z <| xmv Z Z Z <| xas Z Z Z <| X.nil <| T.ret1 Z (fun W D h => ?_)
 have e : Bu.flush ts = ⟨0, .new 0 0, .put ts, ev0, .puts⟩ := by unfold Bu.flush; rw [if_neg ht]
 rw [e]
 exact ⟨D, ⟨_, rfl, rfl, h⟩, fun _ hk => hk⟩
theorem BuS.step_ok {M : MapM} (hM : M.Ok) {m : BuS} {l : Wds} (hm : m.Ok M) (hr : ∀ a, u64R (ld l a)) : (m.step M l).1.Ok M := by
 have h1 := Cl.step_ok (M := M) (l := l) hm.claim
 have h2 := Pk.step_ok (M := M) hm.put hr
 have hB := hM.buffer
 have hp : u64R (pair m.v 0) := pair_rng hm.v (by omega)
 have hts : ∀ t ∈ m.ts ++ [pair m.v 0], u64R t := fun t ht => by
  rcases List.mem_append.1 ht with h | h
  ·exact hm.ts t h
  ·rw [List.mem_singleton.1 h]; exact hp
 unfold BuS.step BuS.step0 Bu.step0
 split
 ·exact BuS.noev_ok hm
 ·rename_i hn
  have hn' : m.next = .claims := hn
  have hlt := hm.lt (by rw [hn']; exact fun h => nomatch h)
  split
  ·split
   ·split
    ·rename_i hge
     refine ⟨hm.v, h1, Pk.put_ok hts ?_, hts, ?_, fun h => (h rfl).elim, fun _ => by simp⟩
     ·simp only [List.length_append, List.length_singleton]; omega
     ·simp only [List.length_append, List.length_singleton]; omega
    ·rename_i hge
     refine ⟨hm.v, h1, hm.put, hts, ?_, fun _ => ?_, fun h => nomatch h⟩
     ·simp only at hge ⊢; omega
     ·simp only at hge ⊢; omega
   ·exact ⟨hm.v, h1, hm.put, hm.ts, hm.le, fun _ => hlt, fun h => nomatch h⟩
  ·exact ⟨hm.v, h1, hm.put, hm.ts, hm.le, fun _ => hlt, fun h => by have h' : m.next = .puts := h; rw [hn'] at h'; cases h'⟩
 ·rename_i hn
  have hn' : m.next = .puts := hn
  split
  ·exact ⟨hm.v, hm.claim, h2, by simp, by simp only [List.length_nil]; omega, fun _ => by simp only [List.length_nil]; omega, fun h => nomatch h⟩
  ·exact ⟨hm.v, hm.claim, h2, hm.ts, hm.le, fun h => (h hn').elim, fun _ => hm.ne hn'⟩
theorem BuS.step_rng {M : MapM} {m : BuS} {l : Wds} (hm : m.Ok M) (hr : Rng l) : Rng (m.step M l).2 := by
 have h1 := Cl.step_rng (M := M) hm.claim hr
 have h2 := Pk.step_rng (M := M) hm.put hr
 unfold BuS.step BuS.step0 Bu.step0
 split <;> (try split) <;> (try split) <;> (try split) <;> first | exact hr | exact h1 | exact h2
def Hp.cs (C : Cx) (x : Hp) (dv nv : Value) : List Value :=
 [ptr C.m, .int .i64 x.slots, .int .i64 (classOf x.slots), .int .u64 x.mark, .int .u64 x.h, .int .u32 x.link, .int .i64 x.v, dv, .int .i64 x.tries, .int .i64 x.i, .int .i64 x.node, .int .i64 x.e, .int .i64 x.event.kind, .int .i64 x.event.who, .int .i64 x.event.a, .int .i64 x.event.b, .int .i64 x.event.c, nv]
def HpNx (C : Cx) (d : Nat) (x : Hp) (dv nv : Value) (RN : Asr) : Prop := match x.next with
 | .nil => nv = .nilFunc ∧ RN = emp
 | .look => nv = fm 124 d ∧ RN = emp
 | .links => nv = fm 159 d ∧ RN = emp
 | .swap => nv = fm 184 d ∧ RN = emp
 | .header => nv = fm 208 d ∧ RN = emp
 | .slot => nv = fm 244 d ∧ RN = emp
 | .marks => nv = fm 245 d ∧ RN = emp
 | .state => nv = fm 255 d ∧ RN = emp
theorem loc_HpNx {C : Cx} {d : Nat} {m : Hp} {dv : Value} (nv : Value) (RN : Asr) (h : HpNx C d m dv nv RN) : Loc RN := by
 unfold HpNx at h
 split at h <;> (obtain ⟨-, rfl⟩ := h; exact loc_emp)
theorem Hp_is {C : Cx} {d : Nat} {m : Hp} {dv nv : Value} {RN : Asr} (h : HpNx C d m dv nv RN) : NxIs nv (decide (m.next = .nil)) := by
 unfold HpNx at h
 split at h <;> rename_i hn <;> rw [hn] <;> obtain ⟨rfl, -⟩ := h <;> first | exact .inl ⟨rfl, rfl⟩ | exact .inr ⟨_, _, _, rfl, rfl⟩
structure Hp.Ok (m : Hp) : Prop where
 slots : 0 ≤ m.slots ∧ m.slots ≤ 1000 ∨ m.next = .nil
 mark : u64R m.mark
 h : u64R m.h
 link : u32R m.link
 v : u32R m.v
 tries : 0 ≤ m.tries ∧ m.tries ≤ 4
 i : 0 ≤ m.i ∧ m.i ≤ 1000
 lt : m.next = .look → m.tries < 4
 sl : m.next = .slot → m.i < 16
def rsF (M : MapM) (i v : Int) : Nat := bif decide (i < M.Room v) then 244 else 245
theorem nx_rest {C : Cx} {d : Nat} {x : Hp} {dv : Value} (h : x.next = Hp.rest C.M x.i x.v) : HpNx C d x dv (fm (rsF C.M x.i x.v) d) emp := by
 unfold HpNx rsF
 unfold Hp.rest at h
 by_cases hc : x.i < C.M.Room x.v
 ·rw [if_pos hc] at h
  rw [h]
  simp [hc]
 ·rw [if_neg hc] at h
  rw [h]
  simp [hc]
def HpR (C : Cx) (d : Nat) (m : Hp) : Asr := fun D w => ∃ dv : Value, Mch 201 d (m.cs C dv) (HpNx C d m dv) D w
theorem loc_HpR {C : Cx} {d : Nat} {m : Hp} : Loc (HpR C d m) := loc_ex fun _ => loc_Mch loc_HpNx
def HpRun (C : Cx) (d : Nat) (m : Hp) (l : Wds) (m' : Hp) (l' : Wds) : Prop := ∀ (dv : Value) nv RN, HpNx C d m dv nv RN → ∃ fid fs cs, nv = .func (.func fid) (List.toArray fs) (List.toArray cs) ∧ fnB fid = true ∧ Cv C fid (fs ++ [ptr C.s] ++ cs) l (blks [⟨d, 201, m.cs C dv nv⟩] RN) (.tuple #[]) l' (HpR C d m')
theorem run_shl {k : Int} (h : 0 ≤ k ∧ k < 5) (w : World) : (binOp .shl 3 (.int .i64 1) (.int .i64 k)).run Tryz.prog w = .ok (.int .i64 (slotsOf k)) w := by
 rcases five h with rfl | rfl | rfl | rfl | rfl <;> rfl
theorem gd_shl {x y : Operand} {t : Nat} {a b : Value} (w : World) : (eqGuard .shl t x y a b).run Tryz.prog w = .ok () w := rfl
theorem f201_0 : fld 201 0 0 = true := by kernel_rfl
theorem f201_1 : fld 201 1 1 = true := by kernel_rfl
theorem f201_10 : fld 201 10 10 = true := by kernel_rfl
theorem f201_11 : fld 201 11 11 = true := by kernel_rfl
theorem f201_12 : fld 201 12 12 = true := by kernel_rfl
theorem f201_13 : fld 201 13 17 = true := by kernel_rfl
theorem f201_2 : fld 201 2 2 = true := by kernel_rfl
theorem f201_3 : fld 201 3 3 = true := by kernel_rfl
theorem f201_4 : fld 201 4 4 = true := by kernel_rfl
theorem f201_5 : fld 201 5 5 = true := by kernel_rfl
theorem f201_6 : fld 201 6 6 = true := by kernel_rfl
theorem f201_7 : fld 201 7 7 = true := by kernel_rfl
theorem f201_8 : fld 201 8 8 = true := by kernel_rfl
theorem f201_9 : fld 201 9 9 = true := by kernel_rfl
theorem g123 : fnB 123 = true := by kernel_rfl
theorem g124 : fnB 124 = true := by kernel_rfl
theorem g159 : fnB 159 = true := by kernel_rfl
theorem g160 : fnB 160 = true := by kernel_rfl
theorem g184 : fnB 184 = true := by kernel_rfl
theorem g208 : fnB 208 = true := by kernel_rfl
theorem g229 : fnB 229 = true := by kernel_rfl
theorem g244 : fnB 244 = true := by kernel_rfl
theorem g245 : fnB 245 = true := by kernel_rfl
theorem g255 : fnB 255 = true := by kernel_rfl
theorem g36 : fnB 36 = true := by kernel_rfl
theorem g50 : fnB 50 = true := by kernel_rfl
theorem g79 : fnB 79 = true := by kernel_rfl
theorem l201 : layB 201 [(0, 1), (1, 1), (2, 1), (3, 1), (4, 1), (5, 1), (6, 1), (7, 1), (8, 1), (9, 1), (10, 1), (11, 1), (12, 5), (17, 1)] = true := by kernel_rfl
theorem o27 : one 27 = true := by kernel_rfl
theorem u128_dPtr : undIs 128 (dPtr) = true := by kernel_rfl
theorem z201 : zer 201 = some [.pointer none, .int .i64 0, .int .i64 0, .int .u64 0, .int .u64 0, .int .u32 0, .int .i64 0, .bool false, .int .i64 0, .int .i64 0, .int .i64 0, .int .i64 0, .int .i64 0, .int .i64 0, .int .i64 0, .int .i64 0, .int .i64 0, .nilFunc] := by kernel_rfl
set_option maxHeartbeats 1000000 in
theorem hp_Nil1 {C : Cx} {d : Nat} {m : Hp} {l : Wds} (he : m.event = ev0) (hn : m.next = .nil) : Cv C 118 [ptr d, ptr C.s] l (HpR C d m) (.bool true) l (HpR C d { m with event := ev0 }) := by
 have em : m.event = ev0 → ({ m with event := ev0 } : Hp) = m := fun h => by cases m; cases h; rfl
 have em := em he
 refine Ct.of Tryz.func118 rfl Tryz.ntmps118 (by simp) loc_HpR ?_
 intro w0 D0
 refine T.ex (fun _ => loc_Mch loc_HpNx) ?_
 intro dv
 refine T.mch (H := []) loc_HpNx ?_
 intro nv RN hN hl
 have hi := Hp_is hN
 rw [hn] at hi
 refine T.seq <| tx [0] nf Z Z <| xas Z Z Z <| X.nil <| T.seq <| T.seq <| tx [0,1] nf Z Z <| xmv Z Z Z <| xnp Z Z Z Z u128_dPtr <| X.nil <| T.no Z <| T.skip <| T.seq <| T.seq <| tx [0,1,2,3,4,5] nf Z Z <| xmv Z Z Z <| xnc Z Z Z <| xfa Z Z Z f201_12 ?_
 refine xlda Z Z Z m33 .z Z <| xbd Z Z Z l33 z33 Z <| xbo Z Z Z Z gd33 (eq33 he) <| X.nil <| T.no Z <| T.skip <| T.seq <| T.seq <| tx [0,1,2,3,4] nf Z Z <| xmv Z Z Z <| xnc Z Z Z <| xfa Z Z Z f201_13 <| xld Z Z Z o130 .z Z ?_
 refine xbo Z Z Z Z (nx_gd hi) (nx_eq hi u130_dFun) <| X.nil <| T.yes Z <| T.seq <| tx [0] nf Z Z <| xas Z Z Z <| X.nil <| T.ret1 Z (fun W D h => ?_)
 rw [em]
 exact ⟨D, ⟨rfl, rfl, dv, nv, RN, hN, h⟩, fun _ hk => hk⟩
set_option maxHeartbeats 1000000 in
theorem hp_Step1 {C : Cx} {d : Nat} {m m' : Hp} {l l' : Wds} (he : m.event = ev0) (hrun : HpRun C d { m with event := ev0 } l m' l') : Cv C 118 [ptr d, ptr C.s] l (HpR C d m) (.bool (decide (m'.next = .nil))) l' (HpR C d m') := by
 have em : m.event = ev0 → ({ m with event := ev0 } : Hp) = m := fun h => by cases m; cases h; rfl
 rw [em he] at hrun
 refine Ct.of Tryz.func118 rfl Tryz.ntmps118 (by simp) loc_HpR ?_
 intro w0 D0
 refine T.ex (fun _ => loc_Mch loc_HpNx) ?_
 intro dv
 refine T.mch (H := []) loc_HpNx ?_
 intro nv RN hN hl
 obtain ⟨fid, fs, cs, rfl, hg, hc⟩ := hrun dv nv RN hN
 refine T.seq <| tx [0] nf Z Z <| xas Z Z Z <| X.nil <| T.seq <| T.seq <| tx [0,1] nf Z Z <| xmv Z Z Z <| xnp Z Z Z Z u128_dPtr <| X.nil <| T.no Z <| T.skip <| T.seq <| T.seq <| tx [0,1,2,3,4,5] nf Z Z <| xmv Z Z Z <| xnc Z Z Z <| xfa Z Z Z f201_12 ?_
 refine xlda Z Z Z m33 .z Z <| xbd Z Z Z l33 z33 Z <| xbo Z Z Z Z gd33 (eq33 he) <| X.nil <| T.no Z <| T.skip <| T.seq <| T.seq <| tx [0,1,2,3,4] nf Z Z <| xmv Z Z Z <| xnc Z Z Z <| xfa Z Z Z f201_13 <| xld Z Z Z o130 .z Z <| xnf Z Z Z Z u130_dFun <| X.nil ?_
 refine T.no Z <| T.skip <| T.seq <| tx [0,1,2,3,4,5] (ct [5]) Z Z <| xmv Z Z Z <| xnc Z Z Z <| xfa Z Z Z f201_13 <| xld Z Z Z o130 .z Z <| xmv Z Z Z <| xcf (H1 := []) (H2 := [_]) Z Z Z Z hg Z hc loc_HpR pend0 <| X.nil <| T.seq ?_
 refine T.ex (fun _ => loc_Mch loc_HpNx) ?_
 intro dv'
 refine T.mch loc_HpNx ?_
 intro nv' RN' hN' hl'
 refine tx [0,1,2,3,4,5] nf Z Z <| xmv Z Z Z <| xnc Z Z Z <| xfa Z Z Z f201_13 <| xld Z Z Z o130 .z Z <| xbo Z Z Z Z (nx_gd (Hp_is hN')) (nx_eq (Hp_is hN') u130_dFun) <| xas Z Z Z <| X.nil <| T.ret1 Z (fun W D h => ?_)
 exact ⟨D, ⟨rfl, rfl, dv', nv', RN', hN', h⟩, fun _ hk => hk⟩
set_option maxHeartbeats 1000000 in
theorem hp_Nil0 {C : Cx} {d : Nat} {m : Hp} {l : Wds} (he : m.event ≠ ev0) (hn : m.next = .nil) : Cv C 118 [ptr d, ptr C.s] l (HpR C d m) (.bool true) l (HpR C d { m with event := ev0 }) := by
 have em : m.event = ev0 → ({ m with event := ev0 } : Hp) = m := fun h => by cases m; cases h; rfl
 refine Ct.of Tryz.func118 rfl Tryz.ntmps118 (by simp) loc_HpR ?_
 intro w0 D0
 refine T.ex (fun _ => loc_Mch loc_HpNx) ?_
 intro dv
 refine T.mch (H := []) loc_HpNx ?_
 intro nv RN hN hl
 have hi := Hp_is hN
 rw [hn] at hi
 refine T.seq <| tx [0] nf Z Z <| xas Z Z Z <| X.nil <| T.seq <| T.seq <| tx [0,1] nf Z Z <| xmv Z Z Z <| xnp Z Z Z Z u128_dPtr <| X.nil <| T.no Z <| T.skip <| T.seq <| T.seq <| tx [0,1,2,3,4,5] nf Z Z <| xmv Z Z Z <| xnc Z Z Z <| xfa Z Z Z f201_12 ?_
 refine xlda Z Z Z m33 .z Z <| xbd Z Z Z l33 z33 Z <| xbo Z Z Z Z gd33 (ne33 he) <| X.nil <| T.yes Z <| tx [0,1,2,3,4] (ct [4]) Z Z <| xmv Z Z Z <| xbd Z Z Z l33 z33 Z <| xnc Z Z Z <| xfa Z Z Z f201_12 ?_
 refine xsta Z Z Z Z m33 Z Z .z (Nat.le_of_ble_eq_true Z) .z pend0 <| X.nil <| T.seq <| T.seq <| tx [0,1,2,3,4] nf Z Z <| xmv Z Z Z <| xnc Z Z Z <| xfa Z Z Z f201_13 <| xld Z Z Z o130 .z Z <| xbo Z Z Z Z (nx_gd hi) (nx_eq hi u130_dFun) <| X.nil <| T.yes Z ?_
 refine T.seq <| tx [0] nf Z Z <| xas Z Z Z <| X.nil <| T.ret1 Z (fun W D h => ?_)
 exact ⟨D, ⟨rfl, rfl, dv, nv, RN, hN, h⟩, fun _ hk => hk⟩
set_option maxHeartbeats 1000000 in
theorem hp_Step0 {C : Cx} {d : Nat} {m m' : Hp} {l l' : Wds} (he : m.event ≠ ev0) (hrun : HpRun C d { m with event := ev0 } l m' l') : Cv C 118 [ptr d, ptr C.s] l (HpR C d m) (.bool (decide (m'.next = .nil))) l' (HpR C d m') := by
 have em : m.event = ev0 → ({ m with event := ev0 } : Hp) = m := fun h => by cases m; cases h; rfl
 refine Ct.of Tryz.func118 rfl Tryz.ntmps118 (by simp) loc_HpR ?_
 intro w0 D0
 refine T.ex (fun _ => loc_Mch loc_HpNx) ?_
 intro dv
 refine T.mch (H := []) loc_HpNx ?_
 intro nv RN hN hl
 obtain ⟨fid, fs, cs, rfl, hg, hc⟩ := hrun dv nv RN hN
 refine T.seq <| tx [0] nf Z Z <| xas Z Z Z <| X.nil <| T.seq <| T.seq <| tx [0,1] nf Z Z <| xmv Z Z Z <| xnp Z Z Z Z u128_dPtr <| X.nil <| T.no Z <| T.skip <| T.seq <| T.seq <| tx [0,1,2,3,4,5] nf Z Z <| xmv Z Z Z <| xnc Z Z Z <| xfa Z Z Z f201_12 ?_
 refine xlda Z Z Z m33 .z Z <| xbd Z Z Z l33 z33 Z <| xbo Z Z Z Z gd33 (ne33 he) <| X.nil <| T.yes Z <| tx [0,1,2,3,4] (ct [4]) Z Z <| xmv Z Z Z <| xbd Z Z Z l33 z33 Z <| xnc Z Z Z <| xfa Z Z Z f201_12 ?_
 refine xsta Z Z Z Z m33 Z Z .z (Nat.le_of_ble_eq_true Z) .z pend0 <| X.nil <| T.seq <| T.seq <| tx [0,1,2,3,4] nf Z Z <| xmv Z Z Z <| xnc Z Z Z <| xfa Z Z Z f201_13 <| xld Z Z Z o130 .z Z <| xnf Z Z Z Z u130_dFun <| X.nil <| T.no Z <| T.skip <| T.seq ?_
 refine tx [0,1,2,3,4,5] (ct [5]) Z Z <| xmv Z Z Z <| xnc Z Z Z <| xfa Z Z Z f201_13 <| xld Z Z Z o130 .z Z <| xmv Z Z Z <| xcf (H1 := []) (H2 := [_]) Z Z Z Z hg Z hc loc_HpR pend0 <| X.nil <| T.seq <| T.ex (fun _ => loc_Mch loc_HpNx) ?_
 intro dv'
 refine T.mch loc_HpNx ?_
 intro nv' RN' hN' hl'
 refine tx [0,1,2,3,4,5] nf Z Z <| xmv Z Z Z <| xnc Z Z Z <| xfa Z Z Z f201_13 <| xld Z Z Z o130 .z Z <| xbo Z Z Z Z (nx_gd (Hp_is hN')) (nx_eq (Hp_is hN') u130_dFun) <| xas Z Z Z <| X.nil <| T.ret1 Z (fun W D h => ?_)
 exact ⟨D, ⟨rfl, rfl, dv', nv', RN', hN', h⟩, fun _ hk => hk⟩
theorem hp_Nil {C : Cx} {d : Nat} {m : Hp} {l : Wds} (hn : m.next = .nil) : Cv C 118 [ptr d, ptr C.s] l (HpR C d m) (.bool true) l (HpR C d { m with event := ev0 }) := by
 by_cases he : m.event = ev0
 ·exact hp_Nil1 he hn
 ·exact hp_Nil0 he hn
theorem hp_Step {C : Cx} {d : Nat} {m m' : Hp} {l l' : Wds} (hrun : HpRun C d { m with event := ev0 } l m' l') : Cv C 118 [ptr d, ptr C.s] l (HpR C d m) (.bool (decide (m'.next = .nil))) l' (HpR C d m') := by
 by_cases he : m.event = ev0
 ·exact hp_Step1 he hrun
 ·exact hp_Step0 he hrun
set_option maxHeartbeats 1000000 in
theorem hp_Event {C : Cx} {d : Nat} {m : Hp} {l : Wds} : Cv C 120 [ptr d] l (HpR C d m) (.agg m.event.cells.toArray) l (HpR C d m) := by
 refine Ct.of Tryz.func120 rfl Tryz.ntmps120 (by simp) loc_HpR ?_
 intro w0 D0
 refine T.ex (fun _ => loc_Mch loc_HpNx) ?_
 intro dv
 refine T.mch (H := []) loc_HpNx ?_
 intro nv RN hN hl
 refine T.seq <| tx [0] (ct [0]) Z Z <| xal Z Z z33 (fun _ => pend0) (fun b0 => ?_)
 refine X.nil <| T.seq <| T.seq <| tx [0,1] nf Z Z <| xmv Z Z Z <| xnp Z Z Z Z u128_dPtr <| X.nil <| T.no Z <| T.skip <| T.seq <| tx [0,1,2,3,4] (ct [4]) Z Z <| xmv Z Z Z <| xnc Z Z Z <| xfa Z Z Z f201_12 <| xlda Z Z Z m33 (.s .z) Z ?_
 refine xsta Z Z Z Z m33 Z Z .z (Nat.le_of_ble_eq_true Z) .z pend0 <| X.nil <| T.retc Z Z m33 .z Z (fun W D h => ?_)
 obtain ⟨D1, h1, h2⟩ := blks_tail h
 exact ⟨D1, ⟨rfl, rfl, dv, nv, RN, hN, h1⟩, h2⟩
set_option maxHeartbeats 1000000 in
theorem ct_hpend {C : Cx} {l : Wds} {d : Nat} {Hx : List Bk} {R : Asr} (hl : Loc R) {a0 a1 a2 a3 a4 a5 a6 a7 a8 a9 a10 a11 a12 a13 a14 a15 a16 a17 : Value} {e : Int} : Cv C 160 [ptr d, .int .i64 e] l (blks (⟨d, 201, [a0, a1, a2, a3, a4, a5, a6, a7, a8, a9, a10, a11, a12, a13, a14, a15, a16, a17]⟩ :: Hx) R) (.tuple #[]) l (blks (⟨d, 201, [a0, a1, a2, a3, a4, a5, a6, a7, a8, a9, a10, .int .i64 e, a12, a13, a14, a15, a16, .nilFunc]⟩ :: Hx) R) := by
 refine Ct.of Tryz.func160 rfl Tryz.ntmps160 (by simp) (loc_blks hl _) ?_
 intro w0 D0
 refine T.conv (fun w h => Sy.opens (H2 := _ :: Hx) h hl) <| tx [0,1,2,3,4,5,6,7,8] (ct [5,8]) Z Z <| xmv Z Z Z <| xmv Z Z Z <| xmv Z Z Z <| xnc Z Z Z <| xfa Z Z Z f201_11 <| xst Z Z Z Z o27 Z .z Z .z pend0 <| xnc Z Z Z <| xfa Z Z Z f201_13 ?_
 refine xst Z Z Z Z o130 Z .z Z .z pend0 <| X.nil <| T.end0 Z (fun W D h => ?_)
 exact ⟨D, ⟨rfl, rfl, h⟩, fun _ hk => hk⟩
set_option maxHeartbeats 1000000 in
theorem ct_hprest {C : Cx} {l : Wds} {d : Nat} {Hx : List Bk} {R : Asr} (hl : Loc R) {a1 a2 a3 a4 a5 a7 a8 a10 a11 a12 a13 a14 a15 a16 a17 : Value} {v i : Int} : Cv C 229 [ptr d] l (blks (⟨d, 201, [ptr C.m, a1, a2, a3, a4, a5, .int .i64 v, a7, a8, .int .i64 i, a10, a11, a12, a13, a14, a15, a16, a17]⟩ :: Hx) R) (fm (rsF C.M i v) d) l (blks (⟨d, 201, [ptr C.m, a1, a2, a3, a4, a5, .int .i64 v, a7, a8, .int .i64 i, a10, a11, a12, a13, a14, a15, a16, a17]⟩ :: Hx) R) := by
 refine Ct.of Tryz.func229 rfl Tryz.ntmps229 (by simp) (loc_blks hl _) ?_
 intro w0 D0
 refine T.conv (fun w h => Sy.opens (H2 := _ :: Hx) h hl) <| T.seq <| tx [0] nf Z Z <| xas Z Z Z <| X.nil <| T.seq <| T.seq ?_
 refine T.any (ord := [0, 1, 2, 3, 4, 5, 6, 7, 8, 9, 10, 11, 12, 13]) (lo := (fun _ => false)) (ef := (fun _ => false)) (by kernel_rfl) (fun _ h => h.drew) <| xmv Z Z Z <| xnc Z Z Z <| xfa Z Z Z f201_9 <| xld Z Z Z o3 .z Z <| xmv Z Z Z <| xnc Z Z Z ?_
 refine xfa Z Z Z f201_0 <| xld Z Z Z o39 .z Z <| xmv Z Z Z <| xnc Z Z Z <| xfa Z Z Z f201_6 <| xld Z Z Z o3 .z Z <| xcq Z Z Z Z g55 (ct_Room) hl <| xcm Z Z Z Z Z Z <| X.nil <| T.cond Z ?_ ?_
 ·intro hb0
  refine T.seq <| tx [0,1,2] nf Z Z <| xmv Z Z Z <| xmf Z Z Z Z <| xas Z Z Z <| X.nil <| T.ret1 Z (fun W D h => ?_)
  rw [show rsF C.M i v = 244 by unfold rsF; rw [show decide (i < C.M.Room v) = true from hb0]; rfl]
  exact ⟨D, ⟨rfl, rfl, h⟩, fun _ hk => hk⟩
 ·intro hb0
  refine T.skip <| T.seq <| tx [0,1,2] nf Z Z <| xmv Z Z Z <| xmf Z Z Z Z <| xas Z Z Z <| X.nil <| T.ret1 Z (fun W D h => ?_)
  rw [show rsF C.M i v = 245 by unfold rsF; rw [show decide (i < C.M.Room v) = false from hb0]; rfl]
  exact ⟨D, ⟨rfl, rfl, h⟩, fun _ hk => hk⟩
set_option maxHeartbeats 1000000 in
theorem hp_look {C : Cx} {d : Nat} {m : Hp} {l : Wds} (hM : C.M.Ok) (hm : m.Ok) (hr : ∀ a, u64R (ld l a)) (hn : m.next = .look) : HpRun C d m l (m.step0 C.M l).1 (m.step0 C.M l).2 := by
 obtain ⟨slots, mark, hh, link, v, tries, i, node, e, event, nx⟩ := m
 obtain rfl : nx = .look := hn
 rintro dv nv RN ⟨rfl, rfl⟩
 refine ⟨124, [ptr d], [], rfl, g124, ?_⟩
 refine Ct.of (vs := [ptr d, ptr C.s]) Tryz.func124 rfl Tryz.ntmps124 (by simp) (loc_blks loc_emp _) ?_
 intro w0 D0
 refine T.conv (fun w h => Sy.opens (H2 := [_]) h loc_emp) <| T.seq <| tx [0,1,2,3,4,5,6,7] (ct [7]) Z Z <| xmv Z Z Z <| xnc Z Z Z <| xfa Z Z Z f201_8 <| xld Z Z Z o3 .z Z <| xarc (c := tries + 1) Z Z Z Z Z (wrap64i (at4 hm.tries)) <| xnc Z Z Z ?_
 refine xfa Z Z Z f201_8 <| xst Z Z Z Z o3 Z .z Z .z pend0 <| X.nil <| T.seq <| T.any (ord := [0, 1, 2, 3, 4, 5, 6, 7, 8, 9, 10, 11, 12, 13, 14]) (lo := (fun _ => false)) (ef := (fun i => [14].contains i)) (by kernel_rfl) (fun _ h => h.drew) <| xmv Z Z Z ?_
 refine xmv Z Z Z <| xmv Z Z Z <| xnc Z Z Z <| xfa Z Z Z f201_0 <| xld Z Z Z o39 .z Z <| xmv Z Z Z <| xnc Z Z Z <| xfa Z Z Z f201_2 <| xld Z Z Z o3 .z Z <| xcq Z Z Z Z g35 (ct_Head) loc_emp <| xcq Z Z Z Z g32 (ct_Load loc_emp) loc_emp <| xnc Z Z Z ?_
 refine xfa Z Z Z f201_4 <| xst Z Z Z Z o90 Z .z Z .z pend0 <| X.nil <| T.seq <| tx [0,1,2,3,4,5,6,7,8,9] nf Z Z <| xmv Z Z Z <| xnc Z Z Z <| xfa Z Z Z f201_4 <| xld Z Z Z o90 .z Z <| xcq Z Z Z Z g144 (ct_Split loc_emp (hr _)) loc_emp <| xmv Z Z Z ?_
 refine xex Z Z Z Z <| xex Z Z Z Z <| xas Z Z Z <| xas Z Z Z <| X.nil <| T.seq <| tx [0,1,2,3,4,5] (ct [5]) Z Z <| xmv Z Z Z <| xmv Z Z Z <| xcvc Z Z Z u3_dInti64 u115_fun_true (wrap64i32 (lo_rng _)) <| xnc Z Z Z <| xfa Z Z Z f201_6 ?_
 refine xst Z Z Z Z o3 Z .z Z .z pend0 <| X.nil <| T.seq <| tx [0,1,2,3,4,5] (ct [5]) Z Z <| xmv Z Z Z <| xmv Z Z Z <| xmf Z Z Z Z <| xnc Z Z Z <| xfa Z Z Z f201_13 <| xst Z Z Z Z o130 Z .z Z .z pend0 <| X.nil <| T.seq <| tx [0,1] nf Z Z <| xmv Z Z Z ?_
 refine xcm Z Z Z Z Z Z <| X.nil <| T.cond Z ?_ ?_
 ·intro hb0
  refine tx [0,1] (ct [1]) Z Z <| xmv Z Z Z <| xcb (H1 := []) (H2 := _ :: _) (H2' := _ :: _) Z Z Z Z g160 Z (ct_hpend loc_emp) loc_emp Z pend0 <| X.nil <| T.end0 Z (fun W D h => ?_)
  rw [show (⟨slots, mark, hh, link, v, tries, i, node, e, event, .look⟩ : Hp).step0 C.M l = _ from if_pos (eq_of_beq hb0)]
  exact ⟨D, ⟨rfl, rfl, _, _, _, ⟨rfl, rfl⟩, h⟩, fun _ hk => hk⟩
 ·intro hb0
  refine T.skip <| T.end0 Z (fun W D h => ?_)
  rw [show (⟨slots, mark, hh, link, v, tries, i, node, e, event, .look⟩ : Hp).step0 C.M l = _ from if_neg (ne_of_beq_false hb0)]
  exact ⟨D, ⟨rfl, rfl, _, _, _, ⟨rfl, rfl⟩, h⟩, fun _ hk => hk⟩
set_option maxHeartbeats 1000000 in
theorem hp_links {C : Cx} {d : Nat} {m : Hp} {l : Wds} (hM : C.M.Ok) (hm : m.Ok) (hr : ∀ a, u64R (ld l a)) (hn : m.next = .links) : HpRun C d m l (m.step0 C.M l).1 (m.step0 C.M l).2 := by
 obtain ⟨slots, mark, hh, link, v, tries, i, node, e, event, nx⟩ := m
 obtain rfl : nx = .links := hn
 rintro dv nv RN ⟨rfl, rfl⟩
 refine ⟨159, [ptr d], [], rfl, g159, ?_⟩
 refine Ct.of (vs := [ptr d, ptr C.s]) Tryz.func159 rfl Tryz.ntmps159 (by simp) (loc_blks loc_emp _) ?_
 intro w0 D0
 refine T.conv (fun w h => Sy.opens (H2 := [_]) h loc_emp) <| T.seq <| T.any (ord := [0, 1, 2, 3, 4, 5, 6, 7, 8, 9, 10, 11, 12, 13, 14, 15]) (lo := (fun _ => false)) (ef := (fun i => [15].contains i)) (by kernel_rfl) (fun _ h => h.drew) <| xmv Z Z Z ?_
 refine xmv Z Z Z <| xmv Z Z Z <| xnc Z Z Z <| xfa Z Z Z f201_0 <| xld Z Z Z o39 .z Z <| xmv Z Z Z <| xnc Z Z Z <| xfa Z Z Z f201_6 <| xld Z Z Z o3 .z Z <| xcq Z Z Z Z g36 (ct_Next) loc_emp <| xcq Z Z Z Z g32 (ct_Load loc_emp) loc_emp ?_
 refine xcvc Z Z Z u115_dIntu32 u90_fun_true (wrap32u _) <| xnc Z Z Z <| xfa Z Z Z f201_5 <| xst Z Z Z Z o115 Z .z Z .z pend0 <| X.nil <| tx [0,1,2,3,4,5] (ct [5]) Z Z <| xmv Z Z Z <| xmv Z Z Z <| xmf Z Z Z Z <| xnc Z Z Z <| xfa Z Z Z f201_13 ?_
 refine xst Z Z Z Z o130 Z .z Z .z pend0 <| X.nil <| T.end0 Z (fun W D h => ?_)
 exact ⟨D, ⟨rfl, rfl, _, _, _, ⟨rfl, rfl⟩, h⟩, fun _ hk => hk⟩
set_option maxHeartbeats 1000000 in
theorem hp_swap {C : Cx} {d : Nat} {m : Hp} {l : Wds} (hM : C.M.Ok) (hm : m.Ok) (hr : ∀ a, u64R (ld l a)) (hn : m.next = .swap) : HpRun C d m l (m.step0 C.M l).1 (m.step0 C.M l).2 := by
 obtain ⟨slots, mark, hh, link, v, tries, i, node, e, event, nx⟩ := m
 obtain rfl : nx = .swap := hn
 rintro dv nv RN ⟨rfl, rfl⟩
 refine ⟨184, [ptr d], [], rfl, g184, ?_⟩
 refine Ct.of (vs := [ptr d, ptr C.s]) Tryz.func184 rfl Tryz.ntmps184 (by simp) (loc_blks loc_emp _) ?_
 intro w0 D0
 refine T.conv (fun w h => Sy.opens (H2 := [_]) h loc_emp) <| T.seq ?_
 refine T.any (ord := [0, 1, 2, 3, 4, 5, 6, 7, 8, 9, 10, 11, 12, 13, 14, 15, 16, 17, 18, 19, 20, 21, 22, 23, 24, 25, 26, 27]) (lo := (fun i => [0].contains i)) (ef := (fun i => [24, 27].contains i)) (by kernel_rfl) (fun _ h => h.drew) <| xmv Z Z Z ?_
 refine xmv Z Z Z <| xmv Z Z Z <| xnc Z Z Z <| xfa Z Z Z f201_0 <| xld Z Z Z o39 .z Z <| xmv Z Z Z <| xnc Z Z Z <| xfa Z Z Z f201_2 <| xld Z Z Z o3 .z Z <| xcq Z Z Z Z g35 (ct_Head) loc_emp <| xmv Z Z Z <| xnc Z Z Z <| xfa Z Z Z f201_4 ?_
 refine xld Z Z Z o90 .z Z <| xmv Z Z Z <| xnc Z Z Z <| xfa Z Z Z f201_4 <| xld Z Z Z o90 .z Z <| xmv Z Z Z <| xnc Z Z Z <| xfa Z Z Z f201_5 <| xld Z Z Z o115 .z Z <| xcq Z Z Z Z g207 (ct_Turn loc_emp hm.h hm.link) loc_emp ?_
 refine xce Z Z Z Z g175 (ct_Swap loc_emp (turn_rng hm.link)) loc_emp (pendmv Z Z pend0) <| xnc Z Z Z <| xfa Z Z Z f201_7 <| xst Z Z Z Z o4 Z .z Z .z (pendsk (by kernel_rfl) pend0) <| X.nil <| T.block <| T.seq <| tx [0,1,2,3,4] nf Z Z <| xmv Z Z Z ?_
 refine xnc Z Z Z <| xfa Z Z Z f201_7 <| xld Z Z Z o4 .z Z <| xas Z Z Z <| X.nil <| T.cond Z ?_ ?_
 ·intro hb0
  refine tx [0,1,2,3,4,5] (ct [5]) Z Z <| xmv Z Z Z <| xmv Z Z Z <| xmf Z Z Z Z <| xnc Z Z Z <| xfa Z Z Z f201_13 <| xst Z Z Z Z o130 Z .z Z .z pend0 <| X.nil <| T.blk_end <| T.end0 Z (fun W D h => ?_)
  rw [show (⟨slots, mark, hh, link, v, tries, i, node, e, event, .swap⟩ : Hp).step0 C.M l = _ from if_pos hb0]
  exact ⟨D, ⟨rfl, rfl, _, _, _, ⟨rfl, rfl⟩, h⟩, fun _ hk => hk⟩
 ·intro hb0
  refine T.seq <| tx [0,1,2,3,4,5] nf Z Z <| xmv Z Z Z <| xnc Z Z Z <| xfa Z Z Z f201_8 <| xld Z Z Z o3 .z Z <| xcm Z Z Z Z Z Z <| xas Z Z Z <| X.nil <| T.cond Z ?_ ?_
  ·intro hb1
   refine tx [0,1] (ct [1]) Z Z <| xmv Z Z Z <| xcb (H1 := []) (H2 := _ :: _) (H2' := _ :: _) Z Z Z Z g160 Z (ct_hpend loc_emp) loc_emp Z pend0 <| X.nil <| T.blk_end <| T.end0 Z (fun W D h => ?_)
   rw [show (⟨slots, mark, hh, link, v, tries, i, node, e, event, .swap⟩ : Hp).step0 C.M l = _ from (if_neg (by rw [hb0]; exact Bool.false_ne_true)).trans (if_pos (eq_of_beq hb1))]
   exact ⟨D, ⟨rfl, rfl, _, _, _, ⟨rfl, rfl⟩, h⟩, fun _ hk => hk⟩
  ·intro hb1
   refine tx [0,1,2,3,4,5] (ct [5]) Z Z <| xmv Z Z Z <| xmv Z Z Z <| xmf Z Z Z Z <| xnc Z Z Z <| xfa Z Z Z f201_13 <| xst Z Z Z Z o130 Z .z Z .z pend0 <| X.nil <| T.blk_end <| T.end0 Z (fun W D h => ?_)
   rw [show (⟨slots, mark, hh, link, v, tries, i, node, e, event, .swap⟩ : Hp).step0 C.M l = _ from (if_neg (by rw [hb0]; exact Bool.false_ne_true)).trans (if_neg (ne_of_beq_false hb1))]
   exact ⟨D, ⟨rfl, rfl, _, _, _, ⟨rfl, rfl⟩, h⟩, fun _ hk => hk⟩
set_option maxHeartbeats 1000000 in
theorem hp_header {C : Cx} {d : Nat} {m : Hp} {l : Wds} (hM : C.M.Ok) (hm : m.Ok) (hr : ∀ a, u64R (ld l a)) (hn : m.next = .header) : HpRun C d m l (m.step0 C.M l).1 (m.step0 C.M l).2 := by
 obtain ⟨slots, mark, hh, link, v, tries, i, node, e, event, nx⟩ := m
 obtain rfl : nx = .header := hn
 have hs : 0 ≤ slots ∧ slots ≤ 4294967295 := by have h1 : 0 ≤ slots ∧ slots ≤ 1000 := hm.slots.resolve_right (fun h => nomatch h); omega
 have hs6 : u64R slots := by unfold u64R; omega
 rintro dv nv RN ⟨rfl, rfl⟩
 refine ⟨208, [ptr d], [], rfl, g208, ?_⟩
 refine Ct.of (vs := [ptr d, ptr C.s]) Tryz.func208 rfl Tryz.ntmps208 (by simp) (loc_blks loc_emp _) ?_
 intro w0 D0
 refine T.conv (fun w h => Sy.opens (H2 := [_]) h loc_emp) <| T.seq <| T.any (ord := [0, 1, 2, 3, 4, 5, 6, 7, 8, 9, 10, 11, 12, 13, 14, 15]) (lo := (fun _ => false)) (ef := (fun i => [15].contains i)) (by kernel_rfl) (fun _ h => h.drew) <| xmv Z Z Z ?_
 refine xmv Z Z Z <| xnc Z Z Z <| xfa Z Z Z f201_0 <| xld Z Z Z o39 .z Z <| xmv Z Z Z <| xnc Z Z Z <| xfa Z Z Z f201_6 <| xld Z Z Z o3 .z Z <| xcq Z Z Z Z g56 (ct_Header) loc_emp <| xmv Z Z Z <| xnc Z Z Z <| xfa Z Z Z f201_1 <| xld Z Z Z o3 .z Z ?_
 refine xcvc Z Z Z u90_dIntu64 u3_fun_true (wrap64u32 hs) <| xce Z Z Z Z g148 (ct_Put loc_emp hs6) loc_emp pend0 <| X.nil <| tx [0,1,2,3,4,5] (ct [5]) Z Z <| xmv Z Z Z <| xmv Z Z Z <| xcr (H1 := []) (H2 := _ :: _) Z Z Z Z g229 Z (ct_hprest loc_emp) loc_emp ?_
 refine xnc Z Z Z <| xfa Z Z Z f201_13 <| xst Z Z Z Z o130 Z .z Z .z pend0 <| X.nil <| T.end0 Z (fun W D h => ?_)
 exact ⟨D, ⟨rfl, rfl, _, _, _, nx_rest rfl, h⟩, fun _ hk => hk⟩
set_option maxHeartbeats 1000000 in
theorem hp_slot {C : Cx} {d : Nat} {m : Hp} {l : Wds} (hM : C.M.Ok) (hm : m.Ok) (hr : ∀ a, u64R (ld l a)) (hn : m.next = .slot) : HpRun C d m l (m.step0 C.M l).1 (m.step0 C.M l).2 := by
 obtain ⟨slots, mark, hh, link, v, tries, i, node, e, event, nx⟩ := m
 obtain rfl : nx = .slot := hn
 rintro dv nv RN ⟨rfl, rfl⟩
 refine ⟨244, [ptr d], [], rfl, g244, ?_⟩
 refine Ct.of (vs := [ptr d, ptr C.s]) Tryz.func244 rfl Tryz.ntmps244 (by simp) (loc_blks loc_emp _) ?_
 intro w0 D0
 refine T.conv (fun w h => Sy.opens (H2 := [_]) h loc_emp) <| T.seq <| T.any (ord := [0, 1, 2, 3, 4, 5, 6, 7, 8, 9, 10, 11, 12, 13, 14]) (lo := (fun _ => false)) (ef := (fun i => [14].contains i)) (by kernel_rfl) (fun _ h => h.drew) <| xmv Z Z Z ?_
 refine xmv Z Z Z <| xnc Z Z Z <| xfa Z Z Z f201_0 <| xld Z Z Z o39 .z Z <| xmv Z Z Z <| xnc Z Z Z <| xfa Z Z Z f201_6 <| xld Z Z Z o3 .z Z <| xmv Z Z Z <| xnc Z Z Z <| xfa Z Z Z f201_9 <| xld Z Z Z o3 .z Z <| xcq Z Z Z Z g183 (ct_Slot loc_emp hM) loc_emp ?_
 refine xce Z Z Z Z g148 (ct_Put loc_emp (by omega)) loc_emp pend0 <| X.nil <| T.seq <| tx [0,1,2,3,4,5,6,7] (ct [7]) Z Z <| xmv Z Z Z <| xnc Z Z Z <| xfa Z Z Z f201_9 <| xld Z Z Z o3 .z Z <| xarc (c := i + 1) Z Z Z Z Z (wrap64i (at_in hm.i)) <| xnc Z Z Z ?_
 refine xfa Z Z Z f201_9 <| xst Z Z Z Z o3 Z .z Z .z pend0 <| X.nil <| tx [0,1,2,3,4,5] (ct [5]) Z Z <| xmv Z Z Z <| xmv Z Z Z <| xcr (H1 := []) (H2 := _ :: _) Z Z Z Z g229 Z (ct_hprest loc_emp) loc_emp <| xnc Z Z Z <| xfa Z Z Z f201_13 ?_
 refine xst Z Z Z Z o130 Z .z Z .z pend0 <| X.nil <| T.end0 Z (fun W D h => ?_)
 exact ⟨D, ⟨rfl, rfl, _, _, _, nx_rest rfl, h⟩, fun _ hk => hk⟩
set_option maxHeartbeats 1000000 in
theorem hp_marks {C : Cx} {d : Nat} {m : Hp} {l : Wds} (hM : C.M.Ok) (hm : m.Ok) (hr : ∀ a, u64R (ld l a)) (hn : m.next = .marks) : HpRun C d m l (m.step0 C.M l).1 (m.step0 C.M l).2 := by
 obtain ⟨slots, mark, hh, link, v, tries, i, node, e, event, nx⟩ := m
 obtain rfl : nx = .marks := hn
 rintro dv nv RN ⟨rfl, rfl⟩
 refine ⟨245, [ptr d], [], rfl, g245, ?_⟩
 refine Ct.of (vs := [ptr d, ptr C.s]) Tryz.func245 rfl Tryz.ntmps245 (by simp) (loc_blks loc_emp _) ?_
 intro w0 D0
 refine T.conv (fun w h => Sy.opens (H2 := [_]) h loc_emp) <| T.seq <| T.any (ord := [0, 1, 2, 3, 4, 5, 6, 7, 8, 9, 10, 11, 12, 13, 14]) (lo := (fun _ => false)) (ef := (fun i => [14].contains i)) (by kernel_rfl) (fun _ h => h.drew) <| xmv Z Z Z ?_
 refine xmv Z Z Z <| xnc Z Z Z <| xfa Z Z Z f201_0 <| xld Z Z Z o39 .z Z <| xmv Z Z Z <| xnc Z Z Z <| xfa Z Z Z f201_6 <| xld Z Z Z o3 .z Z <| xcq Z Z Z Z g240 (ct_Mark) loc_emp <| xmv Z Z Z <| xnc Z Z Z <| xfa Z Z Z f201_3 <| xld Z Z Z o90 .z Z ?_
 refine xce Z Z Z Z g148 (ct_Put loc_emp hm.mark) loc_emp pend0 <| X.nil <| tx [0,1,2,3,4,5] (ct [5]) Z Z <| xmv Z Z Z <| xmv Z Z Z <| xmf Z Z Z Z <| xnc Z Z Z <| xfa Z Z Z f201_13 <| xst Z Z Z Z o130 Z .z Z .z pend0 <| X.nil <| T.end0 Z (fun W D h => ?_)
 exact ⟨D, ⟨rfl, rfl, _, _, _, ⟨rfl, rfl⟩, h⟩, fun _ hk => hk⟩
set_option maxHeartbeats 1000000 in
theorem hp_state {C : Cx} {d : Nat} {m : Hp} {l : Wds} (hM : C.M.Ok) (hm : m.Ok) (hr : ∀ a, u64R (ld l a)) (hn : m.next = .state) : HpRun C d m l (m.step0 C.M l).1 (m.step0 C.M l).2 := by
 obtain ⟨slots, mark, hh, link, v, tries, i, node, e, event, nx⟩ := m
 obtain rfl : nx = .state := hn
 rintro dv nv RN ⟨rfl, rfl⟩
 refine ⟨255, [ptr d], [], rfl, g255, ?_⟩
 refine Ct.of (vs := [ptr d, ptr C.s]) Tryz.func255 rfl Tryz.ntmps255 (by simp) (loc_blks loc_emp _) ?_
 intro w0 D0
 refine T.conv (fun w h => Sy.opens (H2 := [_]) h loc_emp) <| T.seq <| T.any (ord := [0, 1, 2, 3, 4, 5, 6, 7, 8, 9, 10]) (lo := (fun _ => false)) (ef := (fun i => [10].contains i)) (by kernel_rfl) (fun _ h => h.drew) <| xmv Z Z Z <| xmv Z Z Z <| xnc Z Z Z ?_
 refine xfa Z Z Z f201_0 <| xld Z Z Z o39 .z Z <| xmv Z Z Z <| xnc Z Z Z <| xfa Z Z Z f201_6 <| xld Z Z Z o3 .z Z <| xcq Z Z Z Z g33 (ct_State) loc_emp <| xce Z Z Z Z g148 (ct_Put loc_emp (by omega)) loc_emp pend0 <| X.nil <| T.seq ?_
 refine tx [0,1,2,3,4,5,6,7,8,9,10,11] (ct [8,11]) Z Z <| xmv Z Z Z <| xmv Z Z Z <| xmv Z Z Z <| xnc Z Z Z <| xfa Z Z Z f201_6 <| xld Z Z Z o3 .z Z <| xnc Z Z Z <| xfa Z Z Z f201_10 <| xst Z Z Z Z o3 Z .z Z .z pend0 <| xnc Z Z Z <| xfa Z Z Z f201_7 ?_
 refine xst Z Z Z Z o4 Z .z Z .z pend0 <| X.nil <| T.seq <| T.any (ord := [0, 1, 2, 3, 4, 5, 6, 7, 8, 9, 10, 11, 12]) (lo := (fun _ => false)) (ef := (fun i => [12].contains i)) (by kernel_rfl) (fun _ h => h.drew) <| xmv Z Z Z <| xmv Z Z Z <| xnc Z Z Z ?_
 refine xfa Z Z Z f201_6 <| xld Z Z Z o3 .z Z <| xmv Z Z Z <| xnc Z Z Z <| xfa Z Z Z f201_1 <| xld Z Z Z o3 .z Z <| xbd Z Z Z l33 z33 Z <| xnc Z Z Z <| xfa Z Z Z f201_12 <| xsta Z Z Z Z m33 Z Z .z (Nat.le_of_ble_eq_true Z) .z pend0 <| X.nil ?_
 refine tx [0,1,2,3] (ct [3]) Z Z <| xmv Z Z Z <| xnc Z Z Z <| xfa Z Z Z f201_13 <| xst Z Z Z Z o130 Z .z Z .z pend0 <| X.nil <| T.end0 Z (fun W D h => ?_)
 exact ⟨D, ⟨rfl, rfl, _, _, _, ⟨rfl, rfl⟩, h⟩, fun _ hk => hk⟩
theorem hp_run {C : Cx} {d : Nat} {m : Hp} {l : Wds} (hM : C.M.Ok) (hm : m.Ok) (hr : ∀ a, u64R (ld l a)) (hn : m.next ≠ .nil) : HpRun C d m l (m.step0 C.M l).1 (m.step0 C.M l).2 := by
 cases h : m.next with
 | nil => exact (hn h).elim
 | look => exact hp_look hM hm hr h
 | links => exact hp_links hM hm hr h
 | swap => exact hp_swap hM hm hr h
 | header => exact hp_header hM hm hr h
 | slot => exact hp_slot hM hm hr h
 | marks => exact hp_marks hM hm hr h
 | state => exact hp_state hM hm hr h
theorem Hp.noev_ok {m : Hp} (hm : m.Ok) : ({ m with event := ev0 } : Hp).Ok := ⟨hm.slots, hm.mark, hm.h, hm.link, hm.v, hm.tries, hm.i, hm.lt, hm.sl⟩
theorem ct_hpStep {C : Cx} {d : Nat} {m : Hp} {l : Wds} (hM : C.M.Ok) (hm : m.Ok) (hr : ∀ a, u64R (ld l a)) : Cv C 118 [ptr d, ptr C.s] l (HpR C d m) (.bool (decide ((m.step C.M l).1.next = .nil))) (m.step C.M l).2 (HpR C d (m.step C.M l).1) := by
 by_cases hn : m.next = .nil
 ·have e : m.step C.M l = ({ m with event := ev0 }, l) := by unfold Hp.step Hp.step0; rw [show ({ m with event := ev0 } : Hp).next = .nil from hn]
  rw [e, show decide (({ m with event := ev0 } : Hp).next = .nil) = true from decide_eq_true hn]
  exact hp_Nil hn
 ·exact hp_Step (hp_run hM (Hp.noev_ok hm) hr hn)
theorem Hp.step_ok {M : MapM} (hM : M.Ok) {m : Hp} {l : Wds} (hm : m.Ok) (hr : ∀ a, u64R (ld l a)) : (m.step M l).1.Ok := by
 have hk : ∀ {n : HpN}, m.next = n → n ≠ .nil → 0 ≤ m.slots ∧ m.slots ≤ 1000 := fun h h' => hm.slots.resolve_right (fun e => h' (h.symm.trans e))
 unfold Hp.step Hp.step0
 split
 ·exact Hp.noev_ok hm
 ·rename_i hn
  have hs := hk hn (fun h => nomatch h)
  have ht := hm.lt hn
  have h4 : 0 ≤ m.tries + 1 ∧ m.tries + 1 ≤ 4 := by have := hm.tries; omega
  split
  ·exact ⟨.inl hs, hm.mark, hr _, hm.link, lo_rng _, h4, hm.i, (fun h => nomatch h), fun h => nomatch h⟩
  ·exact ⟨.inl hs, hm.mark, hr _, hm.link, lo_rng _, h4, hm.i, (fun h => nomatch h), fun h => nomatch h⟩
 ·rename_i hn
  exact ⟨.inl (hk hn (fun h => nomatch h)), hm.mark, hm.h, w32_rng _, hm.v, hm.tries, hm.i, (fun h => nomatch h), fun h => nomatch h⟩
 ·rename_i hn
  have hs := hk hn (fun h => nomatch h)
  split
  ·exact ⟨.inl hs, hm.mark, hm.h, hm.link, hm.v, hm.tries, hm.i, (fun h => nomatch h), fun h => nomatch h⟩
  ·split
   ·exact ⟨.inl hs, hm.mark, hm.h, hm.link, hm.v, hm.tries, hm.i, (fun h => nomatch h), fun h => nomatch h⟩
   ·rename_i h4
    have := hm.tries
    exact ⟨.inl hs, hm.mark, hm.h, hm.link, hm.v, hm.tries, hm.i, (fun _ => by simp only at h4 ⊢; omega), fun h => nomatch h⟩
 ·rename_i hn
  refine ⟨.inl (hk hn (fun h => nomatch h)), hm.mark, hm.h, hm.link, hm.v, hm.tries, hm.i, fun h => ?_, fun h => ?_⟩
  ·simp only [Hp.rest] at h
   split at h <;> cases h
  ·simp only [Hp.rest] at h ⊢
   have := room_rng hM m.v
   split at h
   ·omega
   ·cases h
 ·rename_i hn
  have hs := hk hn (fun h => nomatch h)
  have hi := hm.sl hn
  have hi0 := hm.i
  refine ⟨.inl hs, hm.mark, hm.h, hm.link, hm.v, hm.tries, by simp only; omega, fun h => ?_, fun h => ?_⟩
  ·simp only [Hp.rest] at h
   split at h <;> cases h
  ·simp only [Hp.rest] at h ⊢
   have := room_rng hM m.v
   split at h
   ·omega
   ·cases h
 ·rename_i hn
  exact ⟨.inl (hk hn (fun h => nomatch h)), hm.mark, hm.h, hm.link, hm.v, hm.tries, hm.i, (fun h => nomatch h), fun h => nomatch h⟩
 ·exact ⟨.inr rfl, hm.mark, hm.h, hm.link, hm.v, hm.tries, hm.i, (fun h => nomatch h), fun h => nomatch h⟩
theorem Hp.step_rng {M : MapM} {m : Hp} {l : Wds} (hm : m.Ok) (hr : Rng l) : Rng (m.step M l).2 := by
 unfold Hp.step Hp.step0
 split
 ·exact hr
 ·split <;> exact hr
 ·exact hr
 ·split
  ·exact hr.cas (turn_rng hm.link)
  ·split <;> exact hr.cas (turn_rng hm.link)
 ·rename_i hn
  have := hm.slots.resolve_right (fun e => by rw [show m.next = .header from hn] at e; cases e)
  exact hr.put (by unfold u64R; simp only; omega)
 ·exact hr.put (by unfold u64R; omega)
 ·exact hr.put hm.mark
 ·exact hr.put (by unfold u64R; omega)
theorem ct_sis {C : Cx} {l : Wds} {k : Int} (hk : 0 ≤ k ∧ k < 5) : Cv C 79 [.int .i64 k] l emp (.bool true) l emp := by
 refine Ct.of Tryz.func79 rfl Tryz.ntmps79 (by simp) loc_emp ?_
 intro w0 D0
 refine T.seq <| tx [0] nf Z Z <| xas Z Z Z <| X.nil <| T.seq <| tx [0,1,2,3,4,5,6] nf Z Z <| xmv Z Z Z <| xcm (c := true) Z Z Z Z Z (decide_eq_true hk.1) <| xmv Z Z Z <| xmv Z Z Z <| xcm (c := true) Z Z Z Z Z (decide_eq_true hk.2) <| xpk Z Z Z Z ?_
 refine xas Z Z Z <| X.nil <| T.ret1 Z (fun W D h => ?_)
 exact ⟨D, ⟨rfl, rfl, h⟩, fun _ hk => hk⟩
theorem ct_Slots {C : Cx} {l : Wds} {k : Int} (hk : 0 ≤ k ∧ k < 5) : Cv C 50 [.int .i64 k] l emp (.int .i64 (slotsOf k)) l emp := by
 refine Ct.of Tryz.func50 rfl Tryz.ntmps50 (by simp) loc_emp ?_
 intro w0 D0
 refine T.seq <| tx [0] nf Z Z <| xas Z Z Z <| X.nil <| T.seq <| T.seq <| tx [0,1,2] nf Z Z <| xmv Z Z Z <| xcq Z Z Z Z g79 (ct_sis hk) loc_emp <| xnot Z Z Z <| X.nil <| T.no Z <| T.skip <| T.seq <| tx [0,1,2] nf Z Z <| xmv Z Z Z ?_
 refine xbo Z Z Z Z gd_shl (run_shl hk) <| xas Z Z Z <| X.nil <| T.ret1 Z (fun W D h => ?_)
 exact ⟨D, ⟨rfl, rfl, h⟩, fun _ hk => hk⟩
set_option maxHeartbeats 1000000 in
theorem ct_Of {C : Cx} {l : Wds} {n : Int} : Cv C 123 [.int .i64 n] l emp (.int .i64 (classOf n)) l emp := by
 refine Ct.of Tryz.func123 rfl Tryz.ntmps123 (by simp) loc_emp ?_
 intro w0 D0
 refine T.seq <| tx [0] nf Z Z <| xas Z Z Z <| X.nil <| T.seq <| T.seq ?_
 by_cases hq : n < 0
 ·skip
  refine tx [0] nf Z Z <| xmv Z Z Z <| X.nil <| T.block <| T.unroll 6 <| T.seq <| tx [0] nf Z Z <| xcm (c := true) Z Z Z Z Z (by decide) <| X.nil <| T.seq <| T.yes Z <| T.skip <| T.seq <| T.block <| T.seq <| tx [0,1] nf Z Z <| xmv Z Z Z <| xas Z Z Z ?_
  refine X.nil <| T.seq <| tx [0,1,2,3,4,5,6,7] nf Z Z <| xmv Z Z Z <| xcm (c := false) Z Z Z Z Z (decide_eq_false (by omega)) <| xmv Z Z Z <| x_skip Z Z Z <| x_skip Z Z Z <| x_skip Z Z Z <| x_skip Z Z Z <| xpk Z Z Z Z <| X.nil <| T.no Z <| T.skip ?_
  refine T.blk_end <| tx [0,1] nf Z Z <| xarc (c := 1) Z Z Z Z Z (by decide) <| xmv Z Z Z <| X.nil <| T.un_end <| T.seq <| tx [0] nf Z Z <| xcm (c := true) Z Z Z Z Z (by decide) <| X.nil <| T.seq <| T.yes Z <| T.skip <| T.seq <| T.block <| T.seq ?_
  refine tx [0,1] nf Z Z <| xmv Z Z Z <| xas Z Z Z <| X.nil <| T.seq <| tx [0,1,2,3,4,5,6,7] nf Z Z <| xmv Z Z Z <| xcm (c := false) Z Z Z Z Z (decide_eq_false (by omega)) <| xmv Z Z Z <| x_skip Z Z Z <| x_skip Z Z Z <| x_skip Z Z Z <| x_skip Z Z Z ?_
  refine xpk Z Z Z Z <| X.nil <| T.no Z <| T.skip <| T.blk_end <| tx [0,1] nf Z Z <| xarc (c := 2) Z Z Z Z Z (by decide) <| xmv Z Z Z <| X.nil <| T.un_end <| T.seq <| tx [0] nf Z Z <| xcm (c := true) Z Z Z Z Z (by decide) <| X.nil <| T.seq <| T.yes Z ?_
  refine T.skip <| T.seq <| T.block <| T.seq <| tx [0,1] nf Z Z <| xmv Z Z Z <| xas Z Z Z <| X.nil <| T.seq <| tx [0,1,2,3,4,5,6,7] nf Z Z <| xmv Z Z Z <| xcm (c := false) Z Z Z Z Z (decide_eq_false (by omega)) <| xmv Z Z Z <| x_skip Z Z Z <| x_skip Z Z Z ?_
  refine x_skip Z Z Z <| x_skip Z Z Z <| xpk Z Z Z Z <| X.nil <| T.no Z <| T.skip <| T.blk_end <| tx [0,1] nf Z Z <| xarc (c := 3) Z Z Z Z Z (by decide) <| xmv Z Z Z <| X.nil <| T.un_end <| T.seq <| tx [0] nf Z Z <| xcm (c := true) Z Z Z Z Z (by decide) ?_
  refine X.nil <| T.seq <| T.yes Z <| T.skip <| T.seq <| T.block <| T.seq <| tx [0,1] nf Z Z <| xmv Z Z Z <| xas Z Z Z <| X.nil <| T.seq <| tx [0,1,2,3,4,5,6,7] nf Z Z <| xmv Z Z Z <| xcm (c := false) Z Z Z Z Z (decide_eq_false (by omega)) <| xmv Z Z Z ?_
  refine x_skip Z Z Z <| x_skip Z Z Z <| x_skip Z Z Z <| x_skip Z Z Z <| xpk Z Z Z Z <| X.nil <| T.no Z <| T.skip <| T.blk_end <| tx [0,1] nf Z Z <| xarc (c := 4) Z Z Z Z Z (by decide) <| xmv Z Z Z <| X.nil <| T.un_end <| T.seq <| tx [0] nf Z Z ?_
  refine xcm (c := true) Z Z Z Z Z (by decide) <| X.nil <| T.seq <| T.yes Z <| T.skip <| T.seq <| T.block <| T.seq <| tx [0,1] nf Z Z <| xmv Z Z Z <| xas Z Z Z <| X.nil <| T.seq <| tx [0,1,2,3,4,5,6,7] nf Z Z <| xmv Z Z Z ?_
  refine xcm (c := false) Z Z Z Z Z (decide_eq_false (by omega)) <| xmv Z Z Z <| x_skip Z Z Z <| x_skip Z Z Z <| x_skip Z Z Z <| x_skip Z Z Z <| xpk Z Z Z Z <| X.nil <| T.no Z <| T.skip <| T.blk_end <| tx [0,1] nf Z Z ?_
  refine xarc (c := 5) Z Z Z Z Z (by decide) <| xmv Z Z Z <| X.nil <| T.un_end <| T.seq <| tx [0] nf Z Z <| xcm (c := false) Z Z Z Z Z (by decide) <| X.nil <| T.seq <| T.no Z <| T.exit ?_
  refine TE.un_exit ?_
  refine TE.blk_exit ?_
  refine T.seq <| tx [0] nf Z Z <| xas Z Z Z <| X.nil <| T.ret1 Z (fun W D h => ?_)
  rw [show classOf n = _ from if_pos (by omega)]
  exact ⟨D, ⟨rfl, rfl, h⟩, fun _ hk => hk⟩
 ·skip
  refine tx [0] nf Z Z <| xmv Z Z Z <| X.nil <| T.block <| T.unroll 6 <| T.seq <| tx [0] nf Z Z <| xcm (c := true) Z Z Z Z Z (by decide) <| X.nil <| T.seq <| T.yes Z <| T.skip <| T.seq <| T.block <| T.seq <| tx [0,1] nf Z Z <| xmv Z Z Z <| xas Z Z Z ?_
  refine X.nil <| T.seq <| tx [0,1,2,3,4,5,6,7] nf Z Z <| xmv Z Z Z <| xcm (c := true) Z Z Z Z Z (decide_eq_true (by omega)) <| xmv Z Z Z <| xmv Z Z Z <| xmv Z Z Z <| xcq Z Z Z Z g50 (ct_Slots (k := 0) (by decide)) loc_emp <| xcm Z Z Z Z Z Z ?_
  refine xpk Z Z Z Z <| X.nil <| T.cond Z ?_ ?_
  ·intro hb1
   have c0 : n ≤ 1 := of_decide_eq_true hb1
   refine T.seq <| tx [0,1] nf Z Z <| xmv Z Z Z <| xas Z Z Z <| X.nil <| T.rets ?_
   refine TE.blk_ret ?_
   refine TE.un_ret ?_
   refine TE.blk_ret ?_
   refine TE.ret1 rfl (fun W D h => ?_)
   rw [show classOf n = _ from (if_neg (by omega)).trans (if_pos c0)]
   exact ⟨D, ⟨rfl, rfl, h⟩, fun _ hk => hk⟩
  ·intro hb1
   have c0 : ¬ n ≤ 1 := of_decide_eq_false hb1
   refine T.skip <| T.blk_end <| tx [0,1] nf Z Z <| xarc (c := 1) Z Z Z Z Z (by decide) <| xmv Z Z Z <| X.nil <| T.un_end <| T.seq <| tx [0] nf Z Z <| xcm (c := true) Z Z Z Z Z (by decide) <| X.nil <| T.seq <| T.yes Z <| T.skip <| T.seq <| T.block ?_
   refine T.seq <| tx [0,1] nf Z Z <| xmv Z Z Z <| xas Z Z Z <| X.nil <| T.seq <| tx [0,1,2,3,4,5,6,7] nf Z Z <| xmv Z Z Z <| xcm (c := true) Z Z Z Z Z (decide_eq_true (by omega)) <| xmv Z Z Z <| xmv Z Z Z <| xmv Z Z Z ?_
   refine xcq Z Z Z Z g50 (ct_Slots (k := 1) (by decide)) loc_emp <| xcm Z Z Z Z Z Z <| xpk Z Z Z Z <| X.nil <| T.cond Z ?_ ?_
   ·intro hb2
    have c1 : n ≤ 2 := of_decide_eq_true hb2
    refine T.seq <| tx [0,1] nf Z Z <| xmv Z Z Z <| xas Z Z Z <| X.nil <| T.rets ?_
    refine TE.blk_ret ?_
    refine TE.un_ret ?_
    refine TE.blk_ret ?_
    refine TE.ret1 rfl (fun W D h => ?_)
    rw [show classOf n = _ from (if_neg (by omega)).trans ((if_neg c0).trans (if_pos c1))]
    exact ⟨D, ⟨rfl, rfl, h⟩, fun _ hk => hk⟩
   ·intro hb2
    have c1 : ¬ n ≤ 2 := of_decide_eq_false hb2
    refine T.skip <| T.blk_end <| tx [0,1] nf Z Z <| xarc (c := 2) Z Z Z Z Z (by decide) <| xmv Z Z Z <| X.nil <| T.un_end <| T.seq <| tx [0] nf Z Z <| xcm (c := true) Z Z Z Z Z (by decide) <| X.nil <| T.seq <| T.yes Z <| T.skip <| T.seq <| T.block ?_
    refine T.seq <| tx [0,1] nf Z Z <| xmv Z Z Z <| xas Z Z Z <| X.nil <| T.seq <| tx [0,1,2,3,4,5,6,7] nf Z Z <| xmv Z Z Z <| xcm (c := true) Z Z Z Z Z (decide_eq_true (by omega)) <| xmv Z Z Z <| xmv Z Z Z <| xmv Z Z Z ?_
    refine xcq Z Z Z Z g50 (ct_Slots (k := 2) (by decide)) loc_emp <| xcm Z Z Z Z Z Z <| xpk Z Z Z Z <| X.nil <| T.cond Z ?_ ?_
    ·intro hb3
     have c2 : n ≤ 4 := of_decide_eq_true hb3
     refine T.seq <| tx [0,1] nf Z Z <| xmv Z Z Z <| xas Z Z Z <| X.nil <| T.rets ?_
     refine TE.blk_ret ?_
     refine TE.un_ret ?_
     refine TE.blk_ret ?_
     refine TE.ret1 rfl (fun W D h => ?_)
     rw [show classOf n = _ from (if_neg (by omega)).trans ((if_neg c0).trans ((if_neg c1).trans (if_pos c2)))]
     exact ⟨D, ⟨rfl, rfl, h⟩, fun _ hk => hk⟩
    ·intro hb3
     have c2 : ¬ n ≤ 4 := of_decide_eq_false hb3
     refine T.skip <| T.blk_end <| tx [0,1] nf Z Z <| xarc (c := 3) Z Z Z Z Z (by decide) <| xmv Z Z Z <| X.nil <| T.un_end <| T.seq <| tx [0] nf Z Z <| xcm (c := true) Z Z Z Z Z (by decide) <| X.nil <| T.seq <| T.yes Z <| T.skip <| T.seq <| T.block ?_
     refine T.seq <| tx [0,1] nf Z Z <| xmv Z Z Z <| xas Z Z Z <| X.nil <| T.seq <| tx [0,1,2,3,4,5,6,7] nf Z Z <| xmv Z Z Z <| xcm (c := true) Z Z Z Z Z (decide_eq_true (by omega)) <| xmv Z Z Z <| xmv Z Z Z <| xmv Z Z Z ?_
     refine xcq Z Z Z Z g50 (ct_Slots (k := 3) (by decide)) loc_emp <| xcm Z Z Z Z Z Z <| xpk Z Z Z Z <| X.nil <| T.cond Z ?_ ?_
     ·intro hb4
      have c3 : n ≤ 8 := of_decide_eq_true hb4
      refine T.seq <| tx [0,1] nf Z Z <| xmv Z Z Z <| xas Z Z Z <| X.nil <| T.rets ?_
      refine TE.blk_ret ?_
      refine TE.un_ret ?_
      refine TE.blk_ret ?_
      refine TE.ret1 rfl (fun W D h => ?_)
      rw [show classOf n = _ from (if_neg (by omega)).trans ((if_neg c0).trans ((if_neg c1).trans ((if_neg c2).trans (if_pos c3))))]
      exact ⟨D, ⟨rfl, rfl, h⟩, fun _ hk => hk⟩
     ·intro hb4
      have c3 : ¬ n ≤ 8 := of_decide_eq_false hb4
      refine T.skip <| T.blk_end <| tx [0,1] nf Z Z <| xarc (c := 4) Z Z Z Z Z (by decide) <| xmv Z Z Z <| X.nil <| T.un_end <| T.seq <| tx [0] nf Z Z <| xcm (c := true) Z Z Z Z Z (by decide) <| X.nil <| T.seq <| T.yes Z <| T.skip <| T.seq <| T.block ?_
      refine T.seq <| tx [0,1] nf Z Z <| xmv Z Z Z <| xas Z Z Z <| X.nil <| T.seq <| tx [0,1,2,3,4,5,6,7] nf Z Z <| xmv Z Z Z <| xcm (c := true) Z Z Z Z Z (decide_eq_true (by omega)) <| xmv Z Z Z <| xmv Z Z Z <| xmv Z Z Z ?_
      refine xcq Z Z Z Z g50 (ct_Slots (k := 4) (by decide)) loc_emp <| xcm Z Z Z Z Z Z <| xpk Z Z Z Z <| X.nil <| T.cond Z ?_ ?_
      ·intro hb5
       have c4 : n ≤ 16 := of_decide_eq_true hb5
       refine T.seq <| tx [0,1] nf Z Z <| xmv Z Z Z <| xas Z Z Z <| X.nil <| T.rets ?_
       refine TE.blk_ret ?_
       refine TE.un_ret ?_
       refine TE.blk_ret ?_
       refine TE.ret1 rfl (fun W D h => ?_)
       rw [show classOf n = _ from (if_neg (by omega)).trans ((if_neg c0).trans ((if_neg c1).trans ((if_neg c2).trans ((if_neg c3).trans (if_pos c4)))))]
       exact ⟨D, ⟨rfl, rfl, h⟩, fun _ hk => hk⟩
      ·intro hb5
       have c4 : ¬ n ≤ 16 := of_decide_eq_false hb5
       refine T.skip <| T.blk_end <| tx [0,1] nf Z Z <| xarc (c := 5) Z Z Z Z Z (by decide) <| xmv Z Z Z <| X.nil <| T.un_end <| T.seq <| tx [0] nf Z Z <| xcm (c := false) Z Z Z Z Z (by decide) <| X.nil <| T.seq <| T.no Z <| T.exit ?_
       refine TE.un_exit ?_
       refine TE.blk_exit ?_
       refine T.seq <| tx [0] nf Z Z <| xas Z Z Z <| X.nil <| T.ret1 Z (fun W D h => ?_)
       rw [show classOf n = _ from (if_neg (by omega)).trans ((if_neg c0).trans ((if_neg c1).trans ((if_neg c2).trans ((if_neg c3).trans (if_neg c4)))))]
       exact ⟨D, ⟨rfl, rfl, h⟩, fun _ hk => hk⟩
set_option maxHeartbeats 1000000 in
theorem ct_hpNew {C : Cx} {l : Wds} {s mk : Int} : Cn C 98 [ptr C.m, .int .i64 s, .int .u64 mk] l emp l (fun q => HpR C q (.new s mk)) := by
 refine Ct.of Tryz.func98 rfl Tryz.ntmps98 (by simp) loc_emp ?_
 intro w0 D0
 refine T.seq <| tx [0] nf Z Z <| xas Z Z Z <| X.nil <| T.seq <| tx [0,1,2,3,4,5,6,7] (ct [6]) Z Z <| xmv Z Z Z <| xmv Z Z Z <| xmv Z Z Z <| xcq Z Z Z Z g123 (ct_Of) loc_emp <| xmv Z Z Z <| xbd Z Z Z l201 z201 Z <| xbx Z Z Z Z (fun _ => pend0) (fun b0 => ?_)
 refine xas Z Z Z <| X.nil <| T.seq <| T.seq <| tx [0,1,2,3,4,5,6,7,8] nf Z Z <| xmv Z Z Z <| xnpn Z Z Z Z u39_dPtr <| xmv Z Z Z <| xmv Z Z Z <| xnc Z Z Z <| xfa Z Z Z f201_2 <| xld Z Z Z o3 .z Z <| xcm Z Z Z Z Z Z <| xpk Z Z Z Z <| X.nil <| T.cond Z ?_ ?_
 ·intro hb0
  have hc : classOf s ≥ 0 := of_decide_eq_true hb0
  refine tx [0,1,2,3,4,5,6,7,8,9] (ct [6,9]) Z Z <| xmv Z Z Z <| xmv Z Z Z <| xmv Z Z Z <| xmf Z Z Z Z <| xnc Z Z Z <| xfa Z Z Z f201_11 <| xst Z Z Z Z o27 Z .z Z .z pend0 <| xnc Z Z Z <| xfa Z Z Z f201_13 <| xst Z Z Z Z o130 Z .z Z .z pend0 <| X.nil ?_
  refine T.seq <| tx [0,1] nf Z Z <| xmv Z Z Z <| xas Z Z Z <| X.nil <| T.ret1 Z (fun W D h => ?_)
  have e : Hp.new s mk = ⟨s, mk, 0, 0, 0, 0, 0, 0, 0, ev0, .look⟩ := by unfold Hp.new; rw [if_pos hc, if_pos hc]
  rw [e]
  exact ⟨D, ⟨_, rfl, rfl, _, _, _, ⟨rfl, rfl⟩, h⟩, fun _ hk => hk⟩
 ·intro hb0
  have hc : ¬ classOf s ≥ 0 := of_decide_eq_false hb0
  refine T.skip <| T.seq <| tx [0,1] nf Z Z <| xmv Z Z Z <| xas Z Z Z <| X.nil <| T.ret1 Z (fun W D h => ?_)
  have e : Hp.new s mk = ⟨s, mk, 0, 0, 0, 0, 0, 0, 21, ev0, .nil⟩ := by unfold Hp.new; rw [if_neg hc, if_neg hc]
  rw [e]
  exact ⟨D, ⟨_, rfl, rfl, _, _, _, ⟨rfl, rfl⟩, h⟩, fun _ hk => hk⟩
set_option maxHeartbeats 1000000 in
theorem hp_Node {C : Cx} {d : Nat} {m : Hp} {l : Wds}  : Cv C 119 [ptr d] l (HpR C d m) (.tuple #[.int .i64 m.node, .int .i64 m.e]) l (HpR C d m) := by
 refine Ct.of Tryz.func119 rfl Tryz.ntmps119 (by simp) loc_HpR ?_
 intro w0 D0
 refine T.ex (fun _ => loc_Mch loc_HpNx) ?_
 intro dv
 refine T.mch (H := []) loc_HpNx ?_
 intro nv RN hN hl
 have hi := Hp_is hN
 refine T.seq <| tx [0,1] nf Z Z <| xas Z Z Z <| xas Z Z Z <| X.nil <| T.seq <| T.seq <| tx [0,1] nf Z Z <| xmv Z Z Z <| xnp Z Z Z Z u128_dPtr <| X.nil <| T.no Z <| T.skip <| T.seq ?_
 refine T.any (ord := [0, 1, 2, 3, 4, 5, 6, 7, 8, 9]) (lo := (fun _ => false)) (ef := (fun _ => false)) (by kernel_rfl) (fun _ h => h.drew) <| xmv Z Z Z <| xnc Z Z Z <| xfa Z Z Z f201_10 <| xld Z Z Z o3 .z Z <| xmv Z Z Z <| xnc Z Z Z <| xfa Z Z Z f201_11 ?_
 refine xld Z Z Z o27 .z Z <| xas Z Z Z <| xas Z Z Z <| X.nil <| T.ret2 Z (fun W D h => ?_)
 exact ⟨D, ⟨rfl, rfl, dv, nv, RN, hN, h⟩, fun _ hk => hk⟩
end Go.Proofs.YtmpcfamcbaineaaGreat.Mo
