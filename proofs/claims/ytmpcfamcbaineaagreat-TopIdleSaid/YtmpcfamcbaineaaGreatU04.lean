/- Part 4 of the proof: contracts of the functions that the law reaches, and the plain law. No condition. -/
import Derived.Test.YtmpcfamcbaineaaGreatU03
namespace Go.Proofs.YtmpcfamcbaineaaGreat.Mo
open Go.RowKit Go.Proofs.YtmpcfamcbaineaaGreat.Mo
set_option linter.unusedVariables false
set_option linter.unusedSimpArgs false
def Cl.cs (C : Cx) (x : Cl) (nv : Value) : List Value := [ptr C.m, .int .i64 x.v, .int .u64 x.cycle, .int .u64 x.k, .bool x.won, nv]
def ClNx (C : Cx) (d : Nat) (x : Cl) (nv : Value) (RN : Asr) : Prop := match x.next with
 | .nil => nv = .nilFunc ∧ RN = emp
 | .look => nv = fm 225 d ∧ RN = emp
 | .count => nv = fm 242 d ∧ RN = emp
 | .swap => nv = fm 253 d ∧ RN = emp
 | .back => nv = fm 261 d ∧ RN = emp
theorem loc_ClNx {C : Cx} {d : Nat} {m : Cl} (nv : Value) (RN : Asr) (h : ClNx C d m nv RN) : Loc RN := by
 unfold ClNx at h
 split at h <;> (obtain ⟨-, rfl⟩ := h; exact loc_emp)
theorem Cl_is {C : Cx} {d : Nat} {m : Cl} {nv : Value} {RN : Asr} (h : ClNx C d m nv RN) : NxIs nv (decide (m.next = .nil)) := by
 unfold ClNx at h
 split at h <;> rename_i hn <;> rw [hn] <;> obtain ⟨rfl, -⟩ := h <;> first | exact .inl ⟨rfl, rfl⟩ | exact .inr ⟨_, _, _, rfl, rfl⟩
structure Cl.Ok (m : Cl) : Prop where
 cycle : u64R m.cycle
theorem ne203 {b : Nat} {v c : Value} (w : World) : (binOp .neq 252 (.agg #[ptr b, v, c]) (.agg #[.pointer none, v, c])).run Tryz.prog w = .ok (.bool true) w := by kernel_rfl
theorem gd203 {x y : Operand} {u v : Array Value} (w : World) : (eqGuard .neq 252 x y (.agg u) (.agg v)).run Tryz.prog w = .ok () w := by kernel_rfl
def ClR (C : Cx) (d : Nat) (m : Cl) : Asr := fun D w => Mch 254 d (m.cs C) (ClNx C d m) D w
theorem loc_ClR {C : Cx} {d : Nat} {m : Cl} : Loc (ClR C d m) := loc_Mch loc_ClNx
def ClRun (C : Cx) (d : Nat) (m : Cl) (l : Wds) (m' : Cl) (l' : Wds) : Prop := ∀ nv RN, ClNx C d m nv RN → ∃ fid fs cs, nv = .func (.func fid) (List.toArray fs) (List.toArray cs) ∧ fnB fid = true ∧ Cv C fid (fs ++ [ptr C.s] ++ cs) l (blks [⟨d, 254, m.cs C nv⟩] RN) (.tuple #[]) l' (ClR C d m')
theorem f252_0 : fld 252 0 0 = true := by kernel_rfl
theorem f252_1 : fld 252 1 1 = true := by kernel_rfl
theorem f252_2 : fld 252 2 2 = true := by kernel_rfl
theorem f254_0 : fld 254 0 0 = true := by kernel_rfl
theorem f254_1 : fld 254 1 3 = true := by kernel_rfl
theorem f254_2 : fld 254 2 4 = true := by kernel_rfl
theorem f254_3 : fld 254 3 5 = true := by kernel_rfl
theorem g165 : fnB 165 = true := by kernel_rfl
theorem g221 : fnB 221 = true := by kernel_rfl
theorem g225 : fnB 225 = true := by kernel_rfl
theorem g240 : fnB 240 = true := by kernel_rfl
theorem g242 : fnB 242 = true := by kernel_rfl
theorem g253 : fnB 253 = true := by kernel_rfl
theorem g261 : fnB 261 = true := by kernel_rfl
theorem l252 : layB 252 [(0, 1), (1, 1), (2, 1)] = true := by kernel_rfl
theorem l254 : layB 254 [(0, 3), (3, 1), (4, 1), (5, 1)] = true := by kernel_rfl
theorem m252 : many 252 3 = true := by kernel_rfl
theorem u225_dPtr : undIs 225 (dPtr) = true := by kernel_rfl
theorem z252 : zer 252 = some [.pointer none, .int .i64 0, .int .u64 0] := by kernel_rfl
theorem z254 : zer 254 = some [.pointer none, .int .i64 0, .int .u64 0, .int .u64 0, .bool false, .nilFunc] := by kernel_rfl
set_option maxHeartbeats 1000000 in
theorem cl_Step {C : Cx} {d : Nat} {m m' : Cl} {l l' : Wds} (hrun : ClRun C d m l m' l') : Cv C 226 [ptr d, ptr C.s] l (ClR C d m) (.bool (decide (m'.next = .nil))) l' (ClR C d m') := by
 refine Ct.of Tryz.func226 rfl Tryz.ntmps226 (by simp) loc_ClR ?_
 intro w0 D0
 refine T.mch (H := []) loc_ClNx ?_
 intro nv RN hN hl
 obtain ⟨fid, fs, cs, rfl, hg, hc⟩ := hrun  nv RN hN
 refine T.seq <| tx [0] nf Z Z <| xas Z Z Z <| X.nil <| T.seq <| T.seq <| tx [0,1,2,3,4,5,6,7,8] nf Z Z <| xmv Z Z Z <| xnp Z Z Z Z u225_dPtr <| xmv Z Z Z <| xmv Z Z Z <| xnc Z Z Z <| xfa Z Z Z f254_3 <| xld Z Z Z o130 .z Z <| xnf Z Z Z Z u130_dFun ?_
 refine xpk Z Z Z Z <| X.nil <| T.no Z <| T.skip <| T.seq <| tx [0,1,2,3,4,5] (ct [5]) Z Z <| xmv Z Z Z <| xnc Z Z Z <| xfa Z Z Z f254_3 <| xld Z Z Z o130 .z Z <| xmv Z Z Z <| xcf (H1 := []) (H2 := [_]) Z Z Z Z hg Z hc loc_ClR pend0 <| X.nil <| T.seq ?_
 refine T.mch loc_ClNx ?_
 intro nv' RN' hN' hl'
 refine tx [0,1,2,3,4,5] nf Z Z <| xmv Z Z Z <| xnc Z Z Z <| xfa Z Z Z f254_3 <| xld Z Z Z o130 .z Z <| xbo Z Z Z Z (nx_gd (Cl_is hN')) (nx_eq (Cl_is hN') u130_dFun) <| xas Z Z Z <| X.nil <| T.ret1 Z (fun W D h => ?_)
 exact ⟨D, ⟨rfl, rfl, nv', RN', hN', h⟩, fun _ hk => hk⟩
set_option maxHeartbeats 1000000 in
theorem cl_Step0 {C : Cx} {d : Nat} {m : Cl} {l : Wds} (hn : m.next = .nil) : Cv C 226 [ptr d, ptr C.s] l (ClR C d m) (.bool true) l (ClR C d m) := by
 refine Ct.of Tryz.func226 rfl Tryz.ntmps226 (by simp) loc_ClR ?_
 intro w0 D0
 refine T.mch (H := []) loc_ClNx ?_
 intro nv RN hN hl
 have hi := Cl_is hN
 rw [hn] at hi
 refine T.seq <| tx [0] nf Z Z <| xas Z Z Z <| X.nil <| T.seq <| T.seq <| tx [0,1,2,3,4,5,6,7,8] nf Z Z <| xmv Z Z Z <| xnp Z Z Z Z u225_dPtr <| xmv Z Z Z <| xmv Z Z Z <| xnc Z Z Z <| xfa Z Z Z f254_3 <| xld Z Z Z o130 .z Z ?_
 refine xbo Z Z Z Z (nx_gd hi) (nx_eq hi u130_dFun) <| xpk Z Z Z Z <| X.nil <| T.yes Z <| T.seq <| tx [0] nf Z Z <| xas Z Z Z <| X.nil <| T.ret1 Z (fun W D h => ?_)
 exact ⟨D, ⟨rfl, rfl, nv, RN, hN, h⟩, fun _ hk => hk⟩
set_option maxHeartbeats 1000000 in
theorem cl_look {C : Cx} {d : Nat} {m : Cl} {l : Wds} (hm : m.Ok) (hn : m.next = .look) : ClRun C d m l (m.step C.M l).1 (m.step C.M l).2 := by
 obtain ⟨v, cycle, k, won, nx⟩ := m
 obtain rfl : nx = .look := hn
 rintro  nv RN ⟨rfl, rfl⟩
 refine ⟨225, [ptr d], [], rfl, g225, ?_⟩
 refine Ct.of (vs := [ptr d, ptr C.s]) Tryz.func225 rfl Tryz.ntmps225 (by simp) (loc_blks loc_emp _) ?_
 intro w0 D0
 refine T.conv (fun w h => Sy.opens (H2 := [_]) h loc_emp) <| T.seq <| T.any (ord := [0, 1, 2, 3, 4, 5, 6, 7, 8, 9, 10, 11, 12, 13, 14, 15, 16]) (lo := (fun _ => false)) (ef := (fun i => [16].contains i)) (by kernel_rfl) (fun _ h => h.drew) <| xmv Z Z Z ?_
 refine xmv Z Z Z <| xmv Z Z Z <| xnc Z Z Z <| xfa Z Z Z f254_0 <| xfa Z Z Z f252_0 <| xld Z Z Z o39 .z Z <| xmv Z Z Z <| xnc Z Z Z <| xfa Z Z Z f254_0 <| xfa Z Z Z f252_1 <| xld Z Z Z o3 .z Z <| xcq Z Z Z Z g240 (ct_Mark) loc_emp ?_
 refine xcq Z Z Z Z g32 (ct_Load loc_emp) loc_emp <| xnc Z Z Z <| xfa Z Z Z f254_1 <| xst Z Z Z Z o90 Z .z Z .z pend0 <| X.nil <| T.seq <| tx [0,1,2,3,4,5] (ct [5]) Z Z <| xmv Z Z Z <| xmv Z Z Z <| xmf Z Z Z Z <| xnc Z Z Z <| xfa Z Z Z f254_3 ?_
 refine xst Z Z Z Z o130 Z .z Z .z pend0 <| X.nil <| T.seq <| T.any (ord := [0, 1, 2, 3, 4, 5, 6, 7, 8, 9]) (lo := (fun _ => false)) (ef := (fun _ => false)) (by kernel_rfl) (fun _ h => h.drew) <| xmv Z Z Z <| xnc Z Z Z <| xfa Z Z Z f254_1 ?_
 refine xld Z Z Z o90 .z Z <| xmv Z Z Z <| xnc Z Z Z <| xfa Z Z Z f254_0 <| xfa Z Z Z f252_2 <| xld Z Z Z o90 .z Z <| xcm Z Z Z Z Z Z <| X.nil <| T.cond Z ?_ ?_
 ·intro hb0
  refine tx [0,1,2,3] (ct [3]) Z Z <| xmv Z Z Z <| xnc Z Z Z <| xfa Z Z Z f254_3 <| xst Z Z Z Z o130 Z .z Z .z pend0 <| X.nil <| T.end0 Z (fun W D h => ?_)
  rw [show (⟨v, cycle, k, won, .look⟩ : Cl).step C.M l = _ from if_pos (of_decide_eq_true hb0)]
  exact ⟨D, ⟨rfl, rfl, _, _, ⟨rfl, rfl⟩, h⟩, fun _ hk => hk⟩
 ·intro hb0
  refine T.skip <| T.end0 Z (fun W D h => ?_)
  rw [show (⟨v, cycle, k, won, .look⟩ : Cl).step C.M l = _ from if_neg (of_decide_eq_false hb0)]
  exact ⟨D, ⟨rfl, rfl, _, _, ⟨rfl, rfl⟩, h⟩, fun _ hk => hk⟩
set_option maxHeartbeats 1000000 in
theorem cl_count {C : Cx} {d : Nat} {m : Cl} {l : Wds} (hm : m.Ok) (hn : m.next = .count) : ClRun C d m l (m.step C.M l).1 (m.step C.M l).2 := by
 obtain ⟨v, cycle, k, won, nx⟩ := m
 obtain rfl : nx = .count := hn
 rintro  nv RN ⟨rfl, rfl⟩
 refine ⟨242, [ptr d], [], rfl, g242, ?_⟩
 refine Ct.of (vs := [ptr d, ptr C.s]) Tryz.func242 rfl Tryz.ntmps242 (by simp) (loc_blks loc_emp _) ?_
 intro w0 D0
 refine T.conv (fun w h => Sy.opens (H2 := [_]) h loc_emp) <| T.seq <| tx [0,1,2,3,4,5,6,7] (ct [7]) Z Z <| xmv Z Z Z <| xmv Z Z Z <| xnc Z Z Z <| xfa Z Z Z f254_0 <| xfa Z Z Z f252_0 <| xld Z Z Z o39 .z Z <| xcq Z Z Z Z g165 (ct_Work) loc_emp ?_
 refine xce Z Z Z Z g221 (ct_Add loc_emp) loc_emp pend0 <| X.nil <| tx [0,1,2,3,4,5] (ct [5]) Z Z <| xmv Z Z Z <| xmv Z Z Z <| xmf Z Z Z Z <| xnc Z Z Z <| xfa Z Z Z f254_3 <| xst Z Z Z Z o130 Z .z Z .z pend0 <| X.nil <| T.end0 Z (fun W D h => ?_)
 exact ⟨D, ⟨rfl, rfl, _, _, ⟨rfl, rfl⟩, h⟩, fun _ hk => hk⟩
set_option maxHeartbeats 1000000 in
theorem cl_swap {C : Cx} {d : Nat} {m : Cl} {l : Wds} (hm : m.Ok) (hn : m.next = .swap) : ClRun C d m l (m.step C.M l).1 (m.step C.M l).2 := by
 obtain ⟨v, cycle, k, won, nx⟩ := m
 obtain rfl : nx = .swap := hn
 rintro  nv RN ⟨rfl, rfl⟩
 refine ⟨253, [ptr d], [], rfl, g253, ?_⟩
 refine Ct.of (vs := [ptr d, ptr C.s]) Tryz.func253 rfl Tryz.ntmps253 (by simp) (loc_blks loc_emp _) ?_
 intro w0 D0
 refine T.conv (fun w h => Sy.opens (H2 := [_]) h loc_emp) <| T.seq ?_
 refine T.any (ord := [0, 1, 2, 3, 4, 5, 6, 7, 8, 9, 10, 11, 12, 13, 14, 15, 16, 17, 18, 19, 20, 21, 22, 23, 24, 25]) (lo := (fun i => [0].contains i)) (ef := (fun i => [22, 25].contains i)) (by kernel_rfl) (fun _ h => h.drew) <| xmv Z Z Z <| xmv Z Z Z ?_
 refine xmv Z Z Z <| xnc Z Z Z <| xfa Z Z Z f254_0 <| xfa Z Z Z f252_0 <| xld Z Z Z o39 .z Z <| xmv Z Z Z <| xnc Z Z Z <| xfa Z Z Z f254_0 <| xfa Z Z Z f252_1 <| xld Z Z Z o3 .z Z <| xcq Z Z Z Z g240 (ct_Mark) loc_emp <| xmv Z Z Z <| xnc Z Z Z ?_
 refine xfa Z Z Z f254_1 <| xld Z Z Z o90 .z Z <| xmv Z Z Z <| xnc Z Z Z <| xfa Z Z Z f254_0 <| xfa Z Z Z f252_2 <| xld Z Z Z o90 .z Z <| xce Z Z Z Z g175 (ct_Swap loc_emp hm.cycle) loc_emp (pendmv Z Z pend0) <| xnc Z Z Z <| xfa Z Z Z f254_2 ?_
 refine xst Z Z Z Z o4 Z .z Z .z (pendsk (by kernel_rfl) pend0) <| X.nil <| T.seq <| tx [0,1,2,3,4,5] (ct [5]) Z Z <| xmv Z Z Z <| xmv Z Z Z <| xmf Z Z Z Z <| xnc Z Z Z <| xfa Z Z Z f254_3 <| xst Z Z Z Z o130 Z .z Z .z pend0 <| X.nil <| T.seq ?_
 refine tx [0,1,2,3] nf Z Z <| xmv Z Z Z <| xnc Z Z Z <| xfa Z Z Z f254_2 <| xld Z Z Z o4 .z Z <| X.nil <| T.cond Z ?_ ?_
 ·intro hb0
  refine tx [0,1,2,3] (ct [3]) Z Z <| xmv Z Z Z <| xnc Z Z Z <| xfa Z Z Z f254_3 <| xst Z Z Z Z o130 Z .z Z .z pend0 <| X.nil <| T.end0 Z (fun W D h => ?_)
  rw [show (⟨v, cycle, k, won, .swap⟩ : Cl).step C.M l = _ from if_pos hb0]
  rw [hb0] at h
  exact ⟨D, ⟨rfl, rfl, _, _, ⟨rfl, rfl⟩, h⟩, fun _ hk => hk⟩
 ·intro hb0
  refine T.skip <| T.end0 Z (fun W D h => ?_)
  rw [show (⟨v, cycle, k, won, .swap⟩ : Cl).step C.M l = _ from if_neg (by rw [hb0]; exact Bool.false_ne_true)]
  rw [hb0] at h
  exact ⟨D, ⟨rfl, rfl, _, _, ⟨rfl, rfl⟩, h⟩, fun _ hk => hk⟩
set_option maxHeartbeats 1000000 in
theorem cl_back {C : Cx} {d : Nat} {m : Cl} {l : Wds} (hm : m.Ok) (hn : m.next = .back) : ClRun C d m l (m.step C.M l).1 (m.step C.M l).2 := by
 obtain ⟨v, cycle, k, won, nx⟩ := m
 obtain rfl : nx = .back := hn
 rintro  nv RN ⟨rfl, rfl⟩
 refine ⟨261, [ptr d], [], rfl, g261, ?_⟩
 refine Ct.of (vs := [ptr d, ptr C.s]) Tryz.func261 rfl Tryz.ntmps261 (by simp) (loc_blks loc_emp _) ?_
 intro w0 D0
 refine T.conv (fun w h => Sy.opens (H2 := [_]) h loc_emp) <| T.seq <| tx [0,1,2,3,4,5,6,7] (ct [7]) Z Z <| xmv Z Z Z <| xmv Z Z Z <| xnc Z Z Z <| xfa Z Z Z f254_0 <| xfa Z Z Z f252_0 <| xld Z Z Z o39 .z Z <| xcq Z Z Z Z g165 (ct_Work) loc_emp ?_
 refine xce Z Z Z Z g221 (ct_Add loc_emp) loc_emp pend0 <| X.nil <| tx [0,1,2,3] (ct [3]) Z Z <| xmv Z Z Z <| xnc Z Z Z <| xfa Z Z Z f254_3 <| xst Z Z Z Z o130 Z .z Z .z pend0 <| X.nil <| T.end0 Z (fun W D h => ?_)
 exact ⟨D, ⟨rfl, rfl, _, _, ⟨rfl, rfl⟩, h⟩, fun _ hk => hk⟩
theorem cl_run {C : Cx} {d : Nat} {m : Cl} {l : Wds} (hm : m.Ok) (hn : m.next ≠ .nil) : ClRun C d m l (m.step C.M l).1 (m.step C.M l).2 := by
 cases h : m.next with
 | nil => exact (hn h).elim
 | look => exact cl_look hm h
 | count => exact cl_count hm h
 | swap => exact cl_swap hm h
 | back => exact cl_back hm h
theorem ct_clStep {C : Cx} {d : Nat} {m : Cl} {l : Wds} (hm : m.Ok) : Cv C 226 [ptr d, ptr C.s] l (ClR C d m) (.bool (decide ((m.step C.M l).1.next = .nil))) (m.step C.M l).2 (ClR C d (m.step C.M l).1) := by
 by_cases hn : m.next = .nil
 ·have e : m.step C.M l = (m, l) := by unfold Cl.step; rw [hn]
  rw [e]
  simp only [hn, decide_true]
  exact cl_Step0 hn
 ·exact cl_Step (cl_run hm hn)
theorem Cl.step_ok {M : MapM} {m : Cl} {l : Wds} (hm : m.Ok) : (m.step M l).1.Ok := by
 obtain ⟨h1⟩ := hm
 unfold Cl.step
 split <;> (try split) <;> exact ⟨h1⟩
theorem Cl.step_rng {M : MapM} {m : Cl} {l : Wds} (hm : m.Ok) (hr : Rng l) : Rng (m.step M l).2 := by
 unfold Cl.step
 split <;> (try split) <;> first | exact hr | exact hr.fad | exact hr.cas hm.cycle
set_option maxHeartbeats 1000000 in
theorem cl_Won {C : Cx} {d : Nat} {m : Cl} {l : Wds}  : Cv C 227 [ptr d] l (ClR C d m) (.bool m.won) l (ClR C d m) := by
 refine Ct.of Tryz.func227 rfl Tryz.ntmps227 (by simp) loc_ClR ?_
 intro w0 D0
 refine T.mch (H := []) loc_ClNx ?_
 intro nv RN hN hl
 have hi := Cl_is hN
 refine T.seq <| tx [0] nf Z Z <| xas Z Z Z <| X.nil <| T.seq <| tx [0,1,2,3,4,5,6,7,8] nf Z Z <| xmv Z Z Z <| xnpn Z Z Z Z u225_dPtr <| xmv Z Z Z <| xmv Z Z Z <| xnc Z Z Z <| xfa Z Z Z f254_2 <| xld Z Z Z o4 .z Z <| xpk Z Z Z Z <| xas Z Z Z <| X.nil ?_
 refine T.ret1 Z (fun W D h => ?_)
 exact ⟨D, ⟨rfl, rfl, nv, RN, hN, h⟩, fun _ hk => hk⟩
set_option maxHeartbeats 1000000 in
theorem ct_clNew {C : Cx} {l : Wds} {v c : Int} : Cn C 203 [ptr C.m, .int .i64 v, .int .u64 c] l emp l (fun q => ClR C q (.new v c)) := by
 refine Ct.of Tryz.func203 rfl Tryz.ntmps203 (by simp) loc_emp ?_
 intro w0 D0
 refine T.seq <| tx [0] nf Z Z <| xas Z Z Z <| X.nil <| T.seq <| tx [0,1,2,3,4,5,6] (ct [5]) Z Z <| xmv Z Z Z <| xmv Z Z Z <| xmv Z Z Z <| xbd Z Z Z l252 z252 Z <| xbd Z Z Z l254 z254 Z <| xbx Z Z Z Z (fun _ => pend0) (fun b0 => ?_)
 refine xas Z Z Z <| X.nil <| T.seq <| T.seq <| tx [0,1,2,3,4,5,6,7] nf Z Z <| xmv Z Z Z <| xnc Z Z Z <| xfa Z Z Z f254_0 <| xlda Z Z Z m252 .z Z <| xmv Z Z Z <| xmv Z Z Z <| xbd Z Z Z l252 z252 Z <| xbo Z Z Z Z gd203 ne203 <| X.nil <| T.yes Z ?_
 refine tx [0,1,2,3,4,5] (ct [5]) Z Z <| xmv Z Z Z <| xmv Z Z Z <| xmf Z Z Z Z <| xnc Z Z Z <| xfa Z Z Z f254_3 <| xst Z Z Z Z o130 Z .z Z .z pend0 <| X.nil <| T.seq <| tx [0,1] nf Z Z <| xmv Z Z Z <| xas Z Z Z <| X.nil <| T.ret1 Z (fun W D h => ?_)
 exact ⟨D, ⟨_, rfl, rfl, _, _, ⟨rfl, rfl⟩, h⟩, fun _ hk => hk⟩
def Ad.cs (C : Cx) (x : Ad) (qv pv bv nv : Value) : List Value := [ptr C.m, .int .u64 x.task, qv, pv, bv, nv]
def AdNx (C : Cx) (d : Nat) (x : Ad) (qv pv bv nv : Value) (RN : Asr) : Prop := match x.next with
 | .nil => nv = .nilFunc ∧ RN = emp
 | .own => nv = fm 250 d ∧ ∃ q, qv = ptr q ∧ RN = DqR q x.push
 | .pool => nv = fm 259 d ∧ ∃ q, pv = ptr q ∧ RN = PkR C q x.put
theorem loc_AdNx {C : Cx} {d : Nat} {m : Ad} {qv pv bv : Value} (nv : Value) (RN : Asr) (h : AdNx C d m qv pv bv nv RN) : Loc RN := by
 unfold AdNx at h
 split at h
 ·obtain ⟨-, rfl⟩ := h; exact loc_emp
 ·obtain ⟨-, q, -, rfl⟩ := h; exact loc_DqR
 ·obtain ⟨-, q, -, rfl⟩ := h; exact loc_PkR
theorem Ad_is {C : Cx} {d : Nat} {m : Ad} {qv pv bv nv : Value} {RN : Asr} (h : AdNx C d m qv pv bv nv RN) : NxIs nv (decide (m.next = .nil)) := by
 unfold AdNx at h
 split at h <;> rename_i hn <;> rw [hn] <;> obtain ⟨rfl, -⟩ := h <;> first | exact .inl ⟨rfl, rfl⟩ | exact .inr ⟨_, _, _, rfl, rfl⟩
structure Ad.Ok (m : Ad) : Prop where
 task : u64R m.task
 push : m.push.Ok
 put : m.put.Ok
def AdR (C : Cx) (d : Nat) (m : Ad) : Asr := fun D w => ∃ qv : Value, ∃ pv : Value, ∃ bv : Value, Mch 262 d (m.cs C qv pv bv) (AdNx C d m qv pv bv) D w
theorem loc_AdR {C : Cx} {d : Nat} {m : Ad} : Loc (AdR C d m) := loc_ex fun _ => loc_ex fun _ => loc_ex fun _ => loc_Mch loc_AdNx
def AdRun (C : Cx) (d : Nat) (m : Ad) (l : Wds) (m' : Ad) (l' : Wds) : Prop := ∀ (qv : Value) (pv : Value) (bv : Value) nv RN, AdNx C d m qv pv bv nv RN → ∃ fid fs cs, nv = .func (.func fid) (List.toArray fs) (List.toArray cs) ∧ fnB fid = true ∧ Cv C fid (fs ++ [ptr C.s] ++ cs) l (blks [⟨d, 262, m.cs C qv pv bv nv⟩] RN) (.tuple #[]) l' (AdR C d m')
theorem f262_0 : fld 262 0 0 = true := by kernel_rfl
theorem f262_1 : fld 262 1 1 = true := by kernel_rfl
theorem f262_2 : fld 262 2 2 = true := by kernel_rfl
theorem f262_3 : fld 262 3 3 = true := by kernel_rfl
theorem f262_4 : fld 262 4 4 = true := by kernel_rfl
theorem f262_5 : fld 262 5 5 = true := by kernel_rfl
theorem g105 : fnB 105 = true := by kernel_rfl
theorem g138 : fnB 138 = true := by kernel_rfl
theorem g139 : fnB 139 = true := by kernel_rfl
theorem g190 : fnB 190 = true := by kernel_rfl
theorem g205 : fnB 205 = true := by kernel_rfl
theorem g249 : fnB 249 = true := by kernel_rfl
theorem g250 : fnB 250 = true := by kernel_rfl
theorem g259 : fnB 259 = true := by kernel_rfl
theorem l262 : layB 262 [(0, 1), (1, 1), (2, 1), (3, 1), (4, 1), (5, 1)] = true := by kernel_rfl
theorem o180 : one 180 = true := by kernel_rfl
theorem u226_dPtr : undIs 226 (dPtr) = true := by kernel_rfl
theorem z262 : zer 262 = some [.pointer none, .int .u64 0, .pointer none, .pointer none, .bool false, .nilFunc] := by kernel_rfl
theorem z90 : zer 90 = some [.int .u64 0] := by kernel_rfl
set_option maxHeartbeats 1000000 in
theorem ad_Step {C : Cx} {d : Nat} {m m' : Ad} {l l' : Wds} (hrun : AdRun C d m l m' l') : Cv C 251 [ptr d, ptr C.s] l (AdR C d m) (.bool (decide (m'.next = .nil))) l' (AdR C d m') := by
 refine Ct.of Tryz.func251 rfl Tryz.ntmps251 (by simp) loc_AdR ?_
 intro w0 D0
 refine T.ex (fun _ => loc_ex fun _ => loc_ex fun _ => loc_Mch loc_AdNx) ?_
 intro qv
 refine T.ex (fun _ => loc_ex fun _ => loc_Mch loc_AdNx) ?_
 intro pv
 refine T.ex (fun _ => loc_Mch loc_AdNx) ?_
 intro bv
 refine T.mch (H := []) loc_AdNx ?_
 intro nv RN hN hl
 obtain ⟨fid, fs, cs, rfl, hg, hc⟩ := hrun qv pv bv nv RN hN
 refine T.seq <| tx [0] nf Z Z <| xas Z Z Z <| X.nil <| T.seq <| T.seq <| tx [0,1,2,3,4,5,6,7,8] nf Z Z <| xmv Z Z Z <| xnp Z Z Z Z u226_dPtr <| xmv Z Z Z <| xmv Z Z Z <| xnc Z Z Z <| xfa Z Z Z f262_5 <| xld Z Z Z o130 .z Z <| xnf Z Z Z Z u130_dFun ?_
 refine xpk Z Z Z Z <| X.nil <| T.no Z <| T.skip <| T.seq <| tx [0,1,2,3,4,5] (ct [5]) Z Z <| xmv Z Z Z <| xnc Z Z Z <| xfa Z Z Z f262_5 <| xld Z Z Z o130 .z Z <| xmv Z Z Z <| xcf (H1 := []) (H2 := [_]) Z Z Z Z hg Z hc loc_AdR pend0 <| X.nil <| T.seq ?_
 refine T.ex (fun _ => loc_ex fun _ => loc_ex fun _ => loc_Mch loc_AdNx) ?_
 intro qv'
 refine T.ex (fun _ => loc_ex fun _ => loc_Mch loc_AdNx) ?_
 intro pv'
 refine T.ex (fun _ => loc_Mch loc_AdNx) ?_
 intro bv'
 refine T.mch loc_AdNx ?_
 intro nv' RN' hN' hl'
 refine tx [0,1,2,3,4,5] nf Z Z <| xmv Z Z Z <| xnc Z Z Z <| xfa Z Z Z f262_5 <| xld Z Z Z o130 .z Z <| xbo Z Z Z Z (nx_gd (Ad_is hN')) (nx_eq (Ad_is hN') u130_dFun) <| xas Z Z Z <| X.nil <| T.ret1 Z (fun W D h => ?_)
 exact ⟨D, ⟨rfl, rfl, qv', pv', bv', nv', RN', hN', h⟩, fun _ hk => hk⟩
set_option maxHeartbeats 1000000 in
theorem ad_Step0 {C : Cx} {d : Nat} {m : Ad} {l : Wds} (hn : m.next = .nil) : Cv C 251 [ptr d, ptr C.s] l (AdR C d m) (.bool true) l (AdR C d m) := by
 refine Ct.of Tryz.func251 rfl Tryz.ntmps251 (by simp) loc_AdR ?_
 intro w0 D0
 refine T.ex (fun _ => loc_ex fun _ => loc_ex fun _ => loc_Mch loc_AdNx) ?_
 intro qv
 refine T.ex (fun _ => loc_ex fun _ => loc_Mch loc_AdNx) ?_
 intro pv
 refine T.ex (fun _ => loc_Mch loc_AdNx) ?_
 intro bv
 refine T.mch (H := []) loc_AdNx ?_
 intro nv RN hN hl
 have hi := Ad_is hN
 rw [hn] at hi
 refine T.seq <| tx [0] nf Z Z <| xas Z Z Z <| X.nil <| T.seq <| T.seq <| tx [0,1,2,3,4,5,6,7,8] nf Z Z <| xmv Z Z Z <| xnp Z Z Z Z u226_dPtr <| xmv Z Z Z <| xmv Z Z Z <| xnc Z Z Z <| xfa Z Z Z f262_5 <| xld Z Z Z o130 .z Z ?_
 refine xbo Z Z Z Z (nx_gd hi) (nx_eq hi u130_dFun) <| xpk Z Z Z Z <| X.nil <| T.yes Z <| T.seq <| tx [0] nf Z Z <| xas Z Z Z <| X.nil <| T.ret1 Z (fun W D h => ?_)
 exact ⟨D, ⟨rfl, rfl, qv, pv, bv, nv, RN, hN, h⟩, fun _ hk => hk⟩
set_option maxHeartbeats 1000000 in
theorem ad_own {C : Cx} {d : Nat} {m : Ad} {l : Wds} (hm : m.Ok) (hr : ∀ a, u64R (ld l a)) (hn : m.next = .own) : AdRun C d m l (m.step C.M l).1 (m.step C.M l).2 := by
 obtain ⟨task, push, put, nx⟩ := m
 obtain rfl : nx = .own := hn
 rintro qv pv bv nv RN ⟨rfl, q, rfl, rfl⟩
 refine ⟨250, [ptr d], [], rfl, g250, ?_⟩
 refine Ct.of (vs := [ptr d, ptr C.s]) Tryz.func250 rfl Tryz.ntmps250 (by simp) (loc_blks loc_DqR _) ?_
 intro w0 D0
 refine T.conv (fun w h => Sy.opens (H2 := [_]) h loc_DqR) <| T.seq <| tx [0] nf Z Z <| xas Z Z Z <| X.nil <| T.seq <| T.seq <| tx [0,1,2,3,4,5,6,7] (ct [6]) Z Z <| xmv Z Z Z <| xmv Z Z Z <| xnc Z Z Z <| xfa Z Z Z f262_2 <| xld Z Z Z o179 .z Z <| xmv Z Z Z ?_
 refine xce Z Z Z Z g138 (ct_dqStep hm.push hr) loc_DqR pend0 <| xnot Z Z Z <| X.nil <| T.cond Z ?_ ?_
 ·intro hb0
  have hn : ¬ (push.step l).1.next = .nil := by simpa using hb0
  refine T.ret0 Z (fun W D h => ?_)
  rw [show (⟨task, push, put, .own⟩ : Ad).step C.M l = _ from if_neg hn]
  exact ⟨D, ⟨rfl, rfl, _, _, _, _, _, ⟨rfl, _, rfl, rfl⟩, h⟩, fun _ hk => hk⟩
 ·intro hb0
  have hn0 : (push.step l).1.next = .nil := by simpa using hb0
  refine T.skip <| T.seq <| tx [0,1,2,3] (ct [3]) Z Z <| xmv Z Z Z <| xnc Z Z Z <| xfa Z Z Z f262_5 <| xst Z Z Z Z o130 Z .z Z .z pend0 <| X.nil <| T.seq <| tx [0,1,2,3,4,5,6,7,8,9] nf Z Z <| xmv Z Z Z <| xnc Z Z Z <| xfa Z Z Z f262_2 ?_
  refine xld Z Z Z o179 .z Z <| xcq Z Z Z Z g139 (ct_Result hn0) loc_DqR <| xmv Z Z Z <| xex Z Z Z Z <| xex Z Z Z Z <| xas Z Z Z <| xas Z Z Z <| X.nil <| T.seq <| tx [0,1] nf Z Z <| xmv Z Z Z <| xcm Z Z Z Z Z Z <| X.nil <| T.cond Z ?_ ?_
  ·intro hb1
   refine T.seq <| tx [0,1,2,3] (ct [3]) Z Z <| xmv Z Z Z <| xnc Z Z Z <| xfa Z Z Z f262_4 <| xst Z Z Z Z o4 Z .z Z .z pend0 <| X.nil <| T.seq ?_
   refine T.any (ord := [0, 1, 2, 3, 4, 5, 6, 7, 8, 9, 10, 11, 12, 13]) (lo := (fun i => [0, 1, 2, 3, 4].contains i)) (ef := (fun i => [9, 10, 13].contains i)) (by kernel_rfl) (fun _ h => h.drew) <| xmv Z Z Z <| xmv Z Z Z <| xnc Z Z Z <| xfa Z Z Z f262_0 ?_
   refine xld Z Z Z o39 .z Z <| xmv Z Z Z <| xnc Z Z Z <| xfa Z Z Z f262_1 <| xld Z Z Z o90 .z Z <| xbs Z Z Z s43 z90 (by decide) Z Z Z (fun _ => (pxld Z Z o39 (.s .z) Z (pxfa Z Z f262_0 (pxnc Z Z (pendmv Z Z (pendmv Z Z pend0)))))) (fun b0 => ?_)
   refine xcng (is := [1, 0]) (H1 := [_]) (H2 := [_]) (by decide) Z Z Z Z g205 Z (ct_pkPut (ts := [task]) (rest := []) (by simp) (by simp) (by simp)) (fun _ => loc_blks loc_PkR _) (fun _ => (pendsk (by kernel_rfl) (pendsk (by kernel_rfl) (pendsk (by kernel_rfl) (pendsk (by kernel_rfl) (pendmv Z Z pend0)))))) (fun q1 => ?_)
   refine xnc Z Z Z <| xfa Z Z Z f262_3 <| xst Z Z Z Z o180 Z .z Z .z (pendsk (by kernel_rfl) (pendsk (by kernel_rfl) (pendsk (by kernel_rfl) (pendsk (by kernel_rfl) (pendsk (by kernel_rfl) pend0))))) <| X.nil <| tx [0,1,2,3,4,5] (ct [5]) Z Z ?_
   refine xmv Z Z Z <| xmv Z Z Z <| xmf Z Z Z Z <| xnc Z Z Z <| xfa Z Z Z f262_5 <| xst Z Z Z Z o130 Z .z Z .z pend0 <| X.nil <| T.end0 Z (fun W D h => ?_)
   rw [show (⟨task, push, put, .own⟩ : Ad).step C.M l = _ from (if_pos hn0).trans (if_pos (of_decide_eq_true hb1))]
   obtain ⟨D1, h1, h2⟩ := blks_pick (H := [_, _]) [0] (by decide) h
   exact ⟨D1, ⟨rfl, rfl, _, _, _, _, _, ⟨rfl, _, rfl, rfl⟩, h1⟩, h2⟩
  ·intro hb1
   refine T.skip <| T.end0 Z (fun W D h => ?_)
   rw [show (⟨task, push, put, .own⟩ : Ad).step C.M l = _ from (if_pos hn0).trans (if_neg (of_decide_eq_false hb1))]
   obtain ⟨D1, h1, h2⟩ := blks_drop h
   exact ⟨D1, ⟨rfl, rfl, _, _, _, _, _, ⟨rfl, rfl⟩, h1⟩, h2⟩
set_option maxHeartbeats 1000000 in
theorem ad_pool {C : Cx} {d : Nat} {m : Ad} {l : Wds} (hm : m.Ok) (hr : ∀ a, u64R (ld l a)) (hn : m.next = .pool) : AdRun C d m l (m.step C.M l).1 (m.step C.M l).2 := by
 obtain ⟨task, push, put, nx⟩ := m
 obtain rfl : nx = .pool := hn
 rintro qv pv bv nv RN ⟨rfl, q, rfl, rfl⟩
 refine ⟨259, [ptr d], [], rfl, g259, ?_⟩
 refine Ct.of (vs := [ptr d, ptr C.s]) Tryz.func259 rfl Tryz.ntmps259 (by simp) (loc_blks loc_PkR _) ?_
 intro w0 D0
 refine T.conv (fun w h => Sy.opens (H2 := [_]) h loc_PkR) <| T.seq <| tx [0,1,2,3,4,5] (ct [5]) Z Z <| xmv Z Z Z <| xnc Z Z Z <| xfa Z Z Z f262_3 <| xld Z Z Z o180 .z Z <| xmv Z Z Z <| xce Z Z Z Z g190 (ct_pkStep hm.put hr) loc_PkR pend0 <| X.nil ?_
 refine T.cond Z ?_ ?_
 ·intro hb0
  refine tx [0,1,2,3] (ct [3]) Z Z <| xmv Z Z Z <| xnc Z Z Z <| xfa Z Z Z f262_5 <| xst Z Z Z Z o130 Z .z Z .z pend0 <| X.nil <| T.end0 Z (fun W D h => ?_)
  rw [show (⟨task, push, put, .pool⟩ : Ad).step C.M l = _ from if_pos (of_decide_eq_true hb0)]
  obtain ⟨D1, h1, h2⟩ := blks_drop h
  exact ⟨D1, ⟨rfl, rfl, _, _, _, _, _, ⟨rfl, rfl⟩, h1⟩, h2⟩
 ·intro hb0
  refine T.skip <| T.end0 Z (fun W D h => ?_)
  rw [show (⟨task, push, put, .pool⟩ : Ad).step C.M l = _ from if_neg (of_decide_eq_false hb0)]
  exact ⟨D, ⟨rfl, rfl, _, _, _, _, _, ⟨rfl, _, rfl, rfl⟩, h⟩, fun _ hk => hk⟩
theorem ad_run {C : Cx} {d : Nat} {m : Ad} {l : Wds} (hm : m.Ok) (hr : ∀ a, u64R (ld l a)) (hn : m.next ≠ .nil) : AdRun C d m l (m.step C.M l).1 (m.step C.M l).2 := by
 cases h : m.next with
 | nil => exact (hn h).elim
 | own => exact ad_own hm hr h
 | pool => exact ad_pool hm hr h
theorem ct_adStep {C : Cx} {d : Nat} {m : Ad} {l : Wds} (hm : m.Ok) (hr : ∀ a, u64R (ld l a)) : Cv C 251 [ptr d, ptr C.s] l (AdR C d m) (.bool (decide ((m.step C.M l).1.next = .nil))) (m.step C.M l).2 (AdR C d (m.step C.M l).1) := by
 by_cases hn : m.next = .nil
 ·have e : m.step C.M l = (m, l) := by unfold Ad.step; rw [hn]
  rw [e]
  simp only [hn, decide_true]
  exact ad_Step0 hn
 ·exact ad_Step (ad_run hm hr hn)
theorem Pk.put_ok {ts : List Int} (h : ∀ t ∈ ts, u64R t) (hl : ts.length ≤ 1000) : (Pk.put ts).Ok := by
 have z : u32R 0 := by unfold u32R; omega
 have z6 : u64R 0 := by unfold u64R; omega
 unfold Pk.put
 split
 ·exact ⟨⟨z, z6, z⟩, by simp, by simp, (fun h => nomatch h), z, (fun h => nomatch h)⟩
 ·rename_i hn
  exact ⟨⟨z, z6, z⟩, h, hl, (fun h => nomatch h), z, fun _ => ⟨hn, rfl⟩⟩
theorem Pk.take_ok : Pk.take.Ok := by
 have z : u32R 0 := by unfold u32R; omega
 have z6 : u64R 0 := by unfold u64R; omega
 exact ⟨⟨z, z6, z⟩, by simp [Pk.take], by simp [Pk.take], (fun h => nomatch h), z, (fun h => nomatch h)⟩
theorem Pk.back_ok {M : MapM} {p : Int} (hp : u32R p) : (Pk.back M p).Ok := by
 have z : u32R 0 := by unfold u32R; omega
 have z6 : u64R 0 := by unfold u64R; omega
 unfold Pk.back
 split
 ·exact ⟨⟨hp, z6, z⟩, by simp, by simp, (fun h => nomatch h), z, (fun h => nomatch h)⟩
 ·exact ⟨⟨z, z6, z⟩, by simp, by simp, (fun h => nomatch h), z, (fun h => nomatch h)⟩
theorem Ad.step_ok {M : MapM} {m : Ad} {l : Wds} (hm : m.Ok) (hr : ∀ a, u64R (ld l a)) : (m.step M l).1.Ok := by
 have h1 := Dq.step_ok hm.push hr
 have h2 := Pk.step_ok (M := M) hm.put hr
 have h3 : (Pk.put [m.task]).Ok := Pk.put_ok (by simpa using hm.task) (by simp)
 unfold Ad.step
 split <;> (try split) <;> (try split) <;> first | exact hm | exact ⟨hm.task, h1, h3⟩ | exact ⟨hm.task, h1, hm.put⟩ | exact ⟨hm.task, hm.push, h2⟩
theorem Ad.step_rng {M : MapM} {m : Ad} {l : Wds} (hm : m.Ok) (hr : Rng l) : Rng (m.step M l).2 := by
 have h1 : Rng (m.push.step l).2 := Dq.step_rng hm.push hr
 have h2 := Pk.step_rng (M := M) hm.put hr
 unfold Ad.step
 split <;> (try split) <;> (try split) <;> first | exact hr | exact h1 | exact h2
set_option maxHeartbeats 1000000 in
theorem ct_adNew {C : Cx} {l : Wds} {i t : Int} (hi : C.M.Top i ≥ 0) : Cn C 238 [ptr C.m, .int .i64 i, .int .u64 t] l emp l (fun q => AdR C q (.new C.M i t)) := by
 refine Ct.of Tryz.func238 rfl Tryz.ntmps238 (by simp) loc_emp ?_
 intro w0 D0
 refine T.seq <| tx [0] nf Z Z <| xas Z Z Z <| X.nil <| T.seq <| tx [0,1,2,3,4] (ct [3]) Z Z <| xmv Z Z Z <| xmv Z Z Z <| xbd Z Z Z l262 z262 Z <| xbx Z Z Z Z (fun _ => pend0) (fun b0 => ?_)
 refine xas Z Z Z <| X.nil <| T.seq <| T.seq <| tx [0,1,2,3] nf Z Z <| xmv Z Z Z <| xmv Z Z Z <| xcq Z Z Z Z g57 (ct_Top loc_emp) loc_emp <| xcm (c := true) Z Z Z Z Z (decide_eq_true hi) <| X.nil <| T.yes Z <| T.seq <| tx [0,1,2,3,4,5,6,7,8] (ct [5,8]) Z Z ?_
 refine xmv Z Z Z <| xmv Z Z Z <| xmv Z Z Z <| xcq Z Z Z Z g105 (ct_Ends) loc_emp <| xmv Z Z Z <| xcn Z Z Z Z g249 (ct_push (e := C.M.ends i)) (fun _ => loc_DqR) (fun _ => pend0) (fun q1 => ?_)
 refine xnc Z Z Z <| xfa Z Z Z f262_2 <| xst Z Z Z Z o179 Z .z Z .z pend0 <| X.nil <| tx [0,1,2,3,4,5] (ct [5]) Z Z <| xmv Z Z Z <| xmv Z Z Z <| xmf Z Z Z Z <| xnc Z Z Z <| xfa Z Z Z f262_5 <| xst Z Z Z Z o130 Z .z Z .z pend0 <| X.nil <| T.seq ?_
 refine tx [0,1] nf Z Z <| xmv Z Z Z <| xas Z Z Z <| X.nil <| T.ret1 Z (fun W D h => ?_)
 exact ⟨D, ⟨_, rfl, rfl, _, _, _, _, _, ⟨rfl, _, rfl, rfl⟩, h⟩, fun _ hk => hk⟩
def Ev.cells (e : Ev) : List Value := [.int .i64 e.kind, .int .i64 e.who, .int .i64 e.a, .int .i64 e.b, .int .i64 e.c]
theorem int3 (z : Int) : z = 0 ∨ (∃ n, z = Int.ofNat (n + 1)) ∨ ∃ n, z = Int.negSucc n := by
 cases z with
 | ofNat n => cases n with
  | zero => exact .inl rfl
  | succ n => exact .inr (.inl ⟨n, rfl⟩)
 | negSucc n => exact .inr (.inr ⟨n, rfl⟩)
theorem ne33 {x : Ev} (h : x ≠ ev0) (w : World) : (binOp .neq 33 (.agg x.cells.toArray) (.agg ev0.cells.toArray)).run Tryz.prog w = .ok (.bool true) w := by
 obtain ⟨a, b, c, d, e⟩ := x
 rcases int3 a with rfl | ⟨n, rfl⟩ | ⟨n, rfl⟩
 ·rcases int3 b with rfl | ⟨n, rfl⟩ | ⟨n, rfl⟩
  ·rcases int3 c with rfl | ⟨n, rfl⟩ | ⟨n, rfl⟩
   ·rcases int3 d with rfl | ⟨n, rfl⟩ | ⟨n, rfl⟩
    ·rcases int3 e with rfl | ⟨n, rfl⟩ | ⟨n, rfl⟩
     ·exact (h rfl).elim
     ·kernel_rfl
     ·kernel_rfl
    ·kernel_rfl
    ·kernel_rfl
   ·kernel_rfl
   ·kernel_rfl
  ·kernel_rfl
  ·kernel_rfl
 ·kernel_rfl
 ·kernel_rfl
theorem eq33 {x : Ev} (h : x = ev0) (w : World) : (binOp .neq 33 (.agg x.cells.toArray) (.agg ev0.cells.toArray)).run Tryz.prog w = .ok (.bool false) w := by
 subst h
 kernel_rfl
theorem gd33 {x y : Operand} {u v : Array Value} (w : World) : (eqGuard .neq 33 x y (.agg u) (.agg v)).run Tryz.prog w = .ok () w := by kernel_rfl
theorem top_ge {M : MapM} (hM : M.Ok) {i : Int} (h : 0 ≤ i ∧ i < M.markers) : M.Top i ≥ 0 := by
 have h1 := hM.deques
 have h2 := hM.deque
 unfold MapM.Top MapM.end_
 rw [if_neg (by omega)]
 have : 0 ≤ i * (2 + M.deque) := Int.mul_nonneg h.1 (by omega)
 omega
theorem a22 : arrB 22 3 5 = true := by kernel_rfl
theorem f107_5 : fld 107 5 5 = true := by kernel_rfl
theorem f109_0 : fld 109 0 0 = true := by kernel_rfl
theorem f24_0 : fld 24 0 0 = true := by kernel_rfl
theorem f24_7 : fld 24 7 11 = true := by kernel_rfl
theorem g145 : fnB 145 = true := by kernel_rfl
theorem g218 : fnB 218 = true := by kernel_rfl
theorem g49 : fnB 49 = true := by kernel_rfl
theorem g51 : fnB 51 = true := by kernel_rfl
theorem g55 : fnB 55 = true := by kernel_rfl
theorem g67 : fnB 67 = true := by kernel_rfl
theorem l224 : layB 224 [(0, 1), (1, 1)] = true := by kernel_rfl
theorem m22 : many 22 5 = true := by kernel_rfl
theorem m224 : many 224 2 = true := by kernel_rfl
theorem z224 : zer 224 = some [.int .i64 0, .int .i64 0] := by kernel_rfl
theorem ct_bound0 {C : Cx} {l : Wds} {a b c : Int} : Cv C 218 [.int .i64 a, .int .i64 b, .int .i64 c] l emp (.int .i64 (bound a b c)) l emp := by
 refine Ct.of Tryz.func218 rfl Tryz.ntmps218 (by simp) loc_emp ?_
 intro w0 D0
 refine T.seq <| tx [0] nf Z Z <| xas Z Z Z <| X.nil <| T.seq <| tx [0,1,2,3,4,5] nf Z Z <| xmv Z Z Z <| xmv Z Z Z <| xmax Z Z Z <| xmv Z Z Z <| xmin Z Z Z <| xas Z Z Z <| X.nil <| T.ret1 Z (fun W D h => ?_)
 exact ⟨D, ⟨rfl, rfl, h⟩, fun _ hk => hk⟩
theorem ct_rangesNext0 {C : Cx} {l : Wds} {s f ch : Int} : Cv C 198 [.int .i64 s, .int .i64 f, .int .i64 ch] l emp (.tuple #[.agg #[.int .i64 (pieceA s f), .int .i64 (pieceB s f ch)], .bool (decide (pieceB s f ch < bound 0 s 1000))]) l emp := by
 have hA : -9223372036854775808 ≤ pieceA s f + bound 1 ch 1000 ∧ pieceA s f + bound 1 ch 1000 ≤ 9223372036854775807 := by
  unfold pieceA bound
  omega
 refine Ct.of Tryz.func198 rfl Tryz.ntmps198 (by simp) loc_emp ?_
 intro w0 D0
 refine T.seq <| tx [0,1] (ct [0]) Z Z <| xal Z Z z224 (fun _ => pend0) (fun b0 => ?_)
 refine xas Z Z Z <| X.nil <| T.seq <| tx [0,1,2] nf Z Z <| xmv Z Z Z <| xcq Z Z Z Z g218 (ct_bound0) loc_emp <| xas Z Z Z <| X.nil <| T.seq <| tx [0,1,2,3] nf Z Z <| xmv Z Z Z <| xmv Z Z Z <| xcq Z Z Z Z g218 (ct_bound0) loc_emp <| xas Z Z Z <| X.nil ?_
 refine T.seq <| tx [0,1,2,3,4,5,6] nf Z Z <| xmv Z Z Z <| xmv Z Z Z <| xcq Z Z Z Z g218 (ct_bound0) loc_emp <| xarc (c := pieceA s f + bound 1 ch 1000) Z Z Z Z Z (wrap64i hA) <| xmv Z Z Z <| xcq Z Z Z Z g218 (ct_bound0) loc_emp <| xas Z Z Z <| X.nil ?_
 refine T.seq <| tx [0,1,2,3,4,5,6,7] (ct [6]) Z Z <| xmv Z Z Z <| xmv Z Z Z <| xbd Z Z Z l224 z224 Z <| xmv Z Z Z <| xmv Z Z Z <| xcm Z Z Z Z Z Z <| xsta Z Z Z Z m224 Z Z .z (Nat.le_of_ble_eq_true Z) .z pend0 <| xas Z Z Z <| X.nil ?_
 refine T.retc2 Z Z m224 .z Z (fun W D h => ?_)
 obtain ⟨D1, h1, h2⟩ := blks_tail h
 exact ⟨D1, ⟨rfl, rfl, h1⟩, h2⟩
theorem ct_node {C : Cx} {l : Wds} {R : Asr} {v j : Int} (hj : 0 ≤ j ∧ j ≤ 100) : Cv C 67 [ptr C.m, .int .i64 v, .int .i64 j] l R (.int .i64 (C.M.node v j)) l R := Cv.get fun w h => node_calls w C h v j hj
theorem room_rng {M : MapM} (hM : M.Ok) (v : Int) : 0 ≤ M.Room v ∧ M.Room v ≤ 16 := by
 unfold MapM.Room
 split
 ·omega
 ·have h := hM.rooms (v - 1).toNat (by have := hM.nodes; omega)
  omega
theorem ct_Slot0 {C : Cx} {l : Wds} {v j : Int} (hM : C.M.Ok) : Cv C 183 [ptr C.m, .int .i64 v, .int .i64 j] l emp (.int .i64 (C.M.Slot v j)) l emp := by
 refine Ct.of Tryz.func183 rfl Tryz.ntmps183 (by simp) loc_emp ?_
 intro w0 D0
 refine T.seq <| tx [0] nf Z Z <| xas Z Z Z <| X.nil <| T.seq <| T.seq ?_
 by_cases hq : j < 0
 ·skip
  refine tx [0,1,2,3,4,5,6,7,8] nf Z Z <| xmv Z Z Z <| xcm (c := true) Z Z Z Z Z (decide_eq_true hq) <| xmv Z Z Z <| x_skip Z Z Z <| x_skip Z Z Z <| x_skip Z Z Z <| x_skip Z Z Z <| x_skip Z Z Z <| xpk Z Z Z Z <| X.nil <| T.yes Z <| T.seq <| tx [0] nf Z Z ?_
  refine xas Z Z Z <| X.nil <| T.ret1 Z (fun W D h => ?_)
  rw [show C.M.Slot v j = _ from if_pos (.inl hq)]
  exact ⟨D, ⟨rfl, rfl, h⟩, fun _ hk => hk⟩
 ·skip
  refine tx [0,1,2,3,4,5,6,7,8] nf Z Z <| xmv Z Z Z <| xcm (c := false) Z Z Z Z Z (decide_eq_false hq) <| xmv Z Z Z <| xmv Z Z Z <| xmv Z Z Z <| xmv Z Z Z <| xcq Z Z Z Z g55 (ct_Room) loc_emp <| xcm Z Z Z Z Z Z <| xpk Z Z Z Z <| X.nil <| T.cond Z ?_ ?_
  ·intro hb1
   have hq2 : j ≥ C.M.Room v := of_decide_eq_true hb1
   refine T.seq <| tx [0] nf Z Z <| xas Z Z Z <| X.nil <| T.ret1 Z (fun W D h => ?_)
   rw [show C.M.Slot v j = _ from if_pos (.inr hq2)]
   exact ⟨D, ⟨rfl, rfl, h⟩, fun _ hk => hk⟩
  ·intro hb1
   have hq2 : ¬ j ≥ C.M.Room v := of_decide_eq_false hb1
   have hj : 0 ≤ 4 + j ∧ 4 + j ≤ 100 := by have := room_rng hM v; omega
   refine T.skip <| T.seq <| tx [0,1,2,3,4,5] nf Z Z <| xmv Z Z Z <| xmv Z Z Z <| xmv Z Z Z <| xarc (c := 4 + j) Z Z Z Z Z (wrap64i (by simp only [ari]; have := room_rng hM v; omega)) <| xcq Z Z Z Z g67 (ct_node hj) loc_emp <| xas Z Z Z <| X.nil ?_
   refine T.ret1 Z (fun W D h => ?_)
   rw [show C.M.Slot v j = _ from if_neg (fun h => h.elim hq hq2)]
   exact ⟨D, ⟨rfl, rfl, h⟩, fun _ hk => hk⟩
theorem ct_Slot {C : Cx} {l : Wds} {R : Asr} (hl : Loc R) {v j : Int} (hM : C.M.Ok) : Cv C 183 [ptr C.m, .int .i64 v, .int .i64 j] l R (.int .i64 (C.M.Slot v j)) l R := Cv.frame hl (ct_Slot0 hM)
theorem ct_ConfigR {C : Cx} {l : Wds} {R : Asr} (hl : Loc R) : Cv C 115 [ptr C.m] l R (.agg C.M.cfg.toArray) l R := Cv.frame hl ct_Config
theorem ct_rangesNext {C : Cx} {l : Wds} {R : Asr} (hl : Loc R) {s f ch : Int} : Cv C 198 [.int .i64 s, .int .i64 f, .int .i64 ch] l R (.tuple #[.agg #[.int .i64 (pieceA s f), .int .i64 (pieceB s f ch)], .bool (decide (pieceB s f ch < bound 0 s 1000))]) l R := Cv.frame hl ct_rangesNext0
theorem part_in {M : MapM} (hM : M.Ok) {j : Int} (h0 : 0 ≤ j) (h1 : j < M.parts) : (-9223372036854775808 ≤ j * M.sweep ∧ j * M.sweep ≤ 9223372036854775807) ∧ (-9223372036854775808 ≤ j * M.sweep + 1 ∧ j * M.sweep + 1 ≤ 9223372036854775807) ∧ (-9223372036854775808 ≤ j + 1 ∧ j + 1 ≤ 9223372036854775807) ∧ -9223372036854775808 ≤ (j + 1) * M.sweep ∧ (j + 1) * M.sweep ≤ 9223372036854775807 := by
 have h2 := hM.parts
 have h3 := hM.sweep
 have h4 : 0 ≤ j * M.sweep := Int.mul_nonneg h0 (by omega)
 have h5 : j * M.sweep ≤ 100000 * 16 := Int.mul_le_mul (by omega) h3.2 (by omega) (by omega)
 have h6 : (j + 1) * M.sweep = j * M.sweep + M.sweep := by rw [Int.add_mul]; omega
 omega
set_option maxHeartbeats 1000000 in
theorem ct_Part0 {C : Cx} {l : Wds} {j : Int} (hM : C.M.Ok) : Cv C 176 [ptr C.m, .int .i64 j] l emp (.tuple #[.int .i64 (C.M.PartA j), .int .i64 (C.M.PartB j)]) l emp := by
 refine Ct.of Tryz.func176 rfl Tryz.ntmps176 (by simp) loc_emp ?_
 intro w0 D0
 refine T.seq <| tx [0,1] nf Z Z <| xas Z Z Z <| xas Z Z Z <| X.nil <| T.seq <| T.seq ?_
 by_cases hq : j < 0
 ·skip
  refine tx [0,1,2,3,4,5,6,7] nf Z Z <| xmv Z Z Z <| xcm (c := true) Z Z Z Z Z (decide_eq_true hq) <| xmv Z Z Z <| x_skip Z Z Z <| x_skip Z Z Z <| x_skip Z Z Z <| x_skip Z Z Z <| xpk Z Z Z Z <| X.nil <| T.yes Z <| T.seq <| tx [0,1] nf Z Z <| xas Z Z Z ?_
  refine xas Z Z Z <| X.nil <| T.ret2 Z (fun W D h => ?_)
  rw [show C.M.PartA j = _ from if_pos (.inl hq), show C.M.PartB j = _ from if_pos (.inl hq)]
  exact ⟨D, ⟨rfl, rfl, h⟩, fun _ hk => hk⟩
 ·skip
  refine tx [0,1,2,3,4,5,6,7] nf Z Z <| xmv Z Z Z <| xcm (c := false) Z Z Z Z Z (decide_eq_false hq) <| xmv Z Z Z <| xmv Z Z Z <| xmv Z Z Z <| xcq Z Z Z Z g145 (ct_Parts) loc_emp <| xcm Z Z Z Z Z Z <| xpk Z Z Z Z <| X.nil <| T.cond Z ?_ ?_
  ·intro hb1
   have hq2 : j ≥ C.M.parts := of_decide_eq_true hb1
   refine T.seq <| tx [0,1] nf Z Z <| xas Z Z Z <| xas Z Z Z <| X.nil <| T.ret2 Z (fun W D h => ?_)
   rw [show C.M.PartA j = _ from if_pos (.inr hq2), show C.M.PartB j = _ from if_pos (.inr hq2)]
   exact ⟨D, ⟨rfl, rfl, h⟩, fun _ hk => hk⟩
  ·intro hb1
   have hq2 : ¬ j ≥ C.M.parts := of_decide_eq_false hb1
   have hj := part_in hM (by omega : 0 ≤ j) (by omega : j < C.M.parts)
   refine T.skip <| T.seq <| T.any (ord := [0, 1, 2, 3, 4, 5, 6, 7, 8, 9, 10, 11, 12, 13, 14, 15, 16, 17, 18, 19, 20, 21, 22, 23]) (lo := (fun _ => false)) (ef := (fun _ => false)) (by kernel_rfl) (fun _ h => h.drew) <| xmv Z Z Z <| xmv Z Z Z ?_
   refine xnc Z Z Z <| xfa Z Z Z f109_1 <| xfa Z Z Z f24_7 <| xldm Z Z Z o3 Z <| xarc (c := j * C.M.sweep) Z Z Z Z Z (wrap64i hj.1) <| xarc (c := j * C.M.sweep + 1) Z Z Z Z Z (wrap64i hj.2.1) <| xmv Z Z Z <| xarc (c := j + 1) Z Z Z Z Z (wrap64i hj.2.2.1) ?_
   refine xmv Z Z Z <| xnc Z Z Z <| xfa Z Z Z f109_1 <| xfa Z Z Z f24_7 <| xldm Z Z Z o3 Z <| xarc (c := (j + 1) * C.M.sweep) Z Z Z Z Z (wrap64i hj.2.2.2) <| xmv Z Z Z <| xnc Z Z Z <| xfa Z Z Z f109_0 <| xfa Z Z Z f107_5 <| xldm Z Z Z o3 Z <| xmin Z Z Z ?_
   refine xas Z Z Z <| xas Z Z Z <| X.nil <| T.ret2 Z (fun W D h => ?_)
   rw [show C.M.PartA j = _ from if_neg (fun h => h.elim hq hq2), show C.M.PartB j = _ from if_neg (fun h => h.elim hq hq2)]
   exact ⟨D, ⟨rfl, rfl, h⟩, fun _ hk => hk⟩
theorem ct_Part {C : Cx} {l : Wds} {R : Asr} (hl : Loc R) {j : Int} (hM : C.M.Ok) : Cv C 176 [ptr C.m, .int .i64 j] l R (.tuple #[.int .i64 (C.M.PartA j), .int .i64 (C.M.PartB j)]) l R := Cv.frame hl (ct_Part0 hM)
theorem ct_sbound0 {C : Cx} {l : Wds} {k : Int} : Cv C 49 [.int .i64 k] l emp (.int .i64 (min (max k 0) 12)) l emp := by
 refine Ct.of Tryz.func49 rfl Tryz.ntmps49 (by simp) loc_emp ?_
 intro w0 D0
 refine T.seq <| tx [0] nf Z Z <| xas Z Z Z <| X.nil <| T.seq <| tx [0,1,2,3] nf Z Z <| xmv Z Z Z <| xmax Z Z Z <| xmin Z Z Z <| xas Z Z Z <| X.nil <| T.ret1 Z (fun W D h => ?_)
 exact ⟨D, ⟨rfl, rfl, h⟩, fun _ hk => hk⟩
theorem ct_sbound {C : Cx} {l : Wds} {k : Int} (h : 0 ≤ k ∧ k ≤ 12) : Cv C 49 [.int .i64 k] l emp (.int .i64 k) l emp := by
 have := ct_sbound0 (C := C) (l := l) (k := k)
 rwa [show min (max k 0) 12 = k by omega] at this
set_option maxHeartbeats 1000000 in
theorem ct_sClass {C : Cx} {l : Wds} {v : Int} (hM : C.M.Ok) (hv : v ≤ 9223372036854775807) : Cv C 51 [.agg #[.int .i64 C.M.k0, .int .i64 C.M.k1, .int .i64 C.M.k2, .int .i64 C.M.k3, .int .i64 C.M.k4], .int .i64 v] l emp (.int .i64 (C.M.Class v)) l emp := by
 refine Ct.of Tryz.func51 rfl Tryz.ntmps51 (by simp) loc_emp ?_
 intro w0 D0
 refine T.seq <| tx [0,1] (ct [0]) Z Z <| xbx Z Z Z Z (fun _ => pend0) (fun b0 => ?_)
 refine xas Z Z Z <| X.nil <| T.seq <| T.seq <| tx [0,1] nf Z Z <| xmv Z Z Z <| xcm Z Z Z Z Z Z <| X.nil <| T.cond Z ?_ ?_
 ·intro hb0
  refine T.seq <| tx [0] nf Z Z <| xas Z Z Z <| X.nil <| T.ret1 Z (fun W D h => ?_)
  rw [show C.M.Class v = _ from if_pos (of_decide_eq_true hb0)]
  obtain ⟨D1, h1, h2⟩ := blks_tail h
  exact ⟨D1, ⟨rfl, rfl, h1⟩, h2⟩
 ·intro hb0
  have c0 : ¬ v < 1 := of_decide_eq_false hb0
  have hk := hM.kk
  refine T.skip <| T.seq <| T.seq <| tx [0,1] nf Z Z <| xlda Z Z Z m22 .z Z <| xmv Z Z Z <| X.nil <| T.block <| T.unroll 20 <| T.seq <| tx [0] nf Z Z <| xcm (c := true) Z Z Z Z Z (by decide) <| X.nil <| T.seq <| T.yes Z <| T.skip <| T.seq <| T.block ?_
  refine T.seq <| tx [0,1,2,3] nf Z Z <| xmv Z Z Z <| xid Z Z Z Z a22 o3 (by decide) Z <| xas Z Z Z <| xas Z Z Z <| X.nil <| T.seq <| T.seq <| tx [0,1,2,3] nf Z Z <| xmv Z Z Z <| xmv Z Z Z <| xcq Z Z Z Z g49 (Cv.frame loc_emp (ct_sbound hM.kk.1)) loc_emp ?_
  refine xcm Z Z Z Z Z Z <| X.nil <| T.cond Z ?_ ?_
  ·intro hb1
   have c1 : v ≤ C.M.k0 := of_decide_eq_true hb1
   refine T.seq <| tx [0,1] nf Z Z <| xmv Z Z Z <| xas Z Z Z <| X.nil <| T.rets ?_
   refine TE.blk_ret ?_
   refine TE.un_ret ?_
   refine TE.blk_ret ?_
   refine TE.ret1 rfl (fun W D h => ?_)
   rw [show C.M.Class v = _ from ((if_neg c0).trans (if_pos c1))]
   obtain ⟨D1, h1, h2⟩ := blks_tail h
   exact ⟨D1, ⟨rfl, rfl, h1⟩, h2⟩
  ·intro hb1
   have c1 : ¬ v ≤ C.M.k0 := of_decide_eq_false hb1
   refine T.skip <| tx [0,1,2,3,4] nf Z Z <| xmv Z Z Z <| xmv Z Z Z <| xcq Z Z Z Z g49 (Cv.frame loc_emp (ct_sbound hM.kk.1)) loc_emp <| xarc (c := v - C.M.k0) Z Z Z Z Z (wrap64i (by simp only [ari]; omega)) <| xas Z Z Z <| X.nil <| T.blk_end ?_
   refine tx [0,1] nf Z Z <| xarc (c := 1) Z Z Z Z Z (by decide) <| xmv Z Z Z <| X.nil <| T.un_end <| T.seq <| tx [0] nf Z Z <| xcm (c := true) Z Z Z Z Z (by decide) <| X.nil <| T.seq <| T.yes Z <| T.skip <| T.seq <| T.block <| T.seq ?_
   refine tx [0,1,2,3] nf Z Z <| xmv Z Z Z <| xid Z Z Z Z a22 o3 (by decide) Z <| xas Z Z Z <| xas Z Z Z <| X.nil <| T.seq <| T.seq <| tx [0,1,2,3] nf Z Z <| xmv Z Z Z <| xmv Z Z Z <| xcq Z Z Z Z g49 (Cv.frame loc_emp (ct_sbound hM.kk.2.1)) loc_emp ?_
   refine xcm Z Z Z Z Z Z <| X.nil <| T.cond Z ?_ ?_
   ·intro hb2
    have c2 : v - C.M.k0 ≤ C.M.k1 := of_decide_eq_true hb2
    refine T.seq <| tx [0,1] nf Z Z <| xmv Z Z Z <| xas Z Z Z <| X.nil <| T.rets ?_
    refine TE.blk_ret ?_
    refine TE.un_ret ?_
    refine TE.blk_ret ?_
    refine TE.ret1 rfl (fun W D h => ?_)
    rw [show C.M.Class v = _ from ((if_neg c0).trans ((if_neg c1).trans (if_pos c2)))]
    obtain ⟨D1, h1, h2⟩ := blks_tail h
    exact ⟨D1, ⟨rfl, rfl, h1⟩, h2⟩
   ·intro hb2
    have c2 : ¬ v - C.M.k0 ≤ C.M.k1 := of_decide_eq_false hb2
    refine T.skip <| tx [0,1,2,3,4] nf Z Z <| xmv Z Z Z <| xmv Z Z Z <| xcq Z Z Z Z g49 (Cv.frame loc_emp (ct_sbound hM.kk.2.1)) loc_emp <| xarc (c := v - C.M.k0 - C.M.k1) Z Z Z Z Z (wrap64i (by simp only [ari]; omega)) <| xas Z Z Z <| X.nil ?_
    refine T.blk_end <| tx [0,1] nf Z Z <| xarc (c := 2) Z Z Z Z Z (by decide) <| xmv Z Z Z <| X.nil <| T.un_end <| T.seq <| tx [0] nf Z Z <| xcm (c := true) Z Z Z Z Z (by decide) <| X.nil <| T.seq <| T.yes Z <| T.skip <| T.seq <| T.block <| T.seq ?_
    refine tx [0,1,2,3] nf Z Z <| xmv Z Z Z <| xid Z Z Z Z a22 o3 (by decide) Z <| xas Z Z Z <| xas Z Z Z <| X.nil <| T.seq <| T.seq <| tx [0,1,2,3] nf Z Z <| xmv Z Z Z <| xmv Z Z Z <| xcq Z Z Z Z g49 (Cv.frame loc_emp (ct_sbound hM.kk.2.2.1)) loc_emp ?_
    refine xcm Z Z Z Z Z Z <| X.nil <| T.cond Z ?_ ?_
    ·intro hb3
     have c3 : v - C.M.k0 - C.M.k1 ≤ C.M.k2 := of_decide_eq_true hb3
     refine T.seq <| tx [0,1] nf Z Z <| xmv Z Z Z <| xas Z Z Z <| X.nil <| T.rets ?_
     refine TE.blk_ret ?_
     refine TE.un_ret ?_
     refine TE.blk_ret ?_
     refine TE.ret1 rfl (fun W D h => ?_)
     rw [show C.M.Class v = _ from ((if_neg c0).trans ((if_neg c1).trans ((if_neg c2).trans (if_pos c3))))]
     obtain ⟨D1, h1, h2⟩ := blks_tail h
     exact ⟨D1, ⟨rfl, rfl, h1⟩, h2⟩
    ·intro hb3
     have c3 : ¬ v - C.M.k0 - C.M.k1 ≤ C.M.k2 := of_decide_eq_false hb3
     refine T.skip <| tx [0,1,2,3,4] nf Z Z <| xmv Z Z Z <| xmv Z Z Z <| xcq Z Z Z Z g49 (Cv.frame loc_emp (ct_sbound hM.kk.2.2.1)) loc_emp <| xarc (c := v - C.M.k0 - C.M.k1 - C.M.k2) Z Z Z Z Z (wrap64i (by simp only [ari]; omega)) <| xas Z Z Z ?_
     refine X.nil <| T.blk_end <| tx [0,1] nf Z Z <| xarc (c := 3) Z Z Z Z Z (by decide) <| xmv Z Z Z <| X.nil <| T.un_end <| T.seq <| tx [0] nf Z Z <| xcm (c := true) Z Z Z Z Z (by decide) <| X.nil <| T.seq <| T.yes Z <| T.skip <| T.seq <| T.block ?_
     refine T.seq <| tx [0,1,2,3] nf Z Z <| xmv Z Z Z <| xid Z Z Z Z a22 o3 (by decide) Z <| xas Z Z Z <| xas Z Z Z <| X.nil <| T.seq <| T.seq <| tx [0,1,2,3] nf Z Z <| xmv Z Z Z <| xmv Z Z Z ?_
     refine xcq Z Z Z Z g49 (Cv.frame loc_emp (ct_sbound hM.kk.2.2.2.1)) loc_emp <| xcm Z Z Z Z Z Z <| X.nil <| T.cond Z ?_ ?_
     ·intro hb4
      have c4 : v - C.M.k0 - C.M.k1 - C.M.k2 ≤ C.M.k3 := of_decide_eq_true hb4
      refine T.seq <| tx [0,1] nf Z Z <| xmv Z Z Z <| xas Z Z Z <| X.nil <| T.rets ?_
      refine TE.blk_ret ?_
      refine TE.un_ret ?_
      refine TE.blk_ret ?_
      refine TE.ret1 rfl (fun W D h => ?_)
      rw [show C.M.Class v = _ from ((if_neg c0).trans ((if_neg c1).trans ((if_neg c2).trans ((if_neg c3).trans (if_pos c4)))))]
      obtain ⟨D1, h1, h2⟩ := blks_tail h
      exact ⟨D1, ⟨rfl, rfl, h1⟩, h2⟩
     ·intro hb4
      have c4 : ¬ v - C.M.k0 - C.M.k1 - C.M.k2 ≤ C.M.k3 := of_decide_eq_false hb4
      refine T.skip <| tx [0,1,2,3,4] nf Z Z <| xmv Z Z Z <| xmv Z Z Z <| xcq Z Z Z Z g49 (Cv.frame loc_emp (ct_sbound hM.kk.2.2.2.1)) loc_emp <| xarc (c := v - C.M.k0 - C.M.k1 - C.M.k2 - C.M.k3) Z Z Z Z Z (wrap64i (by simp only [ari]; omega)) ?_
      refine xas Z Z Z <| X.nil <| T.blk_end <| tx [0,1] nf Z Z <| xarc (c := 4) Z Z Z Z Z (by decide) <| xmv Z Z Z <| X.nil <| T.un_end <| T.seq <| tx [0] nf Z Z <| xcm (c := true) Z Z Z Z Z (by decide) <| X.nil <| T.seq <| T.yes Z <| T.skip <| T.seq ?_
      refine T.block <| T.seq <| tx [0,1,2,3] nf Z Z <| xmv Z Z Z <| xid Z Z Z Z a22 o3 (by decide) Z <| xas Z Z Z <| xas Z Z Z <| X.nil <| T.seq <| T.seq <| tx [0,1,2,3] nf Z Z <| xmv Z Z Z <| xmv Z Z Z ?_
      refine xcq Z Z Z Z g49 (Cv.frame loc_emp (ct_sbound hM.kk.2.2.2.2)) loc_emp <| xcm Z Z Z Z Z Z <| X.nil <| T.cond Z ?_ ?_
      ·intro hb5
       have c5 : v - C.M.k0 - C.M.k1 - C.M.k2 - C.M.k3 ≤ C.M.k4 := of_decide_eq_true hb5
       refine T.seq <| tx [0,1] nf Z Z <| xmv Z Z Z <| xas Z Z Z <| X.nil <| T.rets ?_
       refine TE.blk_ret ?_
       refine TE.un_ret ?_
       refine TE.blk_ret ?_
       refine TE.ret1 rfl (fun W D h => ?_)
       rw [show C.M.Class v = _ from ((if_neg c0).trans ((if_neg c1).trans ((if_neg c2).trans ((if_neg c3).trans ((if_neg c4).trans (if_pos c5))))))]
       obtain ⟨D1, h1, h2⟩ := blks_tail h
       exact ⟨D1, ⟨rfl, rfl, h1⟩, h2⟩
      ·intro hb5
       have c5 : ¬ v - C.M.k0 - C.M.k1 - C.M.k2 - C.M.k3 ≤ C.M.k4 := of_decide_eq_false hb5
       refine T.skip <| tx [0,1,2,3,4] nf Z Z <| xmv Z Z Z <| xmv Z Z Z <| xcq Z Z Z Z g49 (Cv.frame loc_emp (ct_sbound hM.kk.2.2.2.2)) loc_emp ?_
       refine xarc (c := v - C.M.k0 - C.M.k1 - C.M.k2 - C.M.k3 - C.M.k4) Z Z Z Z Z (wrap64i (by simp only [ari]; omega)) <| xas Z Z Z <| X.nil <| T.blk_end <| tx [0,1] nf Z Z <| xarc (c := 5) Z Z Z Z Z (by decide) <| xmv Z Z Z <| X.nil <| T.un_end ?_
       refine T.seq <| tx [0] nf Z Z <| xcm (c := false) Z Z Z Z Z (by decide) <| X.nil <| T.seq <| T.no Z <| T.exit ?_
       refine TE.un_exit ?_
       refine TE.blk_exit ?_
       refine T.seq <| tx [0] nf Z Z <| xas Z Z Z <| X.nil <| T.ret1 Z (fun W D h => ?_)
       rw [show C.M.Class v = _ from ((if_neg c0).trans ((if_neg c1).trans ((if_neg c2).trans ((if_neg c3).trans ((if_neg c4).trans (if_neg c5))))))]
       obtain ⟨D1, h1, h2⟩ := blks_tail h
       exact ⟨D1, ⟨rfl, rfl, h1⟩, h2⟩
set_option maxHeartbeats 1000000 in
theorem ct_Class0 {C : Cx} {l : Wds} {v : Int} (hM : C.M.Ok) (hv : v ≤ 9223372036854775807) : Cv C 37 [ptr C.m, .int .i64 v] l emp (.int .i64 (C.M.Class v)) l emp := by
 refine Ct.of Tryz.func37 rfl Tryz.ntmps37 (by simp) loc_emp ?_
 intro w0 D0
 refine T.seq <| tx [0] nf Z Z <| xas Z Z Z <| X.nil <| T.seq <| T.seq <| tx [0,1] nf Z Z <| xmv Z Z Z <| xnp Z Z Z Z u39_dPtr <| X.nil <| T.no Z <| T.skip <| T.seq <| tx [0,1,2,3,4,5,6,7] nf Z Z <| xmv Z Z Z <| xnc Z Z Z <| xfa Z Z Z f109_1 ?_
 refine xfa Z Z Z f24_0 <| xldam Z Z Z m22 Z Z <| xmv Z Z Z <| xcq Z Z Z Z g51 (ct_sClass hM hv) loc_emp <| xas Z Z Z <| X.nil <| T.ret1 Z (fun W D h => ?_)
 exact ⟨D, ⟨rfl, rfl, h⟩, fun _ hk => hk⟩
theorem ct_Class {C : Cx} {l : Wds} {R : Asr} (hl : Loc R) {v : Int} (hM : C.M.Ok) (hv : v ≤ 9223372036854775807) : Cv C 37 [ptr C.m, .int .i64 v] l R (.int .i64 (C.M.Class v)) l R := Cv.frame hl (ct_Class0 hM hv)
def Sc.cs (C : Cx) (x : Sc) (cv av nv : Value) : List Value :=
 [ptr C.m, .int .i64 x.i, .int .i64 x.v, .int .i64 x.from_, .int .u64 x.cycle, .int .i64 x.pa, .int .i64 x.pb, .int .i64 x.at_, .int .i64 x.w, cv, av, .int .i64 x.event.kind, .int .i64 x.event.who, .int .i64 x.event.a, .int .i64 x.event.b, .int .i64 x.event.c, nv]
def ScNx (C : Cx) (d : Nat) (x : Sc) (cv av nv : Value) (RN : Asr) : Prop := match x.next with
 | .nil => nv = .nilFunc ∧ RN = emp
 | .head => nv = fm 174 d ∧ RN = emp
 | .count => nv = fm 200 d ∧ RN = emp
 | .adds => nv = fm 239 d ∧ ∃ q, av = ptr q ∧ RN = AdR C q x.add
 | .slot => nv = fm 219 d ∧ RN = emp
 | .claims => nv = fm 237 d ∧ ∃ q, cv = ptr q ∧ RN = ClR C q x.claim
 | .last => nv = fm 220 d ∧ RN = emp
theorem loc_ScNx {C : Cx} {d : Nat} {m : Sc} {cv av : Value} (nv : Value) (RN : Asr) (h : ScNx C d m cv av nv RN) : Loc RN := by
 unfold ScNx at h
 split at h <;> first
  | (obtain ⟨-, rfl⟩ := h; exact loc_emp)
  | (obtain ⟨-, q, -, rfl⟩ := h; first | exact loc_AdR | exact loc_ClR)
theorem Sc_is {C : Cx} {d : Nat} {m : Sc} {cv av nv : Value} {RN : Asr} (h : ScNx C d m cv av nv RN) : NxIs nv (decide (m.next = .nil)) := by
 unfold ScNx at h
 split at h <;> rename_i hn <;> rw [hn] <;> obtain ⟨rfl, -⟩ := h <;> first | exact .inl ⟨rfl, rfl⟩ | exact .inr ⟨_, _, _, rfl, rfl⟩
structure Sc.Ok (M : MapM) (m : Sc) : Prop where
 i : 0 ≤ m.i ∧ m.i < M.markers
 v : u32R m.v
 from_ : u32R m.from_
 cycle : u64R m.cycle
 pa : 0 ≤ m.pa ∧ m.pa ≤ 1000
 pb : 0 ≤ m.pb ∧ m.pb ≤ 1000
 at_ : 0 ≤ m.at_ ∧ m.at_ ≤ 1000
 w : u32R m.w
 claim : m.claim.Ok
 add : m.add.Ok
 sl : m.next = .slot → m.at_ < m.pb
def slF (a b : Int) : Nat := bif decide (a < b) then 219 else 220
theorem nx_slots {C : Cx} {d : Nat} {x : Sc} {cv av : Value} (h : x.next = x.slots) : ScNx C d x cv av (fm (slF x.at_ x.pb) d) emp := by
 unfold ScNx
 unfold Sc.slots at h
 unfold slF
 by_cases hc : x.at_ < x.pb
 ·rw [if_pos hc] at h
  rw [h]
  simp [hc]
 ·rw [if_neg hc] at h
  rw [h]
  simp [hc]
def ScR (C : Cx) (d : Nat) (m : Sc) : Asr := fun D w => ∃ cv : Value, ∃ av : Value, Mch 228 d (m.cs C cv av) (ScNx C d m cv av) D w
theorem loc_ScR {C : Cx} {d : Nat} {m : Sc} : Loc (ScR C d m) := loc_ex fun _ => loc_ex fun _ => loc_Mch loc_ScNx
def ScRun (C : Cx) (d : Nat) (m : Sc) (l : Wds) (m' : Sc) (l' : Wds) : Prop := ∀ (cv : Value) (av : Value) nv RN, ScNx C d m cv av nv RN → ∃ fid fs cs, nv = .func (.func fid) (List.toArray fs) (List.toArray cs) ∧ fnB fid = true ∧ Cv C fid (fs ++ [ptr C.s] ++ cs) l (blks [⟨d, 228, m.cs C cv av nv⟩] RN) (.tuple #[]) l' (ScR C d m')
theorem f224_0 : fld 224 0 0 = true := by kernel_rfl
theorem f224_1 : fld 224 1 1 = true := by kernel_rfl
theorem f228_0 : fld 228 0 0 = true := by kernel_rfl
theorem f228_1 : fld 228 1 1 = true := by kernel_rfl
theorem f228_10 : fld 228 10 11 = true := by kernel_rfl
theorem f228_11 : fld 228 11 16 = true := by kernel_rfl
theorem f228_2 : fld 228 2 2 = true := by kernel_rfl
theorem f228_3 : fld 228 3 3 = true := by kernel_rfl
theorem f228_4 : fld 228 4 4 = true := by kernel_rfl
theorem f228_5 : fld 228 5 5 = true := by kernel_rfl
theorem f228_6 : fld 228 6 7 = true := by kernel_rfl
theorem f228_7 : fld 228 7 8 = true := by kernel_rfl
theorem f228_8 : fld 228 8 9 = true := by kernel_rfl
theorem f228_9 : fld 228 9 10 = true := by kernel_rfl
theorem f24_4 : fld 24 4 8 = true := by kernel_rfl
theorem g174 : fnB 174 = true := by kernel_rfl
theorem g183 : fnB 183 = true := by kernel_rfl
theorem g198 : fnB 198 = true := by kernel_rfl
theorem g199 : fnB 199 = true := by kernel_rfl
theorem g200 : fnB 200 = true := by kernel_rfl
theorem g203 : fnB 203 = true := by kernel_rfl
theorem g219 : fnB 219 = true := by kernel_rfl
theorem g220 : fnB 220 = true := by kernel_rfl
theorem g222 : fnB 222 = true := by kernel_rfl
theorem g226 : fnB 226 = true := by kernel_rfl
theorem g227 : fnB 227 = true := by kernel_rfl
theorem g237 : fnB 237 = true := by kernel_rfl
theorem g238 : fnB 238 = true := by kernel_rfl
theorem g239 : fnB 239 = true := by kernel_rfl
theorem g251 : fnB 251 = true := by kernel_rfl
theorem g30 : fnB 30 = true := by kernel_rfl
theorem g53 : fnB 53 = true := by kernel_rfl
theorem g56 : fnB 56 = true := by kernel_rfl
theorem l228 : layB 228 [(0, 1), (1, 1), (2, 1), (3, 1), (4, 1), (5, 2), (7, 1), (8, 1), (9, 1), (10, 1), (11, 5), (16, 1)] = true := by kernel_rfl
theorem l33 : layB 33 [(0, 1), (1, 1), (2, 1), (3, 1), (4, 1)] = true := by kernel_rfl
theorem m33 : many 33 5 = true := by kernel_rfl
theorem o225 : one 225 = true := by kernel_rfl
theorem o226 : one 226 = true := by kernel_rfl
theorem t24_4 : fldT 24 4 3 = true := by kernel_rfl
theorem u208_dPtr : undIs 208 (dPtr) = true := by kernel_rfl
theorem z228 : zer 228 = some [.pointer none, .int .i64 0, .int .i64 0, .int .i64 0, .int .u64 0, .int .i64 0, .int .i64 0, .int .i64 0, .int .i64 0, .pointer none, .pointer none, .int .i64 0, .int .i64 0, .int .i64 0, .int .i64 0, .int .i64 0, .nilFunc] := by kernel_rfl
theorem z33 : zer 33 = some [.int .i64 0, .int .i64 0, .int .i64 0, .int .i64 0, .int .i64 0] := by kernel_rfl
theorem room_min {M : MapM} (hM : M.Ok) {l : Wds} (hr : ∀ a, u64R (ld l a)) (a v : Int) : -9223372036854775808 ≤ min (ld l a) (M.Room v) ∧ min (ld l a) (M.Room v) ≤ 9223372036854775807 := by
 have h1 := room_rng hM v
 have h2 := (hr a).1
 omega
theorem room_u32 {M : MapM} (hM : M.Ok) (v : Int) : 0 ≤ M.Room v ∧ M.Room v ≤ 4294967295 := by
 have h1 := room_rng hM v
 omega
theorem nodes_u32 {M : MapM} (hM : M.Ok) : 0 ≤ M.nodes ∧ M.nodes ≤ 4294967295 := by
 have h1 := hM.nodes
 omega
theorem pb_u32 {x : Int} (h : 0 ≤ x ∧ x ≤ 1000) : u32R x := by unfold u32R; omega
theorem at_in {x : Int} (h : 0 ≤ x ∧ x ≤ 1000) : -9223372036854775808 ≤ x + 1 ∧ x + 1 ≤ 9223372036854775807 := by omega
theorem node_in {M : MapM} (hM : M.Ok) {x : Int} (h : 1 ≤ x) (h' : x ≤ M.nodes) : -9223372036854775808 ≤ x ∧ x ≤ 9223372036854775807 := by
 have := hM.nodes
 omega
set_option maxHeartbeats 1000000 in
theorem sc_Nil1 {C : Cx} {d : Nat} {m : Sc} {l : Wds} (he : m.event = ev0) (hn : m.next = .nil) : Cv C 291 [ptr d, ptr C.s] l (ScR C d m) (.bool true) l (ScR C d { m with event := ev0 }) := by
 have em : m.event = ev0 → ({ m with event := ev0 } : Sc) = m := fun h => by cases m; cases h; rfl
 have em := em he
 refine Ct.of Tryz.func291 rfl Tryz.ntmps291 (by simp) loc_ScR ?_
 intro w0 D0
 refine T.ex (fun _ => loc_ex fun _ => loc_Mch loc_ScNx) ?_
 intro cv
 refine T.ex (fun _ => loc_Mch loc_ScNx) ?_
 intro av
 refine T.mch (H := []) loc_ScNx ?_
 intro nv RN hN hl
 have hi := Sc_is hN
 rw [hn] at hi
 refine T.seq <| tx [0] nf Z Z <| xas Z Z Z <| X.nil <| T.seq <| T.seq <| tx [0,1] nf Z Z <| xmv Z Z Z <| xnp Z Z Z Z u208_dPtr <| X.nil <| T.no Z <| T.skip <| T.seq <| T.seq <| tx [0,1,2,3,4,5] nf Z Z <| xmv Z Z Z <| xnc Z Z Z <| xfa Z Z Z f228_10 ?_
 refine xlda Z Z Z m33 .z Z <| xbd Z Z Z l33 z33 Z <| xbo Z Z Z Z gd33 (eq33 he) <| X.nil <| T.no Z <| T.skip <| T.seq <| T.seq <| tx [0,1,2,3,4] nf Z Z <| xmv Z Z Z <| xnc Z Z Z <| xfa Z Z Z f228_11 <| xld Z Z Z o130 .z Z ?_
 refine xbo Z Z Z Z (nx_gd hi) (nx_eq hi u130_dFun) <| X.nil <| T.yes Z <| T.seq <| tx [0] nf Z Z <| xas Z Z Z <| X.nil <| T.ret1 Z (fun W D h => ?_)
 rw [em]
 exact ⟨D, ⟨rfl, rfl, cv, av, nv, RN, hN, h⟩, fun _ hk => hk⟩
set_option maxHeartbeats 1000000 in
theorem sc_Step1 {C : Cx} {d : Nat} {m m' : Sc} {l l' : Wds} (he : m.event = ev0) (hrun : ScRun C d { m with event := ev0 } l m' l') : Cv C 291 [ptr d, ptr C.s] l (ScR C d m) (.bool (decide (m'.next = .nil))) l' (ScR C d m') := by
 have em : m.event = ev0 → ({ m with event := ev0 } : Sc) = m := fun h => by cases m; cases h; rfl
 rw [em he] at hrun
 refine Ct.of Tryz.func291 rfl Tryz.ntmps291 (by simp) loc_ScR ?_
 intro w0 D0
 refine T.ex (fun _ => loc_ex fun _ => loc_Mch loc_ScNx) ?_
 intro cv
 refine T.ex (fun _ => loc_Mch loc_ScNx) ?_
 intro av
 refine T.mch (H := []) loc_ScNx ?_
 intro nv RN hN hl
 obtain ⟨fid, fs, cs, rfl, hg, hc⟩ := hrun cv av nv RN hN
 refine T.seq <| tx [0] nf Z Z <| xas Z Z Z <| X.nil <| T.seq <| T.seq <| tx [0,1] nf Z Z <| xmv Z Z Z <| xnp Z Z Z Z u208_dPtr <| X.nil <| T.no Z <| T.skip <| T.seq <| T.seq <| tx [0,1,2,3,4,5] nf Z Z <| xmv Z Z Z <| xnc Z Z Z <| xfa Z Z Z f228_10 ?_
 refine xlda Z Z Z m33 .z Z <| xbd Z Z Z l33 z33 Z <| xbo Z Z Z Z gd33 (eq33 he) <| X.nil <| T.no Z <| T.skip <| T.seq <| T.seq <| tx [0,1,2,3,4] nf Z Z <| xmv Z Z Z <| xnc Z Z Z <| xfa Z Z Z f228_11 <| xld Z Z Z o130 .z Z <| xnf Z Z Z Z u130_dFun <| X.nil ?_
 refine T.no Z <| T.skip <| T.seq <| tx [0,1,2,3,4,5] (ct [5]) Z Z <| xmv Z Z Z <| xnc Z Z Z <| xfa Z Z Z f228_11 <| xld Z Z Z o130 .z Z <| xmv Z Z Z <| xcf (H1 := []) (H2 := [_]) Z Z Z Z hg Z hc loc_ScR pend0 <| X.nil <| T.seq ?_
 refine T.ex (fun _ => loc_ex fun _ => loc_Mch loc_ScNx) ?_
 intro cv'
 refine T.ex (fun _ => loc_Mch loc_ScNx) ?_
 intro av'
 refine T.mch loc_ScNx ?_
 intro nv' RN' hN' hl'
 refine tx [0,1,2,3,4,5] nf Z Z <| xmv Z Z Z <| xnc Z Z Z <| xfa Z Z Z f228_11 <| xld Z Z Z o130 .z Z <| xbo Z Z Z Z (nx_gd (Sc_is hN')) (nx_eq (Sc_is hN') u130_dFun) <| xas Z Z Z <| X.nil <| T.ret1 Z (fun W D h => ?_)
 exact ⟨D, ⟨rfl, rfl, cv', av', nv', RN', hN', h⟩, fun _ hk => hk⟩
set_option maxHeartbeats 1000000 in
theorem sc_Nil0 {C : Cx} {d : Nat} {m : Sc} {l : Wds} (he : m.event ≠ ev0) (hn : m.next = .nil) : Cv C 291 [ptr d, ptr C.s] l (ScR C d m) (.bool true) l (ScR C d { m with event := ev0 }) := by
 have em : m.event = ev0 → ({ m with event := ev0 } : Sc) = m := fun h => by cases m; cases h; rfl
 refine Ct.of Tryz.func291 rfl Tryz.ntmps291 (by simp) loc_ScR ?_
 intro w0 D0
 refine T.ex (fun _ => loc_ex fun _ => loc_Mch loc_ScNx) ?_
 intro cv
 refine T.ex (fun _ => loc_Mch loc_ScNx) ?_
 intro av
 refine T.mch (H := []) loc_ScNx ?_
 intro nv RN hN hl
 have hi := Sc_is hN
 rw [hn] at hi
 refine T.seq <| tx [0] nf Z Z <| xas Z Z Z <| X.nil <| T.seq <| T.seq <| tx [0,1] nf Z Z <| xmv Z Z Z <| xnp Z Z Z Z u208_dPtr <| X.nil <| T.no Z <| T.skip <| T.seq <| T.seq <| tx [0,1,2,3,4,5] nf Z Z <| xmv Z Z Z <| xnc Z Z Z <| xfa Z Z Z f228_10 ?_
 refine xlda Z Z Z m33 .z Z <| xbd Z Z Z l33 z33 Z <| xbo Z Z Z Z gd33 (ne33 he) <| X.nil <| T.yes Z <| tx [0,1,2,3,4] (ct [4]) Z Z <| xmv Z Z Z <| xbd Z Z Z l33 z33 Z <| xnc Z Z Z <| xfa Z Z Z f228_10 ?_
 refine xsta Z Z Z Z m33 Z Z .z (Nat.le_of_ble_eq_true Z) .z pend0 <| X.nil <| T.seq <| T.seq <| tx [0,1,2,3,4] nf Z Z <| xmv Z Z Z <| xnc Z Z Z <| xfa Z Z Z f228_11 <| xld Z Z Z o130 .z Z <| xbo Z Z Z Z (nx_gd hi) (nx_eq hi u130_dFun) <| X.nil <| T.yes Z ?_
 refine T.seq <| tx [0] nf Z Z <| xas Z Z Z <| X.nil <| T.ret1 Z (fun W D h => ?_)
 exact ⟨D, ⟨rfl, rfl, cv, av, nv, RN, hN, h⟩, fun _ hk => hk⟩
set_option maxHeartbeats 1000000 in
theorem sc_Step0 {C : Cx} {d : Nat} {m m' : Sc} {l l' : Wds} (he : m.event ≠ ev0) (hrun : ScRun C d { m with event := ev0 } l m' l') : Cv C 291 [ptr d, ptr C.s] l (ScR C d m) (.bool (decide (m'.next = .nil))) l' (ScR C d m') := by
 have em : m.event = ev0 → ({ m with event := ev0 } : Sc) = m := fun h => by cases m; cases h; rfl
 refine Ct.of Tryz.func291 rfl Tryz.ntmps291 (by simp) loc_ScR ?_
 intro w0 D0
 refine T.ex (fun _ => loc_ex fun _ => loc_Mch loc_ScNx) ?_
 intro cv
 refine T.ex (fun _ => loc_Mch loc_ScNx) ?_
 intro av
 refine T.mch (H := []) loc_ScNx ?_
 intro nv RN hN hl
 obtain ⟨fid, fs, cs, rfl, hg, hc⟩ := hrun cv av nv RN hN
 refine T.seq <| tx [0] nf Z Z <| xas Z Z Z <| X.nil <| T.seq <| T.seq <| tx [0,1] nf Z Z <| xmv Z Z Z <| xnp Z Z Z Z u208_dPtr <| X.nil <| T.no Z <| T.skip <| T.seq <| T.seq <| tx [0,1,2,3,4,5] nf Z Z <| xmv Z Z Z <| xnc Z Z Z <| xfa Z Z Z f228_10 ?_
 refine xlda Z Z Z m33 .z Z <| xbd Z Z Z l33 z33 Z <| xbo Z Z Z Z gd33 (ne33 he) <| X.nil <| T.yes Z <| tx [0,1,2,3,4] (ct [4]) Z Z <| xmv Z Z Z <| xbd Z Z Z l33 z33 Z <| xnc Z Z Z <| xfa Z Z Z f228_10 ?_
 refine xsta Z Z Z Z m33 Z Z .z (Nat.le_of_ble_eq_true Z) .z pend0 <| X.nil <| T.seq <| T.seq <| tx [0,1,2,3,4] nf Z Z <| xmv Z Z Z <| xnc Z Z Z <| xfa Z Z Z f228_11 <| xld Z Z Z o130 .z Z <| xnf Z Z Z Z u130_dFun <| X.nil <| T.no Z <| T.skip <| T.seq ?_
 refine tx [0,1,2,3,4,5] (ct [5]) Z Z <| xmv Z Z Z <| xnc Z Z Z <| xfa Z Z Z f228_11 <| xld Z Z Z o130 .z Z <| xmv Z Z Z <| xcf (H1 := []) (H2 := [_]) Z Z Z Z hg Z hc loc_ScR pend0 <| X.nil <| T.seq <| T.ex (fun _ => loc_ex fun _ => loc_Mch loc_ScNx) ?_
 intro cv'
 refine T.ex (fun _ => loc_Mch loc_ScNx) ?_
 intro av'
 refine T.mch loc_ScNx ?_
 intro nv' RN' hN' hl'
 refine tx [0,1,2,3,4,5] nf Z Z <| xmv Z Z Z <| xnc Z Z Z <| xfa Z Z Z f228_11 <| xld Z Z Z o130 .z Z <| xbo Z Z Z Z (nx_gd (Sc_is hN')) (nx_eq (Sc_is hN') u130_dFun) <| xas Z Z Z <| X.nil <| T.ret1 Z (fun W D h => ?_)
 exact ⟨D, ⟨rfl, rfl, cv', av', nv', RN', hN', h⟩, fun _ hk => hk⟩
theorem sc_Nil {C : Cx} {d : Nat} {m : Sc} {l : Wds} (hn : m.next = .nil) : Cv C 291 [ptr d, ptr C.s] l (ScR C d m) (.bool true) l (ScR C d { m with event := ev0 }) := by
 by_cases he : m.event = ev0
 ·exact sc_Nil1 he hn
 ·exact sc_Nil0 he hn
theorem sc_Step {C : Cx} {d : Nat} {m m' : Sc} {l l' : Wds} (hrun : ScRun C d { m with event := ev0 } l m' l') : Cv C 291 [ptr d, ptr C.s] l (ScR C d m) (.bool (decide (m'.next = .nil))) l' (ScR C d m') := by
 by_cases he : m.event = ev0
 ·exact sc_Step1 he hrun
 ·exact sc_Step0 he hrun
set_option maxHeartbeats 1000000 in
theorem sc_Event {C : Cx} {d : Nat} {m : Sc} {l : Wds} : Cv C 290 [ptr d] l (ScR C d m) (.agg m.event.cells.toArray) l (ScR C d m) := by
 refine Ct.of Tryz.func290 rfl Tryz.ntmps290 (by simp) loc_ScR ?_
 intro w0 D0
 refine T.ex (fun _ => loc_ex fun _ => loc_Mch loc_ScNx) ?_
 intro cv
 refine T.ex (fun _ => loc_Mch loc_ScNx) ?_
 intro av
 refine T.mch (H := []) loc_ScNx ?_
 intro nv RN hN hl
 refine T.seq <| tx [0] (ct [0]) Z Z <| xal Z Z z33 (fun _ => pend0) (fun b0 => ?_)
 refine X.nil <| T.seq <| T.seq <| tx [0,1] nf Z Z <| xmv Z Z Z <| xnp Z Z Z Z u208_dPtr <| X.nil <| T.no Z <| T.skip <| T.seq <| tx [0,1,2,3,4] (ct [4]) Z Z <| xmv Z Z Z <| xnc Z Z Z <| xfa Z Z Z f228_10 <| xlda Z Z Z m33 (.s .z) Z ?_
 refine xsta Z Z Z Z m33 Z Z .z (Nat.le_of_ble_eq_true Z) .z pend0 <| X.nil <| T.retc Z Z m33 .z Z (fun W D h => ?_)
 obtain ⟨D1, h1, h2⟩ := blks_tail h
 exact ⟨D1, ⟨rfl, rfl, cv, av, nv, RN, hN, h1⟩, h2⟩
set_option maxHeartbeats 1000000 in
theorem ct_slots {C : Cx} {l : Wds} {d : Nat} {Hx : List Bk} {R : Asr} (hl : Loc R) {a0 a1 a2 a3 a4 a5 a8 a9 a10 a11 a12 a13 a14 a15 a16 : Value} {pb at_ : Int} : Cv C 199 [ptr d] l (blks (⟨d, 228, [a0, a1, a2, a3, a4, a5, .int .i64 pb, .int .i64 at_, a8, a9, a10, a11, a12, a13, a14, a15, a16]⟩ :: Hx) R) (fm (slF at_ pb) d) l (blks (⟨d, 228, [a0, a1, a2, a3, a4, a5, .int .i64 pb, .int .i64 at_, a8, a9, a10, a11, a12, a13, a14, a15, a16]⟩ :: Hx) R) := by
 refine Ct.of Tryz.func199 rfl Tryz.ntmps199 (by simp) (loc_blks hl _) ?_
 intro w0 D0
 refine T.conv (fun w h => Sy.opens (H2 := _ :: Hx) h hl) <| T.seq <| tx [0] nf Z Z <| xas Z Z Z <| X.nil <| T.seq <| T.seq ?_
 refine T.any (ord := [0, 1, 2, 3, 4, 5, 6, 7, 8, 9]) (lo := (fun _ => false)) (ef := (fun _ => false)) (by kernel_rfl) (fun _ h => h.drew) <| xmv Z Z Z <| xnc Z Z Z <| xfa Z Z Z f228_6 <| xld Z Z Z o3 .z Z <| xmv Z Z Z <| xnc Z Z Z <| xfa Z Z Z f228_5 ?_
 refine xfa Z Z Z f224_1 <| xld Z Z Z o3 .z Z <| xcm Z Z Z Z Z Z <| X.nil <| T.cond Z ?_ ?_
 ·intro hb0
  refine T.seq <| tx [0,1,2] nf Z Z <| xmv Z Z Z <| xmf Z Z Z Z <| xas Z Z Z <| X.nil <| T.ret1 Z (fun W D h => ?_)
  rw [show slF at_ pb = 219 by unfold slF; rw [show decide (at_ < pb) = true from hb0]; rfl]
  exact ⟨D, ⟨rfl, rfl, h⟩, fun _ hk => hk⟩
 ·intro hb0
  refine T.skip <| T.seq <| tx [0,1,2] nf Z Z <| xmv Z Z Z <| xmf Z Z Z Z <| xas Z Z Z <| X.nil <| T.ret1 Z (fun W D h => ?_)
  rw [show slF at_ pb = 220 by unfold slF; rw [show decide (at_ < pb) = false from hb0]; rfl]
  exact ⟨D, ⟨rfl, rfl, h⟩, fun _ hk => hk⟩
set_option maxHeartbeats 1000000 in
theorem ct_scGive {C : Cx} {l : Wds} {d : Nat} {R : Asr} (hl : Loc R) {x : Sc} {cv av nv : Value} {v f : Int} (hM : C.M.Ok) (hi : 0 ≤ x.i ∧ x.i < C.M.markers) (hv : u32R v) (hf : u32R f) : Cv C 222 [ptr d, .int .i64 v, .int .i64 f] l (blks [⟨d, 228, x.cs C cv av nv⟩] R) (.tuple #[]) l (ScR C d (x.give C.M v f)) := by
 refine Ct.of Tryz.func222 rfl Tryz.ntmps222 (by simp) (loc_blks hl _) ?_
 intro w0 D0
 refine T.conv (fun w h => Sy.opens (H2 := [_]) h hl) <| T.seq <| T.any (ord := [0, 1, 2, 3, 4, 5, 6, 7, 8, 9, 10, 11, 12, 13, 14, 15, 16, 17]) (lo := (fun i => [0].contains i)) (ef := (fun i => [14, 17].contains i)) (by kernel_rfl) (fun _ h => h.drew) ?_
 refine xmv Z Z Z <| xmv Z Z Z <| xnc Z Z Z <| xfa Z Z Z f228_0 <| xld Z Z Z o39 .z Z <| xmv Z Z Z <| xnc Z Z Z <| xfa Z Z Z f228_1 <| xld Z Z Z o3 .z Z <| xmv Z Z Z <| xcvc Z Z Z u115_dIntu32 u3_fun_true (wrap32u32 hv) <| xmv Z Z Z ?_
 refine xcvc Z Z Z u115_dIntu32 u3_fun_true (wrap32u32 hf) <| xcq Z Z Z Z g53 (ct_Pair hv hf) hl <| xcn Z Z Z Z g238 (ct_adNew (top_ge hM hi)) (fun _ => loc_AdR) (fun _ => (pendmv Z Z pend0)) (fun q0 => ?_)
 refine xnc Z Z Z <| xfa Z Z Z f228_9 <| xst Z Z Z Z o226 Z .z Z .z (pendsk (by kernel_rfl) pend0) <| X.nil <| tx [0,1,2,3,4,5] (ct [5]) Z Z <| xmv Z Z Z <| xmv Z Z Z <| xmf Z Z Z Z <| xnc Z Z Z <| xfa Z Z Z f228_11 <| xst Z Z Z Z o130 Z .z Z .z pend0 ?_
 refine X.nil <| T.end0 Z (fun W D h => ?_)
 exact ⟨D, ⟨rfl, rfl, _, _, _, _, ⟨rfl, _, rfl, rfl⟩, h⟩, fun _ hk => hk⟩
set_option maxHeartbeats 1000000 in
theorem sc_head {C : Cx} {d : Nat} {m : Sc} {l : Wds} (hM : C.M.Ok) (hm : m.Ok C.M) (hr : ∀ a, u64R (ld l a)) (hn : m.next = .head) : ScRun C d m l (m.step0 C.M l).1 (m.step0 C.M l).2 := by
 obtain ⟨i, v, from_, cycle, pa, pb, at_, w, claim, add, event, nx⟩ := m
 obtain rfl : nx = .head := hn
 rintro cv av nv RN ⟨rfl, rfl⟩
 refine ⟨174, [ptr d], [], rfl, g174, ?_⟩
 refine Ct.of (vs := [ptr d, ptr C.s]) Tryz.func174 rfl Tryz.ntmps174 (by simp) (loc_blks loc_emp _) ?_
 intro w0 D0
 refine T.conv (fun w h => Sy.opens (H2 := [_]) h loc_emp) <| T.seq <| T.any (ord := [0, 1, 2, 3, 4, 5, 6, 7, 8, 9, 10, 11, 12, 13, 14, 15, 16, 17, 18, 19, 20, 21, 22]) (lo := (fun _ => false)) (ef := (fun _ => false)) (by kernel_rfl) (fun _ h => h.drew) ?_
 refine xmv Z Z Z <| xmv Z Z Z <| xnc Z Z Z <| xfa Z Z Z f228_0 <| xld Z Z Z o39 .z Z <| xmv Z Z Z <| xnc Z Z Z <| xfa Z Z Z f228_2 <| xld Z Z Z o3 .z Z <| xcq Z Z Z Z g56 (ct_Header) loc_emp <| xcq Z Z Z Z g32 (ct_Load loc_emp) loc_emp <| xmv Z Z Z ?_
 refine xnc Z Z Z <| xfa Z Z Z f228_0 <| xld Z Z Z o39 .z Z <| xmv Z Z Z <| xnc Z Z Z <| xfa Z Z Z f228_2 <| xld Z Z Z o3 .z Z <| xcq Z Z Z Z g55 (ct_Room) loc_emp <| xcvc Z Z Z u90_dIntu64 u3_fun_true (wrap64u32 (room_u32 hM _)) <| xmin Z Z Z <| xas Z Z Z ?_
 refine X.nil <| T.seq ?_
 refine T.any (ord := [0, 1, 2, 3, 4, 5, 6, 7, 8, 9, 10, 11, 12, 13, 14, 15, 16, 17, 18]) (lo := (fun i => [0, 1, 2, 3, 4, 5, 6, 7, 8, 9, 10, 11, 12, 13, 14, 15].contains i)) (ef := (fun i => [16, 17].contains i)) (by kernel_rfl) (fun _ h => h.drew) ?_
 refine xmv Z Z Z <| xcvc Z Z Z u3_dInti64 u90_fun_true (wrap64i (room_min hM hr _ _)) <| xmv Z Z Z <| xnc Z Z Z <| xfa Z Z Z f228_3 <| xld Z Z Z o3 .z Z <| xmv Z Z Z <| xnc Z Z Z <| xfa Z Z Z f228_0 <| xld Z Z Z o39 .z Z ?_
 refine xcq Z Z Z Z g115 (ct_ConfigR loc_emp) loc_emp <| xfd Z Z Z f24_4 t24_4 o3 Z <| xcq Z Z Z Z g198 (ct_rangesNext loc_emp) loc_emp <| xmv Z Z Z <| xex Z Z Z Z <| xex Z Z Z Z ?_
 refine xal Z Z z224 (fun _ => (pxex Z Z Z (pxex Z Z Z (pendmv Z Z (pxcq Z Z Z g198 (ct_rangesNext loc_emp) loc_emp (pxfd Z Z f24_4 t24_4 o3 Z (pxcq Z Z Z g115 (ct_ConfigR loc_emp) loc_emp (pxld Z Z o39 (.s .z) Z (pxfa Z Z f228_0 (pxnc Z Z (pendmv Z Z (pxld Z Z o3 (.s .z) Z (pxfa Z Z f228_3 (pxnc Z Z (pendmv Z Z (pxcvc Z Z u3_dInti64 u90_fun_true (wrap64i (room_min hM hr _ _)) (pendmv Z Z pend0))))))))))))))))) (fun b0 => ?_)
 refine xsta Z Z Z Z m224 Z Z .z (Nat.le_of_ble_eq_true Z) .z (pxex Z Z Z (pendsk (by kernel_rfl) (pendsk (by kernel_rfl) (pendsk (by kernel_rfl) (pendsk (by kernel_rfl) (pendsk (by kernel_rfl) (pendsk (by kernel_rfl) (pendsk (by kernel_rfl) (pendsk (by kernel_rfl) (pendsk (by kernel_rfl) (pendsk (by kernel_rfl) (pendsk (by kernel_rfl) (pendsk (by kernel_rfl) (pendsk (by kernel_rfl) (pendsk (by kernel_rfl) (pendsk (by kernel_rfl) pend0)))))))))))))))) ?_
 refine xas Z Z Z <| X.nil <| T.seq <| T.any (ord := [0, 1, 2, 3, 4, 5, 6, 7, 8, 9, 10]) (lo := (fun i => [1, 3, 4].contains i)) (ef := (fun i => [7, 10].contains i)) (by kernel_rfl) (fun _ h => h.drew) <| xmv Z Z Z <| xmv Z Z Z <| xlda Z Z Z m224 .z Z ?_
 refine xfa Z Z Z f224_0 <| xld Z Z Z o3 .z Z <| xnc Z Z Z <| xfa Z Z Z f228_5 <| xsta Z Z Z Z m224 Z Z (.s .z) (Nat.le_of_ble_eq_true Z) (.s .z) (pxld Z Z o3 .z Z (pxfa Z Z f224_0 (pendmv Z Z pend0))) <| xnc Z Z Z <| xfa Z Z Z f228_6 ?_
 refine xst Z Z Z Z o3 Z (.s .z) Z (.s .z) (pendsk (by kernel_rfl) (pendsk (by kernel_rfl) (pendsk (by kernel_rfl) pend0))) <| X.nil <| T.seq <| tx [0,1,2,3,4,5] (ct [5]) Z Z <| xmv Z Z Z <| xmv Z Z Z ?_
 refine xcr (H1 := [_]) (H2 := _ :: _) Z Z Z Z g199 Z (ct_slots loc_emp) loc_emp <| xnc Z Z Z <| xfa Z Z Z f228_11 <| xst Z Z Z Z o130 Z (.s .z) Z (.s .z) pend0 <| X.nil <| T.seq <| tx [0] nf Z Z <| xmv Z Z Z <| X.nil <| T.cond Z ?_ ?_
 ·intro hb0
  refine tx [0,1,2,3,4,5] (ct [5]) Z Z <| xmv Z Z Z <| xmv Z Z Z <| xmf Z Z Z Z <| xnc Z Z Z <| xfa Z Z Z f228_11 <| xst Z Z Z Z o130 Z (.s .z) Z (.s .z) pend0 <| X.nil <| T.end0 Z (fun W D h => ?_)
  rw [show (⟨i, v, from_, cycle, pa, pb, at_, w, claim, add, event, .head⟩ : Sc).step0 C.M l = _ from if_pos (of_decide_eq_true hb0)]
  obtain ⟨D1, h1, h2⟩ := blks_tail h
  exact ⟨D1, ⟨rfl, rfl, _, _, _, _, ⟨rfl, rfl⟩, h1⟩, h2⟩
 ·intro hb0
  refine T.skip <| T.end0 Z (fun W D h => ?_)
  rw [show (⟨i, v, from_, cycle, pa, pb, at_, w, claim, add, event, .head⟩ : Sc).step0 C.M l = _ from if_neg (of_decide_eq_false hb0)]
  obtain ⟨D1, h1, h2⟩ := blks_tail h
  exact ⟨D1, ⟨rfl, rfl, _, _, _, _, nx_slots rfl, h1⟩, h2⟩
set_option maxHeartbeats 1000000 in
theorem sc_count {C : Cx} {d : Nat} {m : Sc} {l : Wds} (hM : C.M.Ok) (hm : m.Ok C.M) (hr : ∀ a, u64R (ld l a)) (hn : m.next = .count) : ScRun C d m l (m.step0 C.M l).1 (m.step0 C.M l).2 := by
 obtain ⟨i, v, from_, cycle, pa, pb, at_, w, claim, add, event, nx⟩ := m
 obtain rfl : nx = .count := hn
 rintro cv av nv RN ⟨rfl, rfl⟩
 refine ⟨200, [ptr d], [], rfl, g200, ?_⟩
 refine Ct.of (vs := [ptr d, ptr C.s]) Tryz.func200 rfl Tryz.ntmps200 (by simp) (loc_blks loc_emp _) ?_
 intro w0 D0
 refine T.conv (fun w h => Sy.opens (H2 := [_]) h loc_emp) <| T.seq <| tx [0,1,2,3,4,5,6] (ct [6]) Z Z <| xmv Z Z Z <| xmv Z Z Z <| xnc Z Z Z <| xfa Z Z Z f228_0 <| xld Z Z Z o39 .z Z <| xcq Z Z Z Z g165 (ct_Work) loc_emp ?_
 refine xce Z Z Z Z g221 (ct_Add loc_emp) loc_emp pend0 <| X.nil <| T.seq <| T.any (ord := [0, 1, 2, 3, 4, 5, 6, 7, 8, 9, 10, 11, 12, 13]) (lo := (fun _ => false)) (ef := (fun i => [13].contains i)) (by kernel_rfl) (fun _ h => h.drew) <| xmv Z Z Z ?_
 refine xmv Z Z Z <| xnc Z Z Z <| xfa Z Z Z f228_2 <| xld Z Z Z o3 .z Z <| xmv Z Z Z <| xnc Z Z Z <| xfa Z Z Z f228_5 <| xfa Z Z Z f224_1 <| xld Z Z Z o3 .z Z <| xbd Z Z Z l33 z33 Z <| xnc Z Z Z <| xfa Z Z Z f228_10 ?_
 refine xsta Z Z Z Z m33 Z Z .z (Nat.le_of_ble_eq_true Z) .z pend0 <| X.nil <| T.any (ord := [0, 1, 2, 3, 4, 5, 6, 7, 8, 9, 10]) (lo := (fun _ => false)) (ef := (fun i => [10].contains i)) (by kernel_rfl) (fun _ h => h.drew) <| xmv Z Z Z <| xmv Z Z Z ?_
 refine xnc Z Z Z <| xfa Z Z Z f228_2 <| xld Z Z Z o3 .z Z <| xmv Z Z Z <| xnc Z Z Z <| xfa Z Z Z f228_5 <| xfa Z Z Z f224_1 <| xld Z Z Z o3 .z Z ?_
 refine xcf (H1 := []) (H2 := [_]) Z Z Z Z g222 Z (ct_scGive loc_emp (x := ⟨i, v, from_, cycle, pa, pb, at_, w, claim, add, ⟨2, 0, v, pb, 0⟩, .count⟩) hM hm.i hm.v (pb_u32 hm.pb)) loc_ScR pend0 <| X.nil <| T.end0 Z (fun W D h => ?_)
 exact ⟨D, ⟨rfl, rfl, h⟩, fun _ hk => hk⟩
set_option maxHeartbeats 1000000 in
theorem sc_adds {C : Cx} {d : Nat} {m : Sc} {l : Wds} (hM : C.M.Ok) (hm : m.Ok C.M) (hr : ∀ a, u64R (ld l a)) (hn : m.next = .adds) : ScRun C d m l (m.step0 C.M l).1 (m.step0 C.M l).2 := by
 obtain ⟨i, v, from_, cycle, pa, pb, at_, w, claim, add, event, nx⟩ := m
 obtain rfl : nx = .adds := hn
 rintro cv av nv RN ⟨rfl, q, rfl, rfl⟩
 refine ⟨239, [ptr d], [], rfl, g239, ?_⟩
 refine Ct.of (vs := [ptr d, ptr C.s]) Tryz.func239 rfl Tryz.ntmps239 (by simp) (loc_blks loc_AdR _) ?_
 intro w0 D0
 refine T.conv (fun w h => Sy.opens (H2 := [_]) h loc_AdR) <| T.seq <| tx [0,1,2,3,4,5] (ct [5]) Z Z <| xmv Z Z Z <| xnc Z Z Z <| xfa Z Z Z f228_9 <| xld Z Z Z o226 .z Z <| xmv Z Z Z <| xce Z Z Z Z g251 (ct_adStep hm.add hr) loc_AdR pend0 <| X.nil ?_
 refine T.cond Z ?_ ?_
 ·intro hb0
  refine tx [0,1,2,3,4,5] (ct [5]) Z Z <| xmv Z Z Z <| xmv Z Z Z <| xcr (H1 := []) (H2 := _ :: _) Z Z Z Z g199 Z (ct_slots loc_AdR) loc_AdR <| xnc Z Z Z <| xfa Z Z Z f228_11 <| xst Z Z Z Z o130 Z .z Z .z pend0 <| X.nil <| T.end0 Z (fun W D h => ?_)
  rw [show (⟨i, v, from_, cycle, pa, pb, at_, w, claim, add, event, .adds⟩ : Sc).step0 C.M l = _ from if_pos (of_decide_eq_true hb0)]
  obtain ⟨D1, h1, h2⟩ := blks_drop h
  exact ⟨D1, ⟨rfl, rfl, _, _, _, _, nx_slots rfl, h1⟩, h2⟩
 ·intro hb0
  refine T.skip <| T.end0 Z (fun W D h => ?_)
  rw [show (⟨i, v, from_, cycle, pa, pb, at_, w, claim, add, event, .adds⟩ : Sc).step0 C.M l = _ from if_neg (of_decide_eq_false hb0)]
  exact ⟨D, ⟨rfl, rfl, _, _, _, _, ⟨rfl, _, rfl, rfl⟩, h⟩, fun _ hk => hk⟩
set_option maxHeartbeats 1000000 in
theorem sc_slot {C : Cx} {d : Nat} {m : Sc} {l : Wds} (hM : C.M.Ok) (hm : m.Ok C.M) (hr : ∀ a, u64R (ld l a)) (hn : m.next = .slot) : ScRun C d m l (m.step0 C.M l).1 (m.step0 C.M l).2 := by
 obtain ⟨i, v, from_, cycle, pa, pb, at_, w, claim, add, event, nx⟩ := m
 obtain rfl : nx = .slot := hn
 rintro cv av nv RN ⟨rfl, rfl⟩
 refine ⟨219, [ptr d], [], rfl, g219, ?_⟩
 refine Ct.of (vs := [ptr d, ptr C.s]) Tryz.func219 rfl Tryz.ntmps219 (by simp) (loc_blks loc_emp _) ?_
 intro w0 D0
 refine T.conv (fun w h => Sy.opens (H2 := [_]) h loc_emp) <| T.seq <| T.any (ord := [0, 1, 2, 3, 4, 5, 6, 7, 8, 9, 10, 11, 12, 13, 14, 15]) (lo := (fun _ => false)) (ef := (fun _ => false)) (by kernel_rfl) (fun _ h => h.drew) <| xmv Z Z Z <| xmv Z Z Z ?_
 refine xnc Z Z Z <| xfa Z Z Z f228_0 <| xld Z Z Z o39 .z Z <| xmv Z Z Z <| xnc Z Z Z <| xfa Z Z Z f228_2 <| xld Z Z Z o3 .z Z <| xmv Z Z Z <| xnc Z Z Z <| xfa Z Z Z f228_6 <| xld Z Z Z o3 .z Z <| xcq Z Z Z Z g183 (ct_Slot loc_emp hM) loc_emp ?_
 refine xcq Z Z Z Z g32 (ct_Load loc_emp) loc_emp <| xas Z Z Z <| X.nil <| T.seq <| T.any (ord := [0, 1, 2, 3, 4, 5, 6, 7, 8, 9, 10, 11, 12]) (lo := (fun _ => false)) (ef := (fun i => [12].contains i)) (by kernel_rfl) (fun _ h => h.drew) <| xmv Z Z Z ?_
 refine xmv Z Z Z <| xnc Z Z Z <| xfa Z Z Z f228_2 <| xld Z Z Z o3 .z Z <| xmv Z Z Z <| xnc Z Z Z <| xfa Z Z Z f228_6 <| xld Z Z Z o3 .z Z <| xbd Z Z Z l33 z33 Z <| xnc Z Z Z <| xfa Z Z Z f228_10 ?_
 refine xsta Z Z Z Z m33 Z Z .z (Nat.le_of_ble_eq_true Z) .z pend0 <| X.nil <| T.seq <| tx [0,1,2,3,4,5,6,7] (ct [7]) Z Z <| xmv Z Z Z <| xnc Z Z Z <| xfa Z Z Z f228_6 <| xld Z Z Z o3 .z Z <| xarc (c := at_ + 1) Z Z Z Z Z (wrap64i (at_in hm.at_)) ?_
 refine xnc Z Z Z <| xfa Z Z Z f228_6 <| xst Z Z Z Z o3 Z .z Z .z pend0 <| X.nil <| T.seq <| tx [0,1,2,3,4,5] (ct [5]) Z Z <| xmv Z Z Z <| xmv Z Z Z <| xcr (H1 := []) (H2 := _ :: _) Z Z Z Z g199 Z (ct_slots loc_emp) loc_emp <| xnc Z Z Z ?_
 refine xfa Z Z Z f228_11 <| xst Z Z Z Z o130 Z .z Z .z pend0 <| X.nil <| T.seq ?_
 by_cases hq : 1 ≤ ld l (C.M.Slot v at_)
 ·skip
  refine tx [0,1,2,3,4,5,6,7,8,9,10,11] nf Z Z <| xmv Z Z Z <| xcm (c := true) Z Z Z Z Z (decide_eq_true hq) <| xmv Z Z Z <| xmv Z Z Z <| xmv Z Z Z <| xnc Z Z Z <| xfa Z Z Z f228_0 <| xld Z Z Z o39 .z Z <| xcq Z Z Z Z g30 (ct_Nodes) loc_emp ?_
  refine xcvc Z Z Z u90_dIntu64 u3_fun_true (wrap64u32 (nodes_u32 hM)) <| xcm Z Z Z Z Z Z <| xpk Z Z Z Z <| X.nil <| T.cond Z ?_ ?_
  ·intro hb1
   refine T.seq <| tx [0,1,2,3,4,5] (ct [5]) Z Z <| xmv Z Z Z <| xmv Z Z Z <| xcvc Z Z Z u3_dInti64 u90_fun_true (wrap64i (node_in hM hq (of_decide_eq_true hb1))) <| xnc Z Z Z <| xfa Z Z Z f228_7 <| xst Z Z Z Z o3 Z .z Z .z pend0 <| X.nil <| T.seq ?_
   refine T.any (ord := [0, 1, 2, 3, 4, 5, 6, 7, 8, 9, 10, 11, 12, 13, 14, 15, 16]) (lo := (fun i => [0].contains i)) (ef := (fun i => [13, 16].contains i)) (by kernel_rfl) (fun _ h => h.drew) <| xmv Z Z Z <| xmv Z Z Z <| xnc Z Z Z <| xfa Z Z Z f228_0 ?_
   refine xld Z Z Z o39 .z Z <| xmv Z Z Z <| xnc Z Z Z <| xfa Z Z Z f228_7 <| xld Z Z Z o3 .z Z <| xmv Z Z Z <| xnc Z Z Z <| xfa Z Z Z f228_4 <| xld Z Z Z o90 .z Z ?_
   refine xcn Z Z Z Z g203 (ct_clNew) (fun _ => loc_ClR) (fun _ => (pendmv Z Z pend0)) (fun q0 => ?_)
   refine xnc Z Z Z <| xfa Z Z Z f228_8 <| xst Z Z Z Z o225 Z .z Z .z (pendsk (by kernel_rfl) pend0) <| X.nil <| tx [0,1,2,3,4,5] (ct [5]) Z Z <| xmv Z Z Z <| xmv Z Z Z <| xmf Z Z Z Z <| xnc Z Z Z <| xfa Z Z Z f228_11 <| xst Z Z Z Z o130 Z .z Z .z pend0 ?_
   refine X.nil <| T.end0 Z (fun W D h => ?_)
   rw [show (⟨i, v, from_, cycle, pa, pb, at_, w, claim, add, event, .slot⟩ : Sc).step0 C.M l = _ from if_pos ⟨hq, of_decide_eq_true hb1⟩]
   exact ⟨D, ⟨rfl, rfl, _, _, _, _, ⟨rfl, _, rfl, rfl⟩, h⟩, fun _ hk => hk⟩
  ·intro hb1
   refine T.skip <| T.end0 Z (fun W D h => ?_)
   rw [show (⟨i, v, from_, cycle, pa, pb, at_, w, claim, add, event, .slot⟩ : Sc).step0 C.M l = _ from if_neg (fun h => of_decide_eq_false hb1 h.2)]
   exact ⟨D, ⟨rfl, rfl, _, _, _, _, nx_slots rfl, h⟩, fun _ hk => hk⟩
 ·skip
  refine tx [0,1,2,3,4,5,6,7,8,9,10,11] nf Z Z <| xmv Z Z Z <| xcm (c := false) Z Z Z Z Z (decide_eq_false hq) <| xmv Z Z Z <| x_skip Z Z Z <| x_skip Z Z Z <| x_skip Z Z Z <| x_skip Z Z Z <| x_skip Z Z Z <| x_skip Z Z Z <| x_skip Z Z Z <| x_skip Z Z Z ?_
  refine xpk Z Z Z Z <| X.nil <| T.no Z <| T.skip <| T.end0 Z (fun W D h => ?_)
  rw [show (⟨i, v, from_, cycle, pa, pb, at_, w, claim, add, event, .slot⟩ : Sc).step0 C.M l = _ from if_neg (fun h => hq h.1)]
  exact ⟨D, ⟨rfl, rfl, _, _, _, _, nx_slots rfl, h⟩, fun _ hk => hk⟩
set_option maxHeartbeats 1000000 in
theorem sc_claims {C : Cx} {d : Nat} {m : Sc} {l : Wds} (hM : C.M.Ok) (hm : m.Ok C.M) (hr : ∀ a, u64R (ld l a)) (hn : m.next = .claims) : ScRun C d m l (m.step0 C.M l).1 (m.step0 C.M l).2 := by
 obtain ⟨i, v, from_, cycle, pa, pb, at_, w, claim, add, event, nx⟩ := m
 obtain rfl : nx = .claims := hn
 rintro cv av nv RN ⟨rfl, q, rfl, rfl⟩
 refine ⟨237, [ptr d], [], rfl, g237, ?_⟩
 refine Ct.of (vs := [ptr d, ptr C.s]) Tryz.func237 rfl Tryz.ntmps237 (by simp) (loc_blks loc_ClR _) ?_
 intro w0 D0
 refine T.conv (fun w h => Sy.opens (H2 := [_]) h loc_ClR) <| T.seq <| T.seq <| tx [0,1,2,3,4,5,6] (ct [5]) Z Z <| xmv Z Z Z <| xnc Z Z Z <| xfa Z Z Z f228_8 <| xld Z Z Z o225 .z Z <| xmv Z Z Z <| xce Z Z Z Z g226 (ct_clStep hm.claim) loc_ClR pend0 ?_
 refine xnot Z Z Z <| X.nil <| T.cond Z ?_ ?_
 ·intro hb0
  refine T.ret0 Z (fun W D h => ?_)
  have hn : ¬ (claim.step C.M l).1.next = .nil := by simpa using hb0
  rw [show (⟨i, v, from_, cycle, pa, pb, at_, w, claim, add, event, .claims⟩ : Sc).step0 C.M l = _ from if_neg hn]
  exact ⟨D, ⟨rfl, rfl, _, _, _, _, ⟨rfl, _, rfl, rfl⟩, h⟩, fun _ hk => hk⟩
 ·intro hb0
  have hn0 : (claim.step C.M l).1.next = .nil := by simpa using hb0
  refine T.skip <| T.seq <| tx [0,1,2,3,4,5] (ct [5]) Z Z <| xmv Z Z Z <| xmv Z Z Z <| xcr (H1 := []) (H2 := _ :: _) Z Z Z Z g199 Z (ct_slots loc_ClR) loc_ClR <| xnc Z Z Z <| xfa Z Z Z f228_11 <| xst Z Z Z Z o130 Z .z Z .z pend0 <| X.nil <| T.seq ?_
  refine tx [0,1,2,3,4] nf Z Z <| xmv Z Z Z <| xnc Z Z Z <| xfa Z Z Z f228_8 <| xld Z Z Z o225 .z Z <| xcq Z Z Z Z g227 (cl_Won) loc_ClR <| X.nil <| T.cond Z ?_ ?_
  ·intro hb1
   refine T.seq <| tx [0,1,2,3,4,5,6,7,8] (ct [8]) Z Z <| xmv Z Z Z <| xmv Z Z Z <| xnc Z Z Z <| xfa Z Z Z f228_7 <| xld Z Z Z o3 .z Z <| xbd Z Z Z l33 z33 Z <| xnc Z Z Z <| xfa Z Z Z f228_10 <| xsta Z Z Z Z m33 Z Z .z (Nat.le_of_ble_eq_true Z) .z pend0 ?_
   refine X.nil <| tx [0,1,2,3,4,5] (ct [5]) Z Z <| xmv Z Z Z <| xmv Z Z Z <| xnc Z Z Z <| xfa Z Z Z f228_7 <| xld Z Z Z o3 .z Z ?_
   refine xcf (H1 := []) (H2 := [_]) Z Z Z Z g222 Z (ct_scGive loc_ClR (x := ⟨i, v, from_, cycle, pa, pb, at_, w, (claim.step C.M l).1, add, ⟨1, 0, w, 0, 0⟩, .claims⟩) hM hm.i hm.w (by unfold u32R; omega)) loc_ScR pend0 <| X.nil ?_
   refine T.end0 Z (fun W D h => ?_)
   rw [show (⟨i, v, from_, cycle, pa, pb, at_, w, claim, add, event, .claims⟩ : Sc).step0 C.M l = _ from (if_pos hn0).trans (if_pos hb1)]
   exact ⟨D, ⟨rfl, rfl, h⟩, fun _ hk => hk⟩
  ·intro hb1
   refine T.skip <| T.end0 Z (fun W D h => ?_)
   rw [show (⟨i, v, from_, cycle, pa, pb, at_, w, claim, add, event, .claims⟩ : Sc).step0 C.M l = _ from (if_pos hn0).trans (if_neg (by rw [hb1]; exact Bool.false_ne_true))]
   obtain ⟨D1, h1, h2⟩ := blks_drop h
   exact ⟨D1, ⟨rfl, rfl, _, _, _, _, nx_slots rfl, h1⟩, h2⟩
set_option maxHeartbeats 1000000 in
theorem sc_last {C : Cx} {d : Nat} {m : Sc} {l : Wds} (hM : C.M.Ok) (hm : m.Ok C.M) (hr : ∀ a, u64R (ld l a)) (hn : m.next = .last) : ScRun C d m l (m.step0 C.M l).1 (m.step0 C.M l).2 := by
 obtain ⟨i, v, from_, cycle, pa, pb, at_, w, claim, add, event, nx⟩ := m
 obtain rfl : nx = .last := hn
 rintro cv av nv RN ⟨rfl, rfl⟩
 refine ⟨220, [ptr d], [], rfl, g220, ?_⟩
 refine Ct.of (vs := [ptr d, ptr C.s]) Tryz.func220 rfl Tryz.ntmps220 (by simp) (loc_blks loc_emp _) ?_
 intro w0 D0
 refine T.conv (fun w h => Sy.opens (H2 := [_]) h loc_emp) <| T.seq <| tx [0,1,2,3,4,5,6] (ct [6]) Z Z <| xmv Z Z Z <| xmv Z Z Z <| xnc Z Z Z <| xfa Z Z Z f228_0 <| xld Z Z Z o39 .z Z <| xcq Z Z Z Z g165 (ct_Work) loc_emp ?_
 refine xce Z Z Z Z g221 (ct_Add loc_emp) loc_emp pend0 <| X.nil <| T.seq <| T.any (ord := [0, 1, 2, 3, 4, 5, 6, 7, 8, 9, 10, 11, 12]) (lo := (fun _ => false)) (ef := (fun i => [12].contains i)) (by kernel_rfl) (fun _ h => h.drew) <| xmv Z Z Z <| xmv Z Z Z ?_
 refine xnc Z Z Z <| xfa Z Z Z f228_2 <| xld Z Z Z o3 .z Z <| xmv Z Z Z <| xnc Z Z Z <| xfa Z Z Z f228_3 <| xld Z Z Z o3 .z Z <| xbd Z Z Z l33 z33 Z <| xnc Z Z Z <| xfa Z Z Z f228_10 <| xsta Z Z Z Z m33 Z Z .z (Nat.le_of_ble_eq_true Z) .z pend0 <| X.nil ?_
 refine tx [0,1,2,3] (ct [3]) Z Z <| xmv Z Z Z <| xnc Z Z Z <| xfa Z Z Z f228_11 <| xst Z Z Z Z o130 Z .z Z .z pend0 <| X.nil <| T.end0 Z (fun W D h => ?_)
 exact ⟨D, ⟨rfl, rfl, _, _, _, _, ⟨rfl, rfl⟩, h⟩, fun _ hk => hk⟩
theorem sc_run {C : Cx} {d : Nat} {m : Sc} {l : Wds} (hM : C.M.Ok) (hm : m.Ok C.M) (hr : ∀ a, u64R (ld l a)) (hn : m.next ≠ .nil) : ScRun C d m l (m.step0 C.M l).1 (m.step0 C.M l).2 := by
 cases h : m.next with
 | nil => exact (hn h).elim
 | head => exact sc_head hM hm hr h
 | count => exact sc_count hM hm hr h
 | adds => exact sc_adds hM hm hr h
 | slot => exact sc_slot hM hm hr h
 | claims => exact sc_claims hM hm hr h
 | last => exact sc_last hM hm hr h
theorem Sc.noev_ok {M : MapM} {m : Sc} (hm : m.Ok M) : ({ m with event := ev0 } : Sc).Ok M := ⟨hm.i, hm.v, hm.from_, hm.cycle, hm.pa, hm.pb, hm.at_, hm.w, hm.claim, hm.add, hm.sl⟩
theorem ct_scStep {C : Cx} {d : Nat} {m : Sc} {l : Wds} (hM : C.M.Ok) (hm : m.Ok C.M) (hr : ∀ a, u64R (ld l a)) : Cv C 291 [ptr d, ptr C.s] l (ScR C d m) (.bool (decide ((m.step C.M l).1.next = .nil))) (m.step C.M l).2 (ScR C d (m.step C.M l).1) := by
 by_cases hn : m.next = .nil
 ·have e : m.step C.M l = ({ m with event := ev0 }, l) := by unfold Sc.step Sc.step0; rw [show ({ m with event := ev0 } : Sc).next = .nil from hn]
  rw [e, show decide (({ m with event := ev0 } : Sc).next = .nil) = true from decide_eq_true hn]
  exact sc_Nil hn
 ·exact sc_Step (sc_run hM (Sc.noev_ok hm) hr hn)
theorem Cl.new_ok {v c : Int} (h : u64R c) : (Cl.new v c).Ok := ⟨h⟩
theorem ends_ok {M : MapM} (hM : M.Ok) {i : Int} (h : 0 ≤ i ∧ i < M.markers) : (0 ≤ (M.ends i).entry ∧ (M.ends i).entry ≤ 200000) ∧ 0 ≤ (M.ends i).room ∧ (M.ends i).room ≤ 100 := by
 have h1 := hM.deques
 have h2 := hM.deque
 have h3 := hM.markers
 have h4 : 0 ≤ i * (2 + M.deque) := Int.mul_nonneg h.1 (by omega)
 have h5 : i * (2 + M.deque) ≤ 4 * 10 := Int.mul_le_mul (by omega) (by omega) (by omega) (by omega)
 refine ⟨?_, by show 0 ≤ M.deque; omega, by show M.deque ≤ 100; omega⟩
 show 0 ≤ M.Entry i 0 ∧ M.Entry i 0 ≤ 200000
 unfold MapM.Entry MapM.end_
 rw [if_neg (by omega)]
 split <;> omega
theorem Dq.push_ok {M : MapM} (hM : M.Ok) {i t : Int} (h : 0 ≤ i ∧ i < M.markers) (ht : u64R t) : (Dq.push (M.ends i) t).Ok := by
 have z : u64R 0 := by unfold u64R; omega
 have h1 := ends_ok hM h
 exact ⟨h1.1, h1.2, z, z, ht⟩
theorem Dq.pop_ok {M : MapM} (hM : M.Ok) {i : Int} (h : 0 ≤ i ∧ i < M.markers) : (Dq.pop (M.ends i)).Ok := by
 have z : u64R 0 := by unfold u64R; omega
 have h1 := ends_ok hM h
 exact ⟨h1.1, h1.2, z, z, z⟩
theorem Dq.steal_ok {M : MapM} (hM : M.Ok) {i : Int} (h : 0 ≤ i ∧ i < M.markers) : (Dq.steal (M.ends i)).Ok := by
 have z : u64R 0 := by unfold u64R; omega
 have h1 := ends_ok hM h
 exact ⟨h1.1, h1.2, z, z, z⟩
theorem Ad.new_ok {M : MapM} (hM : M.Ok) {i t : Int} (h : 0 ≤ i ∧ i < M.markers) (ht : u64R t) : (Ad.new M i t).Ok := ⟨ht, Dq.push_ok hM h ht, Pk.take_ok⟩
theorem bound_0 (a b : Int) (h : 0 ≤ b ∧ b ≤ 1000) : 0 ≤ bound 0 a b ∧ bound 0 a b ≤ 1000 := by unfold bound; omega
theorem piece_rng (s f ch : Int) : (0 ≤ pieceA s f ∧ pieceA s f ≤ 1000) ∧ 0 ≤ pieceB s f ch ∧ pieceB s f ch ≤ 1000 := by
 have h1 : 0 ≤ bound 0 s 1000 ∧ bound 0 s 1000 ≤ 1000 := bound_0 _ _ (by omega)
 exact ⟨bound_0 _ _ h1, bound_0 _ _ h1⟩
theorem slots_lt {x : Sc} (h : x.slots = .slot) : x.at_ < x.pb := by
 unfold Sc.slots at h
 split at h
 ·assumption
 ·cases h
theorem Sc.step_ok {M : MapM} (hM : M.Ok) {m : Sc} {l : Wds} (hm : m.Ok M) (hr : ∀ a, u64R (ld l a)) : (m.step M l).1.Ok M := by
 have h1 := Ad.step_ok (M := M) hm.add hr
 have h2 := Cl.step_ok (M := M) (l := l) hm.claim
 unfold Sc.step Sc.step0
 have give : ∀ (x : Sc) (v f : Int), x.Ok M → u32R v → u32R f → (x.give M v f).Ok M := fun x v f h hv hf => ⟨h.i, h.v, h.from_, h.cycle, h.pa, h.pb, h.at_, h.w, h.claim, Ad.new_ok hM h.i (pair_rng hv hf), fun h => nomatch h⟩
 split
 ·exact Sc.noev_ok hm
 ·have := piece_rng (min (ld l (M.Header m.v)) (M.Room m.v)) m.from_ M.chunk
  split
  ·exact ⟨hm.i, hm.v, hm.from_, hm.cycle, this.1, this.2, this.1, hm.w, hm.claim, hm.add, fun h => nomatch h⟩
  ·refine ⟨hm.i, hm.v, hm.from_, hm.cycle, this.1, this.2, this.1, hm.w, hm.claim, hm.add, fun h => ?_⟩
   simp only at h ⊢
   split at h
   ·assumption
   ·cases h
 ·rename_i hn
  have hn' : m.next = .count := hn
  exact give _ _ _ ⟨hm.i, hm.v, hm.from_, hm.cycle, hm.pa, hm.pb, hm.at_, hm.w, hm.claim, hm.add, fun h => by have h' : m.next = .slot := h; rw [hn'] at h'; cases h'⟩ hm.v (pb_u32 hm.pb)
 ·rename_i hn
  have hn' : m.next = .adds := hn
  split
  ·exact ⟨hm.i, hm.v, hm.from_, hm.cycle, hm.pa, hm.pb, hm.at_, hm.w, hm.claim, h1, fun h => slots_lt (x := m) h⟩
  ·exact ⟨hm.i, hm.v, hm.from_, hm.cycle, hm.pa, hm.pb, hm.at_, hm.w, hm.claim, h1, fun h => by have h' : m.next = .slot := h; rw [hn'] at h'; cases h'⟩
 ·rename_i hn
  have hlt := hm.sl hn
  have hat : 0 ≤ m.at_ + 1 ∧ m.at_ + 1 ≤ 1000 := by have := hm.pb; have := hm.at_; omega
  split
  ·rename_i hw
   have hN := hM.nodes
   have hw' : u32R (ld l (M.Slot m.v m.at_)) := by
    have := hw.1
    have := hw.2
    simp only at *
    unfold u32R
    omega
   exact ⟨hm.i, hm.v, hm.from_, hm.cycle, hm.pa, hm.pb, hat, hw', Cl.new_ok hm.cycle, hm.add, fun h => nomatch h⟩
  ·refine ⟨hm.i, hm.v, hm.from_, hm.cycle, hm.pa, hm.pb, hat, hm.w, hm.claim, hm.add, fun h => ?_⟩
   simp only at h ⊢
   split at h
   ·assumption
   ·cases h
 ·rename_i hn
  have hn' : m.next = .claims := hn
  split
  ·split
   ·exact give _ _ _ ⟨hm.i, hm.v, hm.from_, hm.cycle, hm.pa, hm.pb, hm.at_, hm.w, h2, hm.add, fun h => by have h' : m.next = .slot := h; rw [hn'] at h'; cases h'⟩ hm.w (by unfold u32R; omega)
   ·exact ⟨hm.i, hm.v, hm.from_, hm.cycle, hm.pa, hm.pb, hm.at_, hm.w, h2, hm.add, fun h => slots_lt (x := m) h⟩
  ·exact ⟨hm.i, hm.v, hm.from_, hm.cycle, hm.pa, hm.pb, hm.at_, hm.w, h2, hm.add, fun h => by have h' : m.next = .slot := h; rw [hn'] at h'; cases h'⟩
 ·exact ⟨hm.i, hm.v, hm.from_, hm.cycle, hm.pa, hm.pb, hm.at_, hm.w, hm.claim, hm.add, fun h => nomatch h⟩
theorem Sc.step_rng {M : MapM} {m : Sc} {l : Wds} (hm : m.Ok M) (hr : Rng l) : Rng (m.step M l).2 := by
 have h1 := Ad.step_rng (M := M) hm.add hr
 have h2 := Cl.step_rng (M := M) hm.claim hr
 unfold Sc.step Sc.step0
 split <;> (try split) <;> (try split) <;> first | exact hr | exact hr.fad | exact h1 | exact h2
set_option maxHeartbeats 1000000 in
theorem ct_scNew {C : Cx} {l : Wds} {i t c : Int} (ht : u64R t) : Cn C 142 [ptr C.m, .int .i64 i, .int .u64 t, .int .u64 c] l emp l (fun q => ScR C q (.new i t c)) := by
 refine Ct.of Tryz.func142 rfl Tryz.ntmps142 (by simp) loc_emp ?_
 intro w0 D0
 refine T.seq <| tx [0] nf Z Z <| xas Z Z Z <| X.nil <| T.seq <| tx [0,1,2,3,4,5,6] nf Z Z <| xmv Z Z Z <| xcq Z Z Z Z g144 (ct_Split loc_emp ht) loc_emp <| xmv Z Z Z <| xex Z Z Z Z <| xex Z Z Z Z <| xas Z Z Z <| xas Z Z Z <| X.nil <| T.seq ?_
 refine tx [0,1,2,3,4,5,6,7,8,9] (ct [8]) Z Z <| xmv Z Z Z <| xmv Z Z Z <| xmv Z Z Z <| xcvc Z Z Z u3_dInti64 u115_fun_true (wrap64i32 (hi_rng ht)) <| xmv Z Z Z <| xcvc Z Z Z u3_dInti64 u115_fun_true (wrap64i32 (lo_rng t)) <| xmv Z Z Z ?_
 refine xbd Z Z Z l228 z228 Z <| xbx Z Z Z Z (fun _ => pend0) (fun b0 => ?_)
 refine xas Z Z Z <| X.nil <| T.seq <| T.seq <| tx [0,1] nf Z Z <| xmv Z Z Z <| xnpn Z Z Z Z u39_dPtr <| X.nil <| T.yes Z <| tx [0,1,2,3,4,5] (ct [5]) Z Z <| xmv Z Z Z <| xmv Z Z Z <| xmf Z Z Z Z <| xnc Z Z Z <| xfa Z Z Z f228_11 ?_
 refine xst Z Z Z Z o130 Z .z Z .z pend0 <| X.nil <| T.seq <| tx [0,1] nf Z Z <| xmv Z Z Z <| xas Z Z Z <| X.nil <| T.ret1 Z (fun W D h => ?_)
 exact ⟨D, ⟨_, rfl, rfl, _, _, _, _, ⟨rfl, rfl⟩, h⟩, fun _ hk => hk⟩
theorem Sc.new_ok {M : MapM} {i t c : Int} (ht : u64R t) (hi : 0 ≤ i ∧ i < M.markers) (hc : u64R c) : (Sc.new i t c).Ok M := by
 have z : u64R 0 := by unfold u64R; omega
 have z2 : u32R 0 := by unfold u32R; omega
 exact ⟨hi, hi_rng ht, lo_rng t, hc, by simp [Sc.new], by simp [Sc.new], by simp [Sc.new], z2, ⟨z⟩, ⟨z, ⟨by simp [Sc.new, Dq.pop], by simp [Sc.new, Dq.pop], z, z, z⟩, Pk.take_ok⟩, fun h => nomatch h⟩
def Sk.cs (C : Cx) (x : Sk) (qv pv nv : Value) : List Value :=
 [ptr C.m, .int .i64 x.i, .int .i64 x.bag.packet, .int .i64 x.bag.at_, .int .i64 x.bag.many, .int .i64 x.draw, qv, pv, .int .u64 x.task, .bool x.found, nv]
def SkNx (C : Cx) (d : Nat) (x : Sk) (qv pv nv : Value) (RN : Asr) : Prop := match x.next with
 | .nil => nv = .nilFunc ∧ RN = emp
 | .own => nv = fm 106 d ∧ ∃ q, qv = ptr q ∧ RN = DqR q x.ends
 | .first => nv = fm 169 d ∧ RN = emp
 | .back => nv = fm 171 d ∧ ∃ q, pv = ptr q ∧ RN = PkR C q x.pack
 | .take => nv = fm 173 d ∧ ∃ q, pv = ptr q ∧ RN = PkR C q x.pack
 | .many => nv = fm 194 d ∧ ∃ q, pv = ptr q ∧ x.pack.next = .nil ∧ RN = PkR C q x.pack
 | .steal => nv = fm 197 d ∧ ∃ q, qv = ptr q ∧ RN = DqR q x.ends
theorem loc_SkNx {C : Cx} {d : Nat} {m : Sk} {qv pv : Value} (nv : Value) (RN : Asr) (h : SkNx C d m qv pv nv RN) : Loc RN := by
 unfold SkNx at h
 split at h <;> first
  | (obtain ⟨-, rfl⟩ := h; exact loc_emp)
  | (obtain ⟨-, q, -, rfl⟩ := h; first | exact loc_DqR | exact loc_PkR)
  | (obtain ⟨-, q, -, -, rfl⟩ := h; exact loc_PkR)
theorem Sk_is {C : Cx} {d : Nat} {m : Sk} {qv pv nv : Value} {RN : Asr} (h : SkNx C d m qv pv nv RN) : NxIs nv (decide (m.next = .nil)) := by
 unfold SkNx at h
 split at h <;> rename_i hn <;> rw [hn] <;> obtain ⟨rfl, -⟩ := h <;> first | exact .inl ⟨rfl, rfl⟩ | exact .inr ⟨_, _, _, rfl, rfl⟩
structure Sk.Ok (M : MapM) (m : Sk) : Prop where
 i : 0 ≤ m.i ∧ m.i < M.markers
 packet : u32R m.bag.packet
 at_ : 0 ≤ m.bag.at_ ∧ m.bag.at_ ≤ 4
 many : 0 ≤ m.bag.many ∧ m.bag.many ≤ 4
 ends : m.ends.Ok
 pack : m.pack.Ok
 task : u64R m.task
 fs : m.next = .first → m.bag.at_ < m.bag.many
theorem ne122 {p a m : Int} (h : ¬ (p = 0 ∧ a = 0 ∧ m = 0)) (w : World) : (binOp .neq 122 (.agg #[.int .i64 p, .int .i64 a, .int .i64 m]) (.agg #[.int .i64 0, .int .i64 0, .int .i64 0])).run Tryz.prog w = .ok (.bool true) w := by
 rcases int3 p with rfl | ⟨n, rfl⟩ | ⟨n, rfl⟩
 ·rcases int3 a with rfl | ⟨n, rfl⟩ | ⟨n, rfl⟩
  ·rcases int3 m with rfl | ⟨n, rfl⟩ | ⟨n, rfl⟩
   ·exact (h ⟨rfl, rfl, rfl⟩).elim
   ·kernel_rfl
   ·kernel_rfl
  ·kernel_rfl
  ·kernel_rfl
 ·kernel_rfl
 ·kernel_rfl
theorem eq122 (w : World) : (binOp .neq 122 (.agg #[.int .i64 0, .int .i64 0, .int .i64 0]) (.agg #[.int .i64 0, .int .i64 0, .int .i64 0])).run Tryz.prog w = .ok (.bool false) w := by kernel_rfl
theorem gd122 {x y : Operand} {u v : Array Value} (w : World) : (eqGuard .neq 122 x y (.agg u) (.agg v)).run Tryz.prog w = .ok () w := by kernel_rfl
theorem run_remi {t : Nat} {a b : Int} (hb : b ≠ 0) (w : World) : (binOp .rem t (.int .i64 a) (.int .i64 b)).run Tryz.prog w = .ok (.int .i64 (a.tmod b)) w := by
 simp [binOp, Op.intDiv, go_sem, hb]
theorem tm_eq {a n : Int} (hn : 0 < n) : ((a.tmod n) + n).tmod n = a % n := by
 have h1 := Int.tmod_lt_of_pos a hn
 have h2 : -n < a.tmod n := by
  have := Int.lt_tmod_of_pos a hn
  omega
 rw [Int.tmod_eq_emod_of_nonneg (by omega), Int.add_emod_right]
 have h3 := Int.mul_tdiv_add_tmod a n
 have h4 : a.tmod n = a + n * (- a.tdiv n) := by
  have e : n * (- a.tdiv n) = - (n * a.tdiv n) := Int.mul_neg ..
  omega
 rw [h4, Int.add_mul_emod_self_left]
theorem victim_rng {n i d : Int} (hi : 0 ≤ i ∧ i < n) (h : victim n i d ≥ 0) : 0 ≤ victim n i d ∧ victim n i d < n := by
 refine ⟨h, ?_⟩
 unfold victim at *
 have h1 := Int.emod_lt_of_pos d (show 0 < n by omega)
 have h2 := Int.emod_lt_of_pos (d % n + 1) (show 0 < n by omega)
 split
 ·omega
 ·split <;> omega
def SkR (C : Cx) (d : Nat) (m : Sk) : Asr := fun D w => ∃ qv : Value, ∃ pv : Value, Mch 182 d (m.cs C qv pv) (SkNx C d m qv pv) D w
theorem loc_SkR {C : Cx} {d : Nat} {m : Sk} : Loc (SkR C d m) := loc_ex fun _ => loc_ex fun _ => loc_Mch loc_SkNx
def SkRun (C : Cx) (d : Nat) (m : Sk) (l : Wds) (m' : Sk) (l' : Wds) : Prop := ∀ (qv : Value) (pv : Value) nv RN, SkNx C d m qv pv nv RN → ∃ fid fs cs, nv = .func (.func fid) (List.toArray fs) (List.toArray cs) ∧ fnB fid = true ∧ Cv C fid (fs ++ [ptr C.s] ++ cs) l (blks [⟨d, 182, m.cs C qv pv nv⟩] RN) (.tuple #[]) l' (SkR C d m')
theorem f122_0 : fld 122 0 0 = true := by kernel_rfl
theorem f122_1 : fld 122 1 1 = true := by kernel_rfl
theorem f122_2 : fld 122 2 2 = true := by kernel_rfl
theorem f182_0 : fld 182 0 0 = true := by kernel_rfl
theorem f182_1 : fld 182 1 1 = true := by kernel_rfl
theorem f182_2 : fld 182 2 2 = true := by kernel_rfl
theorem f182_3 : fld 182 3 5 = true := by kernel_rfl
theorem f182_4 : fld 182 4 6 = true := by kernel_rfl
theorem f182_5 : fld 182 5 7 = true := by kernel_rfl
theorem f182_6 : fld 182 6 8 = true := by kernel_rfl
theorem f182_7 : fld 182 7 9 = true := by kernel_rfl
theorem f182_8 : fld 182 8 10 = true := by kernel_rfl
theorem f24_1 : fld 24 1 5 = true := by kernel_rfl
theorem g104 : fnB 104 = true := by kernel_rfl
theorem g106 : fnB 106 = true := by kernel_rfl
theorem g140 : fnB 140 = true := by kernel_rfl
theorem g141 : fnB 141 = true := by kernel_rfl
theorem g169 : fnB 169 = true := by kernel_rfl
theorem g170 : fnB 170 = true := by kernel_rfl
theorem g171 : fnB 171 = true := by kernel_rfl
theorem g172 : fnB 172 = true := by kernel_rfl
theorem g173 : fnB 173 = true := by kernel_rfl
theorem g193 : fnB 193 = true := by kernel_rfl
theorem g194 : fnB 194 = true := by kernel_rfl
theorem g195 : fnB 195 = true := by kernel_rfl
theorem g196 : fnB 196 = true := by kernel_rfl
theorem g197 : fnB 197 = true := by kernel_rfl
theorem l122 : layB 122 [(0, 1), (1, 1), (2, 1)] = true := by kernel_rfl
theorem l182 : layB 182 [(0, 1), (1, 1), (2, 3), (5, 1), (6, 1), (7, 1), (8, 1), (9, 1), (10, 1)] = true := by kernel_rfl
theorem m122 : many 122 3 = true := by kernel_rfl
theorem t24_1 : fldT 24 1 3 = true := by kernel_rfl
theorem u118_dPtr : undIs 118 (dPtr) = true := by kernel_rfl
theorem z122 : zer 122 = some [.int .i64 0, .int .i64 0, .int .i64 0] := by kernel_rfl
theorem z182 : zer 182 = some [.pointer none, .int .i64 0, .int .i64 0, .int .i64 0, .int .i64 0, .int .i64 0, .pointer none, .pointer none, .int .u64 0, .bool false, .nilFunc] := by kernel_rfl
set_option maxHeartbeats 1000000 in
theorem sk_Step {C : Cx} {d : Nat} {m m' : Sk} {l l' : Wds} (hrun : SkRun C d m l m' l') : Cv C 107 [ptr d, ptr C.s] l (SkR C d m) (.bool (decide (m'.next = .nil))) l' (SkR C d m') := by
 refine Ct.of Tryz.func107 rfl Tryz.ntmps107 (by simp) loc_SkR ?_
 intro w0 D0
 refine T.ex (fun _ => loc_ex fun _ => loc_Mch loc_SkNx) ?_
 intro qv
 refine T.ex (fun _ => loc_Mch loc_SkNx) ?_
 intro pv
 refine T.mch (H := []) loc_SkNx ?_
 intro nv RN hN hl
 obtain ⟨fid, fs, cs, rfl, hg, hc⟩ := hrun qv pv nv RN hN
 refine T.seq <| tx [0] nf Z Z <| xas Z Z Z <| X.nil <| T.seq <| T.seq <| tx [0,1,2,3,4,5,6,7,8] nf Z Z <| xmv Z Z Z <| xnp Z Z Z Z u118_dPtr <| xmv Z Z Z <| xmv Z Z Z <| xnc Z Z Z <| xfa Z Z Z f182_8 <| xld Z Z Z o130 .z Z <| xnf Z Z Z Z u130_dFun ?_
 refine xpk Z Z Z Z <| X.nil <| T.no Z <| T.skip <| T.seq <| tx [0,1,2,3,4,5] (ct [5]) Z Z <| xmv Z Z Z <| xnc Z Z Z <| xfa Z Z Z f182_8 <| xld Z Z Z o130 .z Z <| xmv Z Z Z <| xcf (H1 := []) (H2 := [_]) Z Z Z Z hg Z hc loc_SkR pend0 <| X.nil <| T.seq ?_
 refine T.ex (fun _ => loc_ex fun _ => loc_Mch loc_SkNx) ?_
 intro qv'
 refine T.ex (fun _ => loc_Mch loc_SkNx) ?_
 intro pv'
 refine T.mch loc_SkNx ?_
 intro nv' RN' hN' hl'
 refine tx [0,1,2,3,4,5] nf Z Z <| xmv Z Z Z <| xnc Z Z Z <| xfa Z Z Z f182_8 <| xld Z Z Z o130 .z Z <| xbo Z Z Z Z (nx_gd (Sk_is hN')) (nx_eq (Sk_is hN') u130_dFun) <| xas Z Z Z <| X.nil <| T.ret1 Z (fun W D h => ?_)
 exact ⟨D, ⟨rfl, rfl, qv', pv', nv', RN', hN', h⟩, fun _ hk => hk⟩
set_option maxHeartbeats 1000000 in
theorem sk_Step0 {C : Cx} {d : Nat} {m : Sk} {l : Wds} (hn : m.next = .nil) : Cv C 107 [ptr d, ptr C.s] l (SkR C d m) (.bool true) l (SkR C d m) := by
 refine Ct.of Tryz.func107 rfl Tryz.ntmps107 (by simp) loc_SkR ?_
 intro w0 D0
 refine T.ex (fun _ => loc_ex fun _ => loc_Mch loc_SkNx) ?_
 intro qv
 refine T.ex (fun _ => loc_Mch loc_SkNx) ?_
 intro pv
 refine T.mch (H := []) loc_SkNx ?_
 intro nv RN hN hl
 have hi := Sk_is hN
 rw [hn] at hi
 refine T.seq <| tx [0] nf Z Z <| xas Z Z Z <| X.nil <| T.seq <| T.seq <| tx [0,1,2,3,4,5,6,7,8] nf Z Z <| xmv Z Z Z <| xnp Z Z Z Z u118_dPtr <| xmv Z Z Z <| xmv Z Z Z <| xnc Z Z Z <| xfa Z Z Z f182_8 <| xld Z Z Z o130 .z Z ?_
 refine xbo Z Z Z Z (nx_gd hi) (nx_eq hi u130_dFun) <| xpk Z Z Z Z <| X.nil <| T.yes Z <| T.seq <| tx [0] nf Z Z <| xas Z Z Z <| X.nil <| T.ret1 Z (fun W D h => ?_)
 exact ⟨D, ⟨rfl, rfl, qv, pv, nv, RN, hN, h⟩, fun _ hk => hk⟩
theorem at4 {x : Int} (h : 0 ≤ x ∧ x ≤ 4) : -9223372036854775808 ≤ x + 1 ∧ x + 1 ≤ 9223372036854775807 := by omega
theorem min4_in {x : Int} (h : u64R x) : -9223372036854775808 ≤ min x 4 ∧ min x 4 ≤ 9223372036854775807 := by have := h.1; omega
theorem mk_le {M : MapM} (hM : M.Ok) : M.markers ≤ 1000 := by have := hM.markers; omega
set_option maxHeartbeats 1000000 in
theorem ct_Victim {C : Cx} {l : Wds} {n i d : Int} (hn : n ≤ 1000) : Cv C 195 [.int .i64 n, .int .i64 i, .int .i64 d] l emp (.int .i64 (victim n i d)) l emp := by
 refine Ct.of Tryz.func195 rfl Tryz.ntmps195 (by simp) loc_emp ?_
 intro w0 D0
 refine T.seq <| tx [0] nf Z Z <| xas Z Z Z <| X.nil <| T.seq <| T.seq <| tx [0,1] nf Z Z <| xmv Z Z Z <| xcm Z Z Z Z Z Z <| X.nil <| T.cond Z ?_ ?_
 ·intro hb0
  refine T.seq <| tx [0] nf Z Z <| xas Z Z Z <| X.nil <| T.ret1 Z (fun W D h => ?_)
  rw [show victim n i d = _ from if_pos (of_decide_eq_true hb0)]
  exact ⟨D, ⟨rfl, rfl, h⟩, fun _ hk => hk⟩
 ·intro hb0
  have hc : ¬ n < 2 := of_decide_eq_false hb0
  have hn0 : n ≠ 0 := by omega
  have h1 := Int.emod_lt_of_pos d (show 0 < n by omega)
  have h0 := Int.emod_nonneg d hn0
  have h3 := Int.tmod_lt_of_pos d (show 0 < n by omega)
  have h4 := Int.lt_tmod_of_pos d (show 0 < n by omega)
  have hA : -9223372036854775808 ≤ d.tmod n + n ∧ d.tmod n + n ≤ 9223372036854775807 := by omega
  have hB : -9223372036854775808 ≤ d % n + 1 ∧ d % n + 1 ≤ 9223372036854775807 := by omega
  refine T.skip <| T.seq <| tx [0,1,2,3,4,5,6,7] nf Z Z <| xmv Z Z Z <| xmv Z Z Z <| xbo Z Z Z Z (fun w => run_guard_int w) (fun w => run_remi hn0 w) <| xmv Z Z Z <| xarc (c := d.tmod n + n) Z Z Z Z Z (wrap64i hA) <| xmv Z Z Z ?_
  refine xbo (v := .int .i64 (d % n)) Z Z Z Z (fun w => run_guard_int w) (fun w => by rw [run_remi hn0 w, tm_eq (by omega)]) <| xas Z Z Z <| X.nil <| T.seq <| T.seq <| tx [0,1,2] nf Z Z <| xmv Z Z Z <| xmv Z Z Z <| xcm Z Z Z Z Z Z <| X.nil <| T.cond Z ?_ ?_
  ·intro hb1
   refine tx [0,1,2,3,4] nf Z Z <| xmv Z Z Z <| xarc (c := d % n + 1) Z Z Z Z Z (wrap64i hB) <| xmv Z Z Z ?_
   refine xbo (v := .int .i64 ((d % n + 1) % n)) Z Z Z Z (fun w => run_guard_int w) (fun w => by rw [run_remi hn0 w, Int.tmod_eq_emod_of_nonneg (by omega)]) <| xas Z Z Z <| X.nil <| T.seq <| tx [0,1] nf Z Z <| xmv Z Z Z <| xas Z Z Z <| X.nil ?_
   refine T.ret1 Z (fun W D h => ?_)
   rw [show victim n i d = _ from (if_neg hc).trans (if_pos (eq_of_beq hb1))]
   exact ⟨D, ⟨rfl, rfl, h⟩, fun _ hk => hk⟩
  ·intro hb1
   refine T.skip <| T.seq <| tx [0,1] nf Z Z <| xmv Z Z Z <| xas Z Z Z <| X.nil <| T.ret1 Z (fun W D h => ?_)
   rw [show victim n i d = _ from (if_neg hc).trans (if_neg (ne_of_beq_false hb1))]
   exact ⟨D, ⟨rfl, rfl, h⟩, fun _ hk => hk⟩
set_option maxHeartbeats 1000000 in
theorem ct_skend {C : Cx} {l : Wds} {d : Nat} {Hx : List Bk} {R : Asr} (hl : Loc R) {a0 a1 a2 a3 a4 a5 a6 a7 a8 a9 a10 : Value} {t : Int} : Cv C 140 [ptr d, .int .u64 t] l (blks (⟨d, 182, [a0, a1, a2, a3, a4, a5, a6, a7, a8, a9, a10]⟩ :: Hx) R) (.tuple #[]) l (blks (⟨d, 182, [a0, a1, a2, a3, a4, a5, a6, a7, .int .u64 t, .bool true, .nilFunc]⟩ :: Hx) R) := by
 refine Ct.of Tryz.func140 rfl Tryz.ntmps140 (by simp) (loc_blks hl _) ?_
 intro w0 D0
 refine T.conv (fun w h => Sy.opens (H2 := _ :: Hx) h hl) <| tx [0,1,2,3,4,5,6,7,8,9,10,11,12] (ct [6,9,12]) Z Z <| xmv Z Z Z <| xmv Z Z Z <| xmv Z Z Z <| xmv Z Z Z <| xnc Z Z Z <| xfa Z Z Z f182_6 <| xst Z Z Z Z o90 Z .z Z .z pend0 <| xnc Z Z Z ?_
 refine xfa Z Z Z f182_7 <| xst Z Z Z Z o4 Z .z Z .z pend0 <| xnc Z Z Z <| xfa Z Z Z f182_8 <| xst Z Z Z Z o130 Z .z Z .z pend0 <| X.nil <| T.end0 Z (fun W D h => ?_)
 exact ⟨D, ⟨rfl, rfl, h⟩, fun _ hk => hk⟩
set_option maxHeartbeats 1000000 in
theorem ct_skUnpack {C : Cx} {l : Wds} {d : Nat} {R : Asr} (hl : Loc R) {m : Sk} {qv pv nv : Value} (hp : u32R m.bag.packet) : Cv C 141 [ptr d] l (blks [⟨d, 182, m.cs C qv pv nv⟩] R) (.tuple #[]) l (SkR C d (m.unpack C.M)) := by
 obtain ⟨i, ⟨bp, ba, bm⟩, draw, ends, pack, task, found, nx⟩ := m
 refine Ct.of Tryz.func141 rfl Tryz.ntmps141 (by simp) (loc_blks hl _) ?_
 intro w0 D0
 refine T.conv (fun w h => Sy.opens (H2 := [_]) h hl) <| T.seq <| T.seq ?_
 by_cases hq : bp = 0
 ·skip
  refine T.any (ord := [0, 1, 2, 3, 4, 5, 6, 7, 8, 9, 10, 11, 12, 13, 14, 15, 16, 17, 18]) (lo := (fun _ => false)) (ef := (fun _ => false)) (by kernel_rfl) (fun _ h => h.drew) <| xmv Z Z Z <| xnc Z Z Z <| xfa Z Z Z f182_2 <| xfa Z Z Z f122_0 ?_
  refine xld Z Z Z o3 .z Z <| xcm (c := false) Z Z Z Z Z (by simp [cmpI, hq]) <| xmv Z Z Z <| x_skip Z Z Z <| x_skip Z Z Z <| x_skip Z Z Z <| x_skip Z Z Z <| x_skip Z Z Z <| x_skip Z Z Z <| x_skip Z Z Z <| x_skip Z Z Z <| x_skip Z Z Z <| x_skip Z Z Z ?_
  refine x_skip Z Z Z <| xpk Z Z Z Z <| X.nil <| T.no Z <| T.skip <| T.seq <| tx [0,1,2,3,4,5] nf Z Z <| xmv Z Z Z <| xnc Z Z Z <| xfa Z Z Z f182_2 <| xfa Z Z Z f122_0 <| xld Z Z Z o3 .z Z <| xas Z Z Z <| X.nil <| T.seq <| T.seq ?_
  by_cases hz : bp = 0 ∧ ba = 0 ∧ bm = 0
  ·obtain ⟨rfl, rfl, rfl⟩ := hz
   refine tx [0,1,2,3,4,5] nf Z Z <| xmv Z Z Z <| xnc Z Z Z <| xfa Z Z Z f182_2 <| xlda Z Z Z m122 .z Z <| xbd Z Z Z l122 z122 Z <| xbo Z Z Z Z gd122 eq122 <| X.nil <| T.no Z <| T.skip <| T.seq <| tx [0,1,2,3,4,5,6,7,8,9] (ct [6,9]) Z Z <| xmv Z Z Z ?_
   refine xmv Z Z Z <| xnc Z Z Z <| xfa Z Z Z f182_0 <| xld Z Z Z o39 .z Z <| xmv Z Z Z <| xcn Z Z Z Z g170 (ct_pkBack hp) (fun _ => loc_PkR) (fun _ => pend0) (fun q0 => ?_)
   refine xnc Z Z Z <| xfa Z Z Z f182_5 <| xst Z Z Z Z o180 Z .z Z .z pend0 <| X.nil <| T.seq <| tx [0,1,2,3,4,5] (ct [5]) Z Z <| xmv Z Z Z <| xmv Z Z Z <| xmf Z Z Z Z <| xnc Z Z Z <| xfa Z Z Z f182_8 <| xst Z Z Z Z o130 Z .z Z .z pend0 <| X.nil <| T.seq ?_
   refine tx [0,1,2,3,4,5,6] nf Z Z <| xmv Z Z Z <| xnc Z Z Z <| xfa Z Z Z f182_0 <| xld Z Z Z o39 .z Z <| xmv Z Z Z <| xcq Z Z Z Z g54 (ct_Link) loc_PkR <| xcm Z Z Z Z Z Z <| X.nil <| T.cond Z ?_ ?_
   ·intro hb2
    refine T.seq <| tx [0,1,2,3,4,5,6,7,8] (ct [5,8]) Z Z <| xmv Z Z Z <| xmv Z Z Z <| xnc Z Z Z <| xfa Z Z Z f182_0 <| xld Z Z Z o39 .z Z <| xcn Z Z Z Z g172 (ct_pkTake) (fun _ => loc_PkR) (fun _ => pend0) (fun q1 => ?_)
    refine xnc Z Z Z <| xfa Z Z Z f182_5 <| xst Z Z Z Z o180 Z .z Z .z pend0 <| X.nil <| tx [0,1,2,3,4,5] (ct [5]) Z Z <| xmv Z Z Z <| xmv Z Z Z <| xmf Z Z Z Z <| xnc Z Z Z <| xfa Z Z Z f182_8 <| xst Z Z Z Z o130 Z .z Z .z pend0 <| X.nil ?_
    refine T.end0 Z (fun W D h => ?_)
    rw [show (⟨i, ⟨0, 0, 0⟩, draw, ends, pack, task, found, nx⟩ : Sk).unpack C.M = _ from (if_neg (fun h => h.1 rfl)).trans (if_pos (show C.M.Link 0 < 0 from of_decide_eq_true hb2))]
    exact ⟨D, ⟨rfl, rfl, _, _, _, _, ⟨rfl, _, rfl, rfl⟩, h⟩, fun _ hk => hk⟩
   ·intro hb2
    refine T.skip <| T.end0 Z (fun W D h => ?_)
    rw [show (⟨i, ⟨0, 0, 0⟩, draw, ends, pack, task, found, nx⟩ : Sk).unpack C.M = _ from (if_neg (fun h => h.1 rfl)).trans (if_neg (show ¬ C.M.Link 0 < 0 from of_decide_eq_false hb2))]
    exact ⟨D, ⟨rfl, rfl, _, _, _, _, ⟨rfl, _, rfl, rfl⟩, h⟩, fun _ hk => hk⟩
  ·skip
   refine tx [0,1,2,3,4,5] nf Z Z <| xmv Z Z Z <| xnc Z Z Z <| xfa Z Z Z f182_2 <| xlda Z Z Z m122 .z Z <| xbd Z Z Z l122 z122 Z <| xbo Z Z Z Z gd122 (ne122 hz) <| X.nil <| T.yes Z <| tx [0,1,2,3,4] (ct [4]) Z Z <| xmv Z Z Z <| xbd Z Z Z l122 z122 Z ?_
   refine xnc Z Z Z <| xfa Z Z Z f182_2 <| xsta Z Z Z Z m122 Z Z .z (Nat.le_of_ble_eq_true Z) .z pend0 <| X.nil <| T.seq <| tx [0,1,2,3,4,5,6,7,8,9] (ct [6,9]) Z Z <| xmv Z Z Z <| xmv Z Z Z <| xnc Z Z Z <| xfa Z Z Z f182_0 <| xld Z Z Z o39 .z Z ?_
   refine xmv Z Z Z <| xcn Z Z Z Z g170 (ct_pkBack hp) (fun _ => loc_PkR) (fun _ => pend0) (fun q2 => ?_)
   refine xnc Z Z Z <| xfa Z Z Z f182_5 <| xst Z Z Z Z o180 Z .z Z .z pend0 <| X.nil <| T.seq <| tx [0,1,2,3,4,5] (ct [5]) Z Z <| xmv Z Z Z <| xmv Z Z Z <| xmf Z Z Z Z <| xnc Z Z Z <| xfa Z Z Z f182_8 <| xst Z Z Z Z o130 Z .z Z .z pend0 <| X.nil <| T.seq ?_
   refine tx [0,1,2,3,4,5,6] nf Z Z <| xmv Z Z Z <| xnc Z Z Z <| xfa Z Z Z f182_0 <| xld Z Z Z o39 .z Z <| xmv Z Z Z <| xcq Z Z Z Z g54 (ct_Link) loc_PkR <| xcm Z Z Z Z Z Z <| X.nil <| T.cond Z ?_ ?_
   ·intro hb2
    refine T.seq <| tx [0,1,2,3,4,5,6,7,8] (ct [5,8]) Z Z <| xmv Z Z Z <| xmv Z Z Z <| xnc Z Z Z <| xfa Z Z Z f182_0 <| xld Z Z Z o39 .z Z <| xcn Z Z Z Z g172 (ct_pkTake) (fun _ => loc_PkR) (fun _ => pend0) (fun q3 => ?_)
    refine xnc Z Z Z <| xfa Z Z Z f182_5 <| xst Z Z Z Z o180 Z .z Z .z pend0 <| X.nil <| tx [0,1,2,3,4,5] (ct [5]) Z Z <| xmv Z Z Z <| xmv Z Z Z <| xmf Z Z Z Z <| xnc Z Z Z <| xfa Z Z Z f182_8 <| xst Z Z Z Z o130 Z .z Z .z pend0 <| X.nil ?_
    refine T.end0 Z (fun W D h => ?_)
    rw [show (⟨i, ⟨bp, ba, bm⟩, draw, ends, pack, task, found, nx⟩ : Sk).unpack C.M = _ from (if_neg (fun h => h.1 hq)).trans (if_pos (show C.M.Link bp < 0 from of_decide_eq_true hb2))]
    exact ⟨D, ⟨rfl, rfl, _, _, _, _, ⟨rfl, _, rfl, rfl⟩, h⟩, fun _ hk => hk⟩
   ·intro hb2
    refine T.skip <| T.end0 Z (fun W D h => ?_)
    rw [show (⟨i, ⟨bp, ba, bm⟩, draw, ends, pack, task, found, nx⟩ : Sk).unpack C.M = _ from (if_neg (fun h => h.1 hq)).trans (if_neg (show ¬ C.M.Link bp < 0 from of_decide_eq_false hb2))]
    exact ⟨D, ⟨rfl, rfl, _, _, _, _, ⟨rfl, _, rfl, rfl⟩, h⟩, fun _ hk => hk⟩
 ·skip
  refine T.any (ord := [0, 1, 2, 3, 4, 5, 6, 7, 8, 9, 10, 11, 12, 13, 14, 15, 16, 17, 18]) (lo := (fun _ => false)) (ef := (fun _ => false)) (by kernel_rfl) (fun _ h => h.drew) <| xmv Z Z Z <| xnc Z Z Z <| xfa Z Z Z f182_2 <| xfa Z Z Z f122_0 ?_
  refine xld Z Z Z o3 .z Z <| xcm (c := true) Z Z Z Z Z (by simp [cmpI, hq]) <| xmv Z Z Z <| xmv Z Z Z <| xnc Z Z Z <| xfa Z Z Z f182_2 <| xfa Z Z Z f122_1 <| xld Z Z Z o3 .z Z <| xmv Z Z Z <| xnc Z Z Z <| xfa Z Z Z f182_2 <| xfa Z Z Z f122_2 ?_
  refine xld Z Z Z o3 .z Z <| xcm Z Z Z Z Z Z <| xpk Z Z Z Z <| X.nil <| T.cond Z ?_ ?_
  ·intro hb1
   refine T.seq <| tx [0,1,2,3,4,5] (ct [5]) Z Z <| xmv Z Z Z <| xmv Z Z Z <| xmf Z Z Z Z <| xnc Z Z Z <| xfa Z Z Z f182_8 <| xst Z Z Z Z o130 Z .z Z .z pend0 <| X.nil <| T.ret0 Z (fun W D h => ?_)
   rw [show (⟨i, ⟨bp, ba, bm⟩, draw, ends, pack, task, found, nx⟩ : Sk).unpack C.M = _ from if_pos ⟨hq, of_decide_eq_true hb1⟩]
   obtain ⟨D1, h1, h2⟩ := blks_drop h
   exact ⟨D1, ⟨rfl, rfl, _, _, _, _, ⟨rfl, rfl⟩, h1⟩, h2⟩
  ·intro hb1
   refine T.skip <| T.seq <| tx [0,1,2,3,4,5] nf Z Z <| xmv Z Z Z <| xnc Z Z Z <| xfa Z Z Z f182_2 <| xfa Z Z Z f122_0 <| xld Z Z Z o3 .z Z <| xas Z Z Z <| X.nil <| T.seq <| T.seq ?_
   by_cases hz : bp = 0 ∧ ba = 0 ∧ bm = 0
   ·obtain ⟨rfl, rfl, rfl⟩ := hz
    refine tx [0,1,2,3,4,5] nf Z Z <| xmv Z Z Z <| xnc Z Z Z <| xfa Z Z Z f182_2 <| xlda Z Z Z m122 .z Z <| xbd Z Z Z l122 z122 Z <| xbo Z Z Z Z gd122 eq122 <| X.nil <| T.no Z <| T.skip <| T.seq <| tx [0,1,2,3,4,5,6,7,8,9] (ct [6,9]) Z Z <| xmv Z Z Z ?_
    refine xmv Z Z Z <| xnc Z Z Z <| xfa Z Z Z f182_0 <| xld Z Z Z o39 .z Z <| xmv Z Z Z <| xcn Z Z Z Z g170 (ct_pkBack hp) (fun _ => loc_PkR) (fun _ => pend0) (fun q4 => ?_)
    refine xnc Z Z Z <| xfa Z Z Z f182_5 <| xst Z Z Z Z o180 Z .z Z .z pend0 <| X.nil <| T.seq <| tx [0,1,2,3,4,5] (ct [5]) Z Z <| xmv Z Z Z <| xmv Z Z Z <| xmf Z Z Z Z <| xnc Z Z Z <| xfa Z Z Z f182_8 <| xst Z Z Z Z o130 Z .z Z .z pend0 <| X.nil ?_
    refine T.seq <| tx [0,1,2,3,4,5,6] nf Z Z <| xmv Z Z Z <| xnc Z Z Z <| xfa Z Z Z f182_0 <| xld Z Z Z o39 .z Z <| xmv Z Z Z <| xcq Z Z Z Z g54 (ct_Link) loc_PkR <| xcm Z Z Z Z Z Z <| X.nil <| T.cond Z ?_ ?_
    ·intro hb3
     refine T.seq <| tx [0,1,2,3,4,5,6,7,8] (ct [5,8]) Z Z <| xmv Z Z Z <| xmv Z Z Z <| xnc Z Z Z <| xfa Z Z Z f182_0 <| xld Z Z Z o39 .z Z <| xcn Z Z Z Z g172 (ct_pkTake) (fun _ => loc_PkR) (fun _ => pend0) (fun q5 => ?_)
     refine xnc Z Z Z <| xfa Z Z Z f182_5 <| xst Z Z Z Z o180 Z .z Z .z pend0 <| X.nil <| tx [0,1,2,3,4,5] (ct [5]) Z Z <| xmv Z Z Z <| xmv Z Z Z <| xmf Z Z Z Z <| xnc Z Z Z <| xfa Z Z Z f182_8 <| xst Z Z Z Z o130 Z .z Z .z pend0 <| X.nil ?_
     refine T.end0 Z (fun W D h => ?_)
     rw [show (⟨i, ⟨0, 0, 0⟩, draw, ends, pack, task, found, nx⟩ : Sk).unpack C.M = _ from (if_neg (fun h => h.1 rfl)).trans (if_pos (show C.M.Link 0 < 0 from of_decide_eq_true hb3))]
     exact ⟨D, ⟨rfl, rfl, _, _, _, _, ⟨rfl, _, rfl, rfl⟩, h⟩, fun _ hk => hk⟩
    ·intro hb3
     refine T.skip <| T.end0 Z (fun W D h => ?_)
     rw [show (⟨i, ⟨0, 0, 0⟩, draw, ends, pack, task, found, nx⟩ : Sk).unpack C.M = _ from (if_neg (fun h => h.1 rfl)).trans (if_neg (show ¬ C.M.Link 0 < 0 from of_decide_eq_false hb3))]
     exact ⟨D, ⟨rfl, rfl, _, _, _, _, ⟨rfl, _, rfl, rfl⟩, h⟩, fun _ hk => hk⟩
   ·skip
    refine tx [0,1,2,3,4,5] nf Z Z <| xmv Z Z Z <| xnc Z Z Z <| xfa Z Z Z f182_2 <| xlda Z Z Z m122 .z Z <| xbd Z Z Z l122 z122 Z <| xbo Z Z Z Z gd122 (ne122 hz) <| X.nil <| T.yes Z <| tx [0,1,2,3,4] (ct [4]) Z Z <| xmv Z Z Z <| xbd Z Z Z l122 z122 Z ?_
    refine xnc Z Z Z <| xfa Z Z Z f182_2 <| xsta Z Z Z Z m122 Z Z .z (Nat.le_of_ble_eq_true Z) .z pend0 <| X.nil <| T.seq <| tx [0,1,2,3,4,5,6,7,8,9] (ct [6,9]) Z Z <| xmv Z Z Z <| xmv Z Z Z <| xnc Z Z Z <| xfa Z Z Z f182_0 <| xld Z Z Z o39 .z Z ?_
    refine xmv Z Z Z <| xcn Z Z Z Z g170 (ct_pkBack hp) (fun _ => loc_PkR) (fun _ => pend0) (fun q6 => ?_)
    refine xnc Z Z Z <| xfa Z Z Z f182_5 <| xst Z Z Z Z o180 Z .z Z .z pend0 <| X.nil <| T.seq <| tx [0,1,2,3,4,5] (ct [5]) Z Z <| xmv Z Z Z <| xmv Z Z Z <| xmf Z Z Z Z <| xnc Z Z Z <| xfa Z Z Z f182_8 <| xst Z Z Z Z o130 Z .z Z .z pend0 <| X.nil ?_
    refine T.seq <| tx [0,1,2,3,4,5,6] nf Z Z <| xmv Z Z Z <| xnc Z Z Z <| xfa Z Z Z f182_0 <| xld Z Z Z o39 .z Z <| xmv Z Z Z <| xcq Z Z Z Z g54 (ct_Link) loc_PkR <| xcm Z Z Z Z Z Z <| X.nil <| T.cond Z ?_ ?_
    ·intro hb3
     refine T.seq <| tx [0,1,2,3,4,5,6,7,8] (ct [5,8]) Z Z <| xmv Z Z Z <| xmv Z Z Z <| xnc Z Z Z <| xfa Z Z Z f182_0 <| xld Z Z Z o39 .z Z <| xcn Z Z Z Z g172 (ct_pkTake) (fun _ => loc_PkR) (fun _ => pend0) (fun q7 => ?_)
     refine xnc Z Z Z <| xfa Z Z Z f182_5 <| xst Z Z Z Z o180 Z .z Z .z pend0 <| X.nil <| tx [0,1,2,3,4,5] (ct [5]) Z Z <| xmv Z Z Z <| xmv Z Z Z <| xmf Z Z Z Z <| xnc Z Z Z <| xfa Z Z Z f182_8 <| xst Z Z Z Z o130 Z .z Z .z pend0 <| X.nil ?_
     refine T.end0 Z (fun W D h => ?_)
     rw [show (⟨i, ⟨bp, ba, bm⟩, draw, ends, pack, task, found, nx⟩ : Sk).unpack C.M = _ from (if_neg (fun h => of_decide_eq_false hb1 h.2)).trans (if_pos (show C.M.Link bp < 0 from of_decide_eq_true hb3))]
     exact ⟨D, ⟨rfl, rfl, _, _, _, _, ⟨rfl, _, rfl, rfl⟩, h⟩, fun _ hk => hk⟩
    ·intro hb3
     refine T.skip <| T.end0 Z (fun W D h => ?_)
     rw [show (⟨i, ⟨bp, ba, bm⟩, draw, ends, pack, task, found, nx⟩ : Sk).unpack C.M = _ from (if_neg (fun h => of_decide_eq_false hb1 h.2)).trans (if_neg (show ¬ C.M.Link bp < 0 from of_decide_eq_false hb3))]
     exact ⟨D, ⟨rfl, rfl, _, _, _, _, ⟨rfl, _, rfl, rfl⟩, h⟩, fun _ hk => hk⟩
set_option maxHeartbeats 1000000 in
theorem sk_own {C : Cx} {d : Nat} {m : Sk} {l : Wds} (hM : C.M.Ok) (hm : m.Ok C.M) (hr : ∀ a, u64R (ld l a)) (hn : m.next = .own) : SkRun C d m l (m.step C.M l).1 (m.step C.M l).2 := by
 obtain ⟨i, ⟨bp, ba, bm⟩, draw, ends, pack, task, found, nx⟩ := m
 obtain rfl : nx = .own := hn
 rintro qv pv nv RN ⟨rfl, q, rfl, rfl⟩
 refine ⟨106, [ptr d], [], rfl, g106, ?_⟩
 refine Ct.of (vs := [ptr d, ptr C.s]) Tryz.func106 rfl Tryz.ntmps106 (by simp) (loc_blks loc_DqR _) ?_
 intro w0 D0
 refine T.conv (fun w h => Sy.opens (H2 := [_]) h loc_DqR) <| T.seq <| T.seq <| tx [0,1,2,3,4,5,6] (ct [5]) Z Z <| xmv Z Z Z <| xnc Z Z Z <| xfa Z Z Z f182_4 <| xld Z Z Z o179 .z Z <| xmv Z Z Z <| xce Z Z Z Z g138 (ct_dqStep hm.ends hr) loc_DqR pend0 ?_
 refine xnot Z Z Z <| X.nil <| T.cond Z ?_ ?_
 ·intro hb0
  refine T.ret0 Z (fun W D h => ?_)
  have hn : ¬ (ends.step l).1.next = .nil := by simpa using hb0
  rw [show (⟨i, ⟨bp, ba, bm⟩, draw, ends, pack, task, found, .own⟩ : Sk).step C.M l = _ from if_neg hn]
  exact ⟨D, ⟨rfl, rfl, _, _, _, _, ⟨rfl, _, rfl, rfl⟩, h⟩, fun _ hk => hk⟩
 ·intro hb0
  have hn0 : (ends.step l).1.next = .nil := by simpa using hb0
  refine T.skip <| T.seq <| T.seq <| tx [0,1,2,3,4,5,6,7,8,9] nf Z Z <| xmv Z Z Z <| xnc Z Z Z <| xfa Z Z Z f182_4 <| xld Z Z Z o179 .z Z <| xcq Z Z Z Z g139 (ct_Result hn0) loc_DqR <| xmv Z Z Z <| xex Z Z Z Z <| xex Z Z Z Z <| xas Z Z Z <| xas Z Z Z ?_
  refine X.nil <| T.seq <| tx [0,1] nf Z Z <| xmv Z Z Z <| xcm Z Z Z Z Z Z <| X.nil <| T.cond Z ?_ ?_
  ·intro hb1
   refine T.seq <| tx [0,1,2] (ct [2]) Z Z <| xmv Z Z Z <| xmv Z Z Z <| xcb (H1 := []) (H2 := _ :: _) (H2' := _ :: _) Z Z Z Z g140 Z (ct_skend loc_DqR) loc_DqR Z pend0 <| X.nil <| T.ret0 Z (fun W D h => ?_)
   rw [show (⟨i, ⟨bp, ba, bm⟩, draw, ends, pack, task, found, .own⟩ : Sk).step C.M l = _ from (if_pos hn0).trans (if_pos (eq_of_beq hb1))]
   obtain ⟨D1, h1, h2⟩ := blks_drop h
   exact ⟨D1, ⟨rfl, rfl, _, _, _, _, ⟨rfl, rfl⟩, h1⟩, h2⟩
  ·intro hb1
   refine T.skip <| tx [0,1] (ct [1]) Z Z <| xmv Z Z Z <| xcf (H1 := []) (H2 := [_]) Z Z Z Z g141 Z (ct_skUnpack loc_DqR (m := ⟨i, ⟨bp, ba, bm⟩, draw, (ends.step l).1, pack, task, found, .own⟩) hm.packet) loc_SkR pend0 <| X.nil <| T.end0 Z (fun W D h => ?_)
   rw [show (⟨i, ⟨bp, ba, bm⟩, draw, ends, pack, task, found, .own⟩ : Sk).step C.M l = _ from (if_pos hn0).trans (if_neg (ne_of_beq_false hb1))]
   exact ⟨D, ⟨rfl, rfl, h⟩, fun _ hk => hk⟩
set_option maxHeartbeats 1000000 in
theorem sk_first {C : Cx} {d : Nat} {m : Sk} {l : Wds} (hM : C.M.Ok) (hm : m.Ok C.M) (hr : ∀ a, u64R (ld l a)) (hn : m.next = .first) : SkRun C d m l (m.step C.M l).1 (m.step C.M l).2 := by
 obtain ⟨i, ⟨bp, ba, bm⟩, draw, ends, pack, task, found, nx⟩ := m
 obtain rfl : nx = .first := hn
 rintro qv pv nv RN ⟨rfl, rfl⟩
 refine ⟨169, [ptr d], [], rfl, g169, ?_⟩
 refine Ct.of (vs := [ptr d, ptr C.s]) Tryz.func169 rfl Tryz.ntmps169 (by simp) (loc_blks loc_emp _) ?_
 intro w0 D0
 refine T.conv (fun w h => Sy.opens (H2 := [_]) h loc_emp) <| T.seq <| T.any (ord := [0, 1, 2, 3, 4, 5, 6, 7, 8, 9, 10, 11, 12, 13, 14, 15, 16, 17]) (lo := (fun _ => false)) (ef := (fun _ => false)) (by kernel_rfl) (fun _ h => h.drew) <| xmv Z Z Z ?_
 refine xmv Z Z Z <| xnc Z Z Z <| xfa Z Z Z f182_0 <| xld Z Z Z o39 .z Z <| xmv Z Z Z <| xnc Z Z Z <| xfa Z Z Z f182_2 <| xfa Z Z Z f122_0 <| xld Z Z Z o3 .z Z <| xmv Z Z Z <| xnc Z Z Z <| xfa Z Z Z f182_2 <| xfa Z Z Z f122_1 <| xld Z Z Z o3 .z Z ?_
 refine xcq Z Z Z Z g186 (ct_Task) loc_emp <| xcq Z Z Z Z g32 (ct_Load loc_emp) loc_emp <| xas Z Z Z <| X.nil <| T.seq <| tx [0,1,2,3,4,5,6,7,8,9] (ct [9]) Z Z <| xmv Z Z Z <| xnc Z Z Z <| xfa Z Z Z f182_2 <| xfa Z Z Z f122_1 <| xld Z Z Z o3 .z Z ?_
 refine xarc (c := ba + 1) Z Z Z Z Z (wrap64i (at4 hm.at_)) <| xnc Z Z Z <| xfa Z Z Z f182_2 <| xfa Z Z Z f122_1 <| xst Z Z Z Z o3 Z .z Z .z pend0 <| X.nil <| tx [0,1,2] (ct [2]) Z Z <| xmv Z Z Z <| xmv Z Z Z ?_
 refine xcb (H1 := []) (H2 := _ :: _) (H2' := _ :: _) Z Z Z Z g140 Z (ct_skend loc_emp) loc_emp Z pend0 <| X.nil <| T.end0 Z (fun W D h => ?_)
 exact ⟨D, ⟨rfl, rfl, _, _, _, _, ⟨rfl, rfl⟩, h⟩, fun _ hk => hk⟩
set_option maxHeartbeats 1000000 in
theorem sk_back {C : Cx} {d : Nat} {m : Sk} {l : Wds} (hM : C.M.Ok) (hm : m.Ok C.M) (hr : ∀ a, u64R (ld l a)) (hn : m.next = .back) : SkRun C d m l (m.step C.M l).1 (m.step C.M l).2 := by
 obtain ⟨i, ⟨bp, ba, bm⟩, draw, ends, pack, task, found, nx⟩ := m
 obtain rfl : nx = .back := hn
 rintro qv pv nv RN ⟨rfl, q, rfl, rfl⟩
 refine ⟨171, [ptr d], [], rfl, g171, ?_⟩
 refine Ct.of (vs := [ptr d, ptr C.s]) Tryz.func171 rfl Tryz.ntmps171 (by simp) (loc_blks loc_PkR _) ?_
 intro w0 D0
 refine T.conv (fun w h => Sy.opens (H2 := [_]) h loc_PkR) <| T.seq <| tx [0,1,2,3,4,5] (ct [5]) Z Z <| xmv Z Z Z <| xnc Z Z Z <| xfa Z Z Z f182_5 <| xld Z Z Z o180 .z Z <| xmv Z Z Z <| xce Z Z Z Z g190 (ct_pkStep hm.pack hr) loc_PkR pend0 <| X.nil ?_
 refine T.cond Z ?_ ?_
 ·intro hb0
  refine T.seq <| tx [0,1,2,3,4,5,6,7,8] (ct [5,8]) Z Z <| xmv Z Z Z <| xmv Z Z Z <| xnc Z Z Z <| xfa Z Z Z f182_0 <| xld Z Z Z o39 .z Z <| xcn Z Z Z Z g172 (ct_pkTake) (fun _ => loc_PkR) (fun _ => pend0) (fun q0 => ?_)
  refine xnc Z Z Z <| xfa Z Z Z f182_5 <| xst Z Z Z Z o180 Z .z Z .z pend0 <| X.nil <| tx [0,1,2,3,4,5] (ct [5]) Z Z <| xmv Z Z Z <| xmv Z Z Z <| xmf Z Z Z Z <| xnc Z Z Z <| xfa Z Z Z f182_8 <| xst Z Z Z Z o130 Z .z Z .z pend0 <| X.nil ?_
  refine T.end0 Z (fun W D h => ?_)
  rw [show (⟨i, ⟨bp, ba, bm⟩, draw, ends, pack, task, found, .back⟩ : Sk).step C.M l = _ from if_pos (of_decide_eq_true hb0)]
  exact ⟨D, ⟨rfl, rfl, _, _, _, _, ⟨rfl, _, rfl, rfl⟩, h⟩, fun _ hk => hk⟩
 ·intro hb0
  refine T.skip <| T.end0 Z (fun W D h => ?_)
  rw [show (⟨i, ⟨bp, ba, bm⟩, draw, ends, pack, task, found, .back⟩ : Sk).step C.M l = _ from if_neg (of_decide_eq_false hb0)]
  exact ⟨D, ⟨rfl, rfl, _, _, _, _, ⟨rfl, _, rfl, rfl⟩, h⟩, fun _ hk => hk⟩
set_option maxHeartbeats 1000000 in
theorem sk_take {C : Cx} {d : Nat} {m : Sk} {l : Wds} (hM : C.M.Ok) (hm : m.Ok C.M) (hr : ∀ a, u64R (ld l a)) (hn : m.next = .take) : SkRun C d m l (m.step C.M l).1 (m.step C.M l).2 := by
 obtain ⟨i, ⟨bp, ba, bm⟩, draw, ends, pack, task, found, nx⟩ := m
 obtain rfl : nx = .take := hn
 rintro qv pv nv RN ⟨rfl, q, rfl, rfl⟩
 refine ⟨173, [ptr d], [], rfl, g173, ?_⟩
 refine Ct.of (vs := [ptr d, ptr C.s]) Tryz.func173 rfl Tryz.ntmps173 (by simp) (loc_blks loc_PkR _) ?_
 intro w0 D0
 refine T.conv (fun w h => Sy.opens (H2 := [_]) h loc_PkR) <| T.seq <| T.seq <| tx [0,1,2,3,4,5,6] (ct [5]) Z Z <| xmv Z Z Z <| xnc Z Z Z <| xfa Z Z Z f182_5 <| xld Z Z Z o180 .z Z <| xmv Z Z Z <| xce Z Z Z Z g190 (ct_pkStep hm.pack hr) loc_PkR pend0 ?_
 refine xnot Z Z Z <| X.nil <| T.cond Z ?_ ?_
 ·intro hb0
  refine T.ret0 Z (fun W D h => ?_)
  have hn : ¬ (pack.step C.M l).1.next = .nil := by simpa using hb0
  rw [show (⟨i, ⟨bp, ba, bm⟩, draw, ends, pack, task, found, .take⟩ : Sk).step C.M l = _ from if_neg hn]
  exact ⟨D, ⟨rfl, rfl, _, _, _, _, ⟨rfl, _, rfl, rfl⟩, h⟩, fun _ hk => hk⟩
 ·intro hb0
  have hn0 : (pack.step C.M l).1.next = .nil := by simpa using hb0
  refine T.skip <| T.seq <| T.seq <| tx [0,1,2,3,4,5] nf Z Z <| xmv Z Z Z <| xnc Z Z Z <| xfa Z Z Z f182_5 <| xld Z Z Z o180 .z Z <| xcq Z Z Z Z g193 (pk_Packet hn0) loc_PkR <| xcm Z Z Z Z Z Z <| X.nil <| T.cond Z ?_ ?_
  ·intro hb1
   have hp1 : (pack.step C.M l).1.p ≠ 0 := by simpa [cmpI] using hb1
   refine T.seq <| tx [0,1,2,3,4,5] (ct [5]) Z Z <| xmv Z Z Z <| xmv Z Z Z <| xmf Z Z Z Z <| xnc Z Z Z <| xfa Z Z Z f182_8 <| xst Z Z Z Z o130 Z .z Z .z pend0 <| X.nil <| T.ret0 Z (fun W D h => ?_)
   rw [show (⟨i, ⟨bp, ba, bm⟩, draw, ends, pack, task, found, .take⟩ : Sk).step C.M l = _ from (if_pos hn0).trans (if_pos hp1)]
   exact ⟨D, ⟨rfl, rfl, _, _, _, _, ⟨rfl, _, rfl, hn0, rfl⟩, h⟩, fun _ hk => hk⟩
  ·intro hb1
   have hp1 : ¬ (pack.step C.M l).1.p ≠ 0 := by simpa [cmpI] using hb1
   refine T.skip <| T.seq <| tx [0,1,2,3] (ct [3]) Z Z <| xmv Z Z Z <| xnc Z Z Z <| xfa Z Z Z f182_8 <| xst Z Z Z Z o130 Z .z Z .z pend0 <| X.nil <| T.seq ?_
   refine T.any (ord := [0, 1, 2, 3, 4, 5, 6, 7, 8, 9, 10, 11, 12, 13, 14, 15]) (lo := (fun _ => false)) (ef := (fun _ => false)) (by kernel_rfl) (fun _ h => h.drew) <| xmv Z Z Z <| xnc Z Z Z <| xfa Z Z Z f182_0 <| xld Z Z Z o39 .z Z ?_
   refine xcq Z Z Z Z g115 (ct_ConfigR loc_PkR) loc_PkR <| xfd Z Z Z f24_1 t24_1 o3 Z <| xmv Z Z Z <| xnc Z Z Z <| xfa Z Z Z f182_1 <| xld Z Z Z o3 .z Z <| xmv Z Z Z <| xnc Z Z Z <| xfa Z Z Z f182_3 <| xld Z Z Z o3 .z Z ?_
   refine xcq Z Z Z Z g195 (Cv.frame loc_PkR (ct_Victim (mk_le hM))) loc_PkR <| xas Z Z Z <| X.nil <| T.seq <| tx [0,1] nf Z Z <| xmv Z Z Z <| xcm Z Z Z Z Z Z <| X.nil <| T.cond Z ?_ ?_
   ·intro hb2
    refine T.seq <| tx [0,1,2,3,4,5,6,7,8,9,10] (ct [7,10]) Z Z <| xmv Z Z Z <| xmv Z Z Z <| xnc Z Z Z <| xfa Z Z Z f182_0 <| xld Z Z Z o39 .z Z <| xmv Z Z Z <| xcq Z Z Z Z g105 (Cv.frame loc_PkR ct_Ends) loc_PkR ?_
    refine xcn Z Z Z Z g196 (ct_steal (e := C.M.ends (victim C.M.markers i draw))) (fun _ => loc_DqR) (fun _ => pend0) (fun q0 => ?_)
    refine xnc Z Z Z <| xfa Z Z Z f182_4 <| xst Z Z Z Z o179 Z .z Z .z pend0 <| X.nil <| tx [0,1,2,3,4,5] (ct [5]) Z Z <| xmv Z Z Z <| xmv Z Z Z <| xmf Z Z Z Z <| xnc Z Z Z <| xfa Z Z Z f182_8 <| xst Z Z Z Z o130 Z .z Z .z pend0 <| X.nil ?_
    refine T.end0 Z (fun W D h => ?_)
    rw [show (⟨i, ⟨bp, ba, bm⟩, draw, ends, pack, task, found, .take⟩ : Sk).step C.M l = _ from (if_pos hn0).trans ((if_neg hp1).trans (if_pos (of_decide_eq_true hb2)))]
    exact ⟨D, ⟨rfl, rfl, _, _, _, _, ⟨rfl, _, rfl, rfl⟩, h⟩, fun _ hk => hk⟩
   ·intro hb2
    refine T.skip <| T.end0 Z (fun W D h => ?_)
    rw [show (⟨i, ⟨bp, ba, bm⟩, draw, ends, pack, task, found, .take⟩ : Sk).step C.M l = _ from (if_pos hn0).trans ((if_neg hp1).trans (if_neg (of_decide_eq_false hb2)))]
    obtain ⟨D1, h1, h2⟩ := blks_drop h
    exact ⟨D1, ⟨rfl, rfl, _, _, _, _, ⟨rfl, rfl⟩, h1⟩, h2⟩
set_option maxHeartbeats 1000000 in
theorem sk_many {C : Cx} {d : Nat} {m : Sk} {l : Wds} (hM : C.M.Ok) (hm : m.Ok C.M) (hr : ∀ a, u64R (ld l a)) (hn : m.next = .many) : SkRun C d m l (m.step C.M l).1 (m.step C.M l).2 := by
 obtain ⟨i, ⟨bp, ba, bm⟩, draw, ends, pack, task, found, nx⟩ := m
 obtain rfl : nx = .many := hn
 rintro qv pv nv RN ⟨rfl, q, rfl, hp0, rfl⟩
 refine ⟨194, [ptr d], [], rfl, g194, ?_⟩
 refine Ct.of (vs := [ptr d, ptr C.s]) Tryz.func194 rfl Tryz.ntmps194 (by simp) (loc_blks loc_PkR _) ?_
 intro w0 D0
 refine T.conv (fun w h => Sy.opens (H2 := [_]) h loc_PkR) <| T.seq <| tx [0,1,2,3,4,5] nf Z Z <| xmv Z Z Z <| xnc Z Z Z <| xfa Z Z Z f182_5 <| xld Z Z Z o180 .z Z <| xcq Z Z Z Z g193 (pk_Packet hp0) loc_PkR <| xas Z Z Z <| X.nil <| T.seq ?_
 refine tx [0,1,2,3,4,5,6,7,8,9,10,11,12,13,14,15] (ct [15]) Z Z <| xmv Z Z Z <| xmv Z Z Z <| xmv Z Z Z <| xmv Z Z Z <| xnc Z Z Z <| xfa Z Z Z f182_0 <| xld Z Z Z o39 .z Z <| xmv Z Z Z <| xcq Z Z Z Z g216 (ct_Many) loc_PkR ?_
 refine xcq Z Z Z Z g32 (ct_Load loc_PkR) loc_PkR <| xmin Z Z Z <| xcvc Z Z Z u3_dInti64 u90_fun_true (wrap64i (min4_in (hr _))) <| xbd Z Z Z l122 z122 Z <| xnc Z Z Z <| xfa Z Z Z f182_2 <| xsta Z Z Z Z m122 Z Z .z (Nat.le_of_ble_eq_true Z) .z pend0 ?_
 refine X.nil <| tx [0,1] (ct [1]) Z Z <| xmv Z Z Z <| xcf (H1 := []) (H2 := [_]) Z Z Z Z g141 Z (ct_skUnpack loc_PkR (m := ⟨i, ⟨pack.p, 0, min (ld l (C.M.Many pack.p)) 4⟩, draw, ends, pack, task, found, .many⟩) hm.pack.p) loc_SkR pend0 <| X.nil ?_
 refine T.end0 Z (fun W D h => ?_)
 exact ⟨D, ⟨rfl, rfl, h⟩, fun _ hk => hk⟩
set_option maxHeartbeats 1000000 in
theorem sk_steal {C : Cx} {d : Nat} {m : Sk} {l : Wds} (hM : C.M.Ok) (hm : m.Ok C.M) (hr : ∀ a, u64R (ld l a)) (hn : m.next = .steal) : SkRun C d m l (m.step C.M l).1 (m.step C.M l).2 := by
 obtain ⟨i, ⟨bp, ba, bm⟩, draw, ends, pack, task, found, nx⟩ := m
 obtain rfl : nx = .steal := hn
 rintro qv pv nv RN ⟨rfl, q, rfl, rfl⟩
 refine ⟨197, [ptr d], [], rfl, g197, ?_⟩
 refine Ct.of (vs := [ptr d, ptr C.s]) Tryz.func197 rfl Tryz.ntmps197 (by simp) (loc_blks loc_DqR _) ?_
 intro w0 D0
 refine T.conv (fun w h => Sy.opens (H2 := [_]) h loc_DqR) <| T.seq <| T.seq <| tx [0,1,2,3,4,5,6] (ct [5]) Z Z <| xmv Z Z Z <| xnc Z Z Z <| xfa Z Z Z f182_4 <| xld Z Z Z o179 .z Z <| xmv Z Z Z <| xce Z Z Z Z g138 (ct_dqStep hm.ends hr) loc_DqR pend0 ?_
 refine xnot Z Z Z <| X.nil <| T.cond Z ?_ ?_
 ·intro hb0
  refine T.ret0 Z (fun W D h => ?_)
  have hn : ¬ (ends.step l).1.next = .nil := by simpa using hb0
  rw [show (⟨i, ⟨bp, ba, bm⟩, draw, ends, pack, task, found, .steal⟩ : Sk).step C.M l = _ from if_neg hn]
  exact ⟨D, ⟨rfl, rfl, _, _, _, _, ⟨rfl, _, rfl, rfl⟩, h⟩, fun _ hk => hk⟩
 ·intro hb0
  have hn0 : (ends.step l).1.next = .nil := by simpa using hb0
  refine T.skip <| T.seq <| tx [0,1,2,3] (ct [3]) Z Z <| xmv Z Z Z <| xnc Z Z Z <| xfa Z Z Z f182_8 <| xst Z Z Z Z o130 Z .z Z .z pend0 <| X.nil <| T.seq <| tx [0,1,2,3,4,5,6,7,8,9] nf Z Z <| xmv Z Z Z <| xnc Z Z Z <| xfa Z Z Z f182_4 ?_
  refine xld Z Z Z o179 .z Z <| xcq Z Z Z Z g139 (ct_Result hn0) loc_DqR <| xmv Z Z Z <| xex Z Z Z Z <| xex Z Z Z Z <| xas Z Z Z <| xas Z Z Z <| X.nil <| T.seq <| tx [0,1] nf Z Z <| xmv Z Z Z <| xcm Z Z Z Z Z Z <| X.nil <| T.cond Z ?_ ?_
  ·intro hb1
   refine tx [0,1,2] (ct [2]) Z Z <| xmv Z Z Z <| xmv Z Z Z <| xcb (H1 := []) (H2 := _ :: _) (H2' := _ :: _) Z Z Z Z g140 Z (ct_skend loc_DqR) loc_DqR Z pend0 <| X.nil <| T.end0 Z (fun W D h => ?_)
   rw [show (⟨i, ⟨bp, ba, bm⟩, draw, ends, pack, task, found, .steal⟩ : Sk).step C.M l = _ from (if_pos hn0).trans (if_pos (eq_of_beq hb1))]
   obtain ⟨D1, h1, h2⟩ := blks_drop h
   exact ⟨D1, ⟨rfl, rfl, _, _, _, _, ⟨rfl, rfl⟩, h1⟩, h2⟩
  ·intro hb1
   refine T.skip <| T.end0 Z (fun W D h => ?_)
   rw [show (⟨i, ⟨bp, ba, bm⟩, draw, ends, pack, task, found, .steal⟩ : Sk).step C.M l = _ from (if_pos hn0).trans (if_neg (ne_of_beq_false hb1))]
   obtain ⟨D1, h1, h2⟩ := blks_drop h
   exact ⟨D1, ⟨rfl, rfl, _, _, _, _, ⟨rfl, rfl⟩, h1⟩, h2⟩
theorem sk_run {C : Cx} {d : Nat} {m : Sk} {l : Wds} (hM : C.M.Ok) (hm : m.Ok C.M) (hr : ∀ a, u64R (ld l a)) (hn : m.next ≠ .nil) : SkRun C d m l (m.step C.M l).1 (m.step C.M l).2 := by
 cases h : m.next with
 | nil => exact (hn h).elim
 | own => exact sk_own hM hm hr h
 | first => exact sk_first hM hm hr h
 | back => exact sk_back hM hm hr h
 | take => exact sk_take hM hm hr h
 | many => exact sk_many hM hm hr h
 | steal => exact sk_steal hM hm hr h
theorem ct_skStep {C : Cx} {d : Nat} {m : Sk} {l : Wds} (hM : C.M.Ok) (hm : m.Ok C.M) (hr : ∀ a, u64R (ld l a)) : Cv C 107 [ptr d, ptr C.s] l (SkR C d m) (.bool (decide ((m.step C.M l).1.next = .nil))) (m.step C.M l).2 (SkR C d (m.step C.M l).1) := by
 by_cases hn : m.next = .nil
 ·have e : m.step C.M l = (m, l) := by unfold Sk.step; rw [hn]
  rw [e]
  simp only [hn, decide_true]
  exact sk_Step0 hn
 ·exact sk_Step (sk_run hM hm hr hn)
theorem Sk.unpack_ok {M : MapM} {x : Sk} (h : x.Ok M) : (x.unpack M).Ok M := by
 have z : u32R 0 := by unfold u32R; omega
 unfold Sk.unpack
 split
 ·rename_i hc
  exact ⟨h.i, h.packet, h.at_, h.many, h.ends, h.pack, h.task, fun _ => hc.2⟩
 ·split
  ·exact ⟨h.i, z, by simp [bag0], by simp [bag0], h.ends, Pk.take_ok, h.task, fun h => nomatch h⟩
  ·exact ⟨h.i, z, by simp [bag0], by simp [bag0], h.ends, Pk.back_ok h.packet, h.task, fun h => nomatch h⟩
theorem Sk.done_ok {M : MapM} {x : Sk} {t : Int} (h : x.Ok M) (ht : u64R t) : (x.done t).Ok M := ⟨h.i, h.packet, h.at_, h.many, h.ends, h.pack, ht, fun h => nomatch h⟩
theorem Sk.step_ok {M : MapM} (hM : M.Ok) {m : Sk} {l : Wds} (hm : m.Ok M) (hr : ∀ a, u64R (ld l a)) : (m.step M l).1.Ok M := by
 have h1 := Dq.step_ok hm.ends hr
 have h2 := Pk.step_ok (M := M) hm.pack hr
 unfold Sk.step
 split
 ·exact hm
 ·rename_i hn
  have hx : ({ m with ends := (m.ends.step l).1 } : Sk).Ok M := ⟨hm.i, hm.packet, hm.at_, hm.many, h1, hm.pack, hm.task, hm.fs⟩
  split
  ·split
   ·exact Sk.done_ok hx h1.w
   ·exact Sk.unpack_ok hx
  ·exact hx
 ·rename_i hn
  have := hm.fs hn
  have := hm.at_
  have := hm.many
  exact ⟨hm.i, hm.packet, by simp only [Sk.done]; omega, hm.many, hm.ends, hm.pack, hr _, fun h => nomatch h⟩
 ·rename_i hn
  split
  ·exact ⟨hm.i, hm.packet, hm.at_, hm.many, hm.ends, Pk.take_ok, hm.task, fun h => nomatch h⟩
  ·exact ⟨hm.i, hm.packet, hm.at_, hm.many, hm.ends, h2, hm.task, hm.fs⟩
 ·rename_i hn
  split
  ·split
   ·exact ⟨hm.i, hm.packet, hm.at_, hm.many, hm.ends, h2, hm.task, fun h => nomatch h⟩
   ·split
    ·rename_i hv
     exact ⟨hm.i, hm.packet, hm.at_, hm.many, Dq.steal_ok hM (victim_rng hm.i hv), h2, hm.task, fun h => nomatch h⟩
    ·exact ⟨hm.i, hm.packet, hm.at_, hm.many, hm.ends, h2, hm.task, fun h => nomatch h⟩
  ·exact ⟨hm.i, hm.packet, hm.at_, hm.many, hm.ends, h2, hm.task, hm.fs⟩
 ·rename_i hn
  have h3 := (hr (M.Many m.pack.p)).1
  exact Sk.unpack_ok ⟨hm.i, hm.pack.p, by simp, by simp only; omega, hm.ends, hm.pack, hm.task, fun h => (by have h' : m.next = .first := h; rw [hn] at h'; cases h')⟩
 ·rename_i hn
  have hx : ({ m with ends := (m.ends.step l).1 } : Sk).Ok M := ⟨hm.i, hm.packet, hm.at_, hm.many, h1, hm.pack, hm.task, hm.fs⟩
  split
  ·split
   ·exact Sk.done_ok hx h1.w
   ·exact ⟨hm.i, hm.packet, hm.at_, hm.many, h1, hm.pack, hm.task, fun h => nomatch h⟩
  ·exact hx
theorem Sk.step_rng {M : MapM} {m : Sk} {l : Wds} (hm : m.Ok M) (hr : Rng l) : Rng (m.step M l).2 := by
 have h1 : Rng (m.ends.step l).2 := Dq.step_rng hm.ends hr
 have h2 := Pk.step_rng (M := M) hm.pack hr
 unfold Sk.step
 split <;> (try split) <;> (try split) <;> (try split) <;> first | exact hr | exact h1 | exact h2
set_option maxHeartbeats 1000000 in
theorem ct_skNew {C : Cx} {l : Wds} (hM : C.M.Ok) {i dr : Int} {b : Bag} (hi : 0 ≤ i ∧ i < C.M.markers) : Cn C 85 [ptr C.m, .int .i64 i, .agg #[.int .i64 b.packet, .int .i64 b.at_, .int .i64 b.many], .int .i64 dr] l emp l (fun q => SkR C q (.new C.M i b dr)) := by
 refine Ct.of Tryz.func85 rfl Tryz.ntmps85 (by simp) loc_emp ?_
 intro w0 D0
 refine T.seq <| tx [0,1] (ct [0]) Z Z <| xbx Z Z Z Z (fun _ => pend0) (fun b0 => ?_)
 refine xas Z Z Z <| X.nil <| T.seq <| tx [0,1,2,3,4,5,6] (ct [5]) Z Z <| xmv Z Z Z <| xmv Z Z Z <| xlda Z Z Z m122 .z Z <| xmv Z Z Z <| xbd Z Z Z l182 z182 Z <| xbx Z Z Z Z (fun _ => pend0) (fun b1 => ?_)
 refine xas Z Z Z <| X.nil <| T.seq <| T.seq <| tx [0,1,2,3] nf Z Z <| xmv Z Z Z <| xmv Z Z Z <| xcq Z Z Z Z g57 (ct_Top loc_emp) loc_emp <| xcm (c := false) Z Z Z Z Z (decide_eq_false (Int.not_lt.2 (top_ge hM hi))) <| X.nil <| T.no Z <| T.skip <| T.seq ?_
 refine tx [0,1,2,3,4,5,6,7,8] (ct [8]) Z Z <| xmv Z Z Z <| xfa Z Z Z f122_1 <| xld Z Z Z o3 (.s .z) Z <| xmax Z Z Z <| xmin Z Z Z <| xnc Z Z Z <| xfa Z Z Z f182_2 <| xfa Z Z Z f122_1 <| xst Z Z Z Z o3 Z .z Z .z pend0 <| X.nil <| T.seq ?_
 refine tx [0,1,2,3,4,5,6,7,8] (ct [8]) Z Z <| xmv Z Z Z <| xfa Z Z Z f122_2 <| xld Z Z Z o3 (.s .z) Z <| xmax Z Z Z <| xmin Z Z Z <| xnc Z Z Z <| xfa Z Z Z f182_2 <| xfa Z Z Z f122_2 <| xst Z Z Z Z o3 Z .z Z .z pend0 <| X.nil <| T.seq ?_
 refine tx [0,1,2,3,4,5,6,7] (ct [4,7]) Z Z <| xmv Z Z Z <| xmv Z Z Z <| xmv Z Z Z <| xcq Z Z Z Z g105 (ct_Ends) loc_emp <| xcn Z Z Z Z g104 (ct_pop (e := C.M.ends i)) (fun _ => loc_DqR) (fun _ => pend0) (fun q2 => ?_)
 refine xnc Z Z Z <| xfa Z Z Z f182_4 <| xst Z Z Z Z o179 Z .z Z .z pend0 <| X.nil <| T.seq <| tx [0,1,2,3,4,5] (ct [5]) Z Z <| xmv Z Z Z <| xmv Z Z Z <| xmf Z Z Z Z <| xnc Z Z Z <| xfa Z Z Z f182_8 <| xst Z Z Z Z o130 Z .z Z .z pend0 <| X.nil <| T.seq ?_
 refine tx [0,1] nf Z Z <| xmv Z Z Z <| xas Z Z Z <| X.nil <| T.ret1 Z (fun W D h => ?_)
 obtain ⟨D1, h1, h2⟩ := blks_pick [0] (by decide) h
 exact ⟨D1, ⟨_, rfl, rfl, _, _, _, _, ⟨rfl, _, rfl, rfl⟩, h1⟩, h2⟩
theorem Sk.new_ok {M : MapM} (hM : M.Ok) {i dr : Int} {b : Bag} (hi : 0 ≤ i ∧ i < M.markers) (hp : u32R b.packet) : (Sk.new M i b dr).Ok M := by
 have z : u64R 0 := by unfold u64R; omega
 exact ⟨hi, hp, by simp only [Sk.new]; omega, by simp only [Sk.new]; omega, Dq.pop_ok hM hi, Pk.take_ok, z, fun h => nomatch h⟩
set_option maxHeartbeats 1000000 in
theorem sk_Task {C : Cx} {d : Nat} {m : Sk} {l : Wds} : Cv C 109 [ptr d] l (SkR C d m) (.tuple #[.int .u64 (if m.found = true then m.task else 0), .bool m.found]) l (SkR C d m) := by
 refine Ct.of Tryz.func109 rfl Tryz.ntmps109 (by simp) loc_SkR ?_
 intro w0 D0
 refine T.ex (fun _ => loc_ex fun _ => loc_Mch loc_SkNx) ?_
 intro qv
 refine T.ex (fun _ => loc_Mch loc_SkNx) ?_
 intro pv
 refine T.mch (H := []) loc_SkNx ?_
 intro nv RN hN hl
 refine T.seq <| tx [0,1] nf Z Z <| xas Z Z Z <| xas Z Z Z <| X.nil <| T.seq <| T.seq <| tx [0,1,2,3,4,5,6,7,8] nf Z Z <| xmv Z Z Z <| xnp Z Z Z Z u118_dPtr <| xmv Z Z Z <| xmv Z Z Z <| xnc Z Z Z <| xfa Z Z Z f182_7 <| xld Z Z Z o4 .z Z <| xnot Z Z Z ?_
 refine xpk Z Z Z Z <| X.nil <| T.cond Z ?_ ?_
 ·intro hb0
  refine T.seq <| tx [0,1] nf Z Z <| xas Z Z Z <| xas Z Z Z <| X.nil <| T.ret2 Z (fun W D h => ?_)
  have hf : m.found = false := by simpa using hb0
  rw [show (if m.found = true then m.task else 0) = 0 by simp [hf], show (Value.bool m.found) = .bool false by rw [hf]]
  exact ⟨D, ⟨rfl, rfl, qv, pv, nv, RN, hN, h⟩, fun _ hk => hk⟩
 ·intro hb0
  refine T.skip <| T.seq <| tx [0,1,2,3,4,5] nf Z Z <| xmv Z Z Z <| xnc Z Z Z <| xfa Z Z Z f182_6 <| xld Z Z Z o90 .z Z <| xas Z Z Z <| xas Z Z Z <| X.nil <| T.ret2 Z (fun W D h => ?_)
  have hf : m.found = true := by simpa using hb0
  rw [show (if m.found = true then m.task else 0) = m.task by simp [hf], show (Value.bool m.found) = .bool true by rw [hf]]
  exact ⟨D, ⟨rfl, rfl, qv, pv, nv, RN, hN, h⟩, fun _ hk => hk⟩
set_option maxHeartbeats 1000000 in
theorem sk_Bag {C : Cx} {d : Nat} {m : Sk} {l : Wds} : Cv C 108 [ptr d] l (SkR C d m) (.agg #[.int .i64 m.bag.packet, .int .i64 m.bag.at_, .int .i64 m.bag.many]) l (SkR C d m) := by
 refine Ct.of Tryz.func108 rfl Tryz.ntmps108 (by simp) loc_SkR ?_
 intro w0 D0
 refine T.ex (fun _ => loc_ex fun _ => loc_Mch loc_SkNx) ?_
 intro qv
 refine T.ex (fun _ => loc_Mch loc_SkNx) ?_
 intro pv
 refine T.mch (H := []) loc_SkNx ?_
 intro nv RN hN hl
 refine T.seq <| tx [0] (ct [0]) Z Z <| xal Z Z z122 (fun _ => pend0) (fun b0 => ?_)
 refine X.nil <| T.seq <| T.seq <| tx [0,1] nf Z Z <| xmv Z Z Z <| xnp Z Z Z Z u118_dPtr <| X.nil <| T.no Z <| T.skip <| T.seq <| tx [0,1,2,3,4] (ct [4]) Z Z <| xmv Z Z Z <| xnc Z Z Z <| xfa Z Z Z f182_2 <| xlda Z Z Z m122 (.s .z) Z ?_
 refine xsta Z Z Z Z m122 Z Z .z (Nat.le_of_ble_eq_true Z) .z pend0 <| X.nil <| T.retc Z Z m122 .z Z (fun W D h => ?_)
 obtain ⟨D1, h1, h2⟩ := blks_tail h
 exact ⟨D1, ⟨rfl, rfl, qv, pv, nv, RN, hN, h1⟩, h2⟩
end Go.Proofs.YtmpcfamcbaineaaGreat.Mo
