/- Part 7 of the proof: contracts of the functions that the law reaches, and the plain law. No condition. -/
import Derived.Test.YtmpcfamcbaineaaGreatU06
namespace Go.Proofs.YtmpcfamcbaineaaGreat.Mo
open Go.RowKit Go.Proofs.YtmpcfamcbaineaaGreat.Mo
set_option linter.unusedVariables false
set_option linter.unusedSimpArgs false
theorem f133_1 : fld 133 1 1 = true := by kernel_rfl
theorem g118 : fnB 118 = true := by kernel_rfl
theorem g119 : fnB 119 = true := by kernel_rfl
theorem g120 : fnB 120 = true := by kernel_rfl
theorem g147 : fnB 147 = true := by kernel_rfl
theorem g179 : fnB 179 = true := by kernel_rfl
theorem g180 : fnB 180 = true := by kernel_rfl
theorem g181 : fnB 181 = true := by kernel_rfl
theorem g60 : fnB 60 = true := by kernel_rfl
theorem g92 : fnB 92 = true := by kernel_rfl
theorem g93 : fnB 93 = true := by kernel_rfl
theorem g94 : fnB 94 = true := by kernel_rfl
theorem g96 : fnB 96 = true := by kernel_rfl
theorem o1 : one 1 = true := by kernel_rfl
theorem z3 : zer 3 = some [.int .i64 0] := by kernel_rfl
theorem does_ok {M : MapM} (hM : M.Ok) {b : Bu} {ts : List Int} {l : Wds} (h : (⟨b, 0, ts⟩ : BuS).Ok M) (hr : ∀ a, u64R (ld l a)) : ((⟨b, 0, ts⟩ : BuS).step M l).1.Ok M := BuS.step_ok hM h hr
set_option maxHeartbeats 1000000 in
theorem mu_does_begin_ {C : Cx} {d : Nat} {x : Mu} {l : Wds} (hM : C.M.Ok) (hm : x.Ok C.M) (hr : ∀ a, u64R (ld l a)) (hn : x.next = .does .begin_) : MuRun C d x l (x.step0 C.M l).1 (x.step0 C.M l).2 := by
 obtain ⟨i, os, ⟨k0, k1, k2, k3⟩, roots, tasks, armed, still, tint, cycle, k, alloc, log, event, nx⟩ := x
 obtain rfl : nx = .does .begin_ := hn
 have hrm0 : ∀ v, C.M.Room v ≥ 0 := fun v => (room_rng hM v).1
 have hB := hM.buffer
 have hle := hm.le
 have hl4 : tasks.length ≤ 4 := by simp only at hle; omega
 have hops := hm.ops
 rintro ov rv bf alv lgv nv RN ⟨rb, rest, m, rfl, hrm, b1, b2, tv, q, B, rfl, rfl, ⟨rfl, rfl⟩, rfl⟩
 refine ⟨179, [], [ptr b1, ptr b2], rfl, g179, ?_⟩
 refine Ct.of (vs := [ptr C.s, ptr b1, ptr b2]) Tryz.func179 rfl Tryz.ntmps179 (by simp) (loc_blks (loc_blks (loc_sep loc_BuR loc_OpsR) _) _) ?_
 intro w0 D0
 refine T.conv (fun w h => Sy.opens (H2 := [_]) h (loc_blks (loc_sep loc_BuR loc_OpsR) _)) <| T.bks (loc_sep loc_BuR loc_OpsR) ?_
 have hbu : (⟨log, bf, tasks⟩ : BuS).Ok C.M := BuS.ok_bf (hm.does _ rfl)
 refine T.seq <| tx [0,1,2,3,4,5,6] (ct [5]) Z Z <| xld Z Z Z o83 (.s (.s .z)) Z <| xnc Z Z Z <| xfa Z Z Z f133_12 <| xld Z Z Z o129 .z Z <| xmv Z Z Z ?_
 refine xce Z Z Z Z g180 (Cv.sepF (ct_buStep (m := ⟨log, bf, tasks⟩) hM hbu hr) loc_OpsR) (loc_sep loc_BuR loc_OpsR) pend0 <| xas Z Z Z <| X.nil <| T.seq ?_
 refine T.any (ord := [0, 1, 2, 3, 4, 5, 6, 7, 8]) (lo := (fun _ => false)) (ef := (fun i => [8].contains i)) (by kernel_rfl) (fun _ h => h.drew) <| xld Z Z Z o83 (.s (.s .z)) Z <| xld Z Z Z o83 (.s (.s .z)) Z <| xnc Z Z Z <| xfa Z Z Z f133_12 ?_
 refine xld Z Z Z o129 .z Z <| xcq Z Z Z Z g181 (Cv.sepF bu_Event loc_OpsR) (loc_sep loc_BuR loc_OpsR) <| xnc Z Z Z <| xfa Z Z Z f133_13 <| xsta Z Z Z Z m33 Z Z .z (Nat.le_of_ble_eq_true Z) .z pend0 <| X.nil <| T.seq <| tx [0] nf Z Z <| xmv Z Z Z <| X.nil ?_
 refine T.cond Z ?_ ?_
 ·intro hb0
  have hl4n : (log.step C.M tasks l).2.1.length ≤ 4 := by have h4 := (does_ok hM (hm.does _ rfl) hr).le; have h5 : (((log.step C.M tasks l).2.1.length : Nat) : Int) ≤ C.M.buffer := h4; omega
  refine T.reb (H' := [_, _, _, _]) (loc_sep loc_BfR loc_OpsR) (Wk.blks (Wk.sep bu_bf (Wk.refl _)) _) <| tx [0,1] (ct [1]) Z Z <| xld Z Z Z o1 (.s (.s (.s .z))) Z ?_
  refine xcfp (H2 := [_, _]) (is := [0, 1]) (by decide) Z Z Z Z g62 Z (ct_begin (x := ⟨i, os, ⟨k0, k1, k2, k3⟩, roots, (log.step C.M tasks l).2.1, armed, still, tint, cycle, k, alloc, (log.step C.M tasks l).1, (log.step C.M tasks l).1.event, .does .begin_⟩) hops hrm) loc_MuR pend0 ?_
  refine X.nil <| T.end0 Z (fun W D h => ?_)
  rw [show (⟨i, os, ⟨k0, k1, k2, k3⟩, roots, tasks, armed, still, tint, cycle, k, alloc, log, event, .does .begin_⟩ : Mu).step0 C.M l = _ from if_pos (of_decide_eq_true hb0)]
  exact ⟨D, ⟨rfl, rfl, h⟩, fun _ hk => hk⟩
 ·intro hb0
  refine T.skip <| T.end0 Z (fun W D h => ?_)
  rw [show (⟨i, os, ⟨k0, k1, k2, k3⟩, roots, tasks, armed, still, tint, cycle, k, alloc, log, event, .does .begin_⟩ : Mu).step0 C.M l = _ from if_neg (of_decide_eq_false hb0)]
  exact ⟨D, ⟨rfl, rfl, _, _, _, _, _, _, _, ⟨rb, rest, m, rfl, hrm, b1, b2, _, q, _, rfl, rfl, ⟨rfl, rfl⟩, rfl⟩, h⟩, fun _ hk => hk⟩
set_option maxHeartbeats 1000000 in
theorem mu_does_look {C : Cx} {d : Nat} {x : Mu} {l : Wds} (hM : C.M.Ok) (hm : x.Ok C.M) (hr : ∀ a, u64R (ld l a)) (hn : x.next = .does .look) : MuRun C d x l (x.step0 C.M l).1 (x.step0 C.M l).2 := by
 obtain ⟨i, os, ⟨k0, k1, k2, k3⟩, roots, tasks, armed, still, tint, cycle, k, alloc, log, event, nx⟩ := x
 obtain rfl : nx = .does .look := hn
 have hrm0 : ∀ v, C.M.Room v ≥ 0 := fun v => (room_rng hM v).1
 have hB := hM.buffer
 have hle := hm.le
 have hl4 : tasks.length ≤ 4 := by simp only at hle; omega
 have hops := hm.ops
 rintro ov rv bf alv lgv nv RN ⟨rb, rest, m, rfl, hrm, b1, b2, tv, q, B, rfl, rfl, ⟨rfl, rfl⟩, rfl⟩
 refine ⟨179, [], [ptr b1, ptr b2], rfl, g179, ?_⟩
 refine Ct.of (vs := [ptr C.s, ptr b1, ptr b2]) Tryz.func179 rfl Tryz.ntmps179 (by simp) (loc_blks (loc_blks (loc_sep loc_BuR loc_OpsR) _) _) ?_
 intro w0 D0
 refine T.conv (fun w h => Sy.opens (H2 := [_]) h (loc_blks (loc_sep loc_BuR loc_OpsR) _)) <| T.bks (loc_sep loc_BuR loc_OpsR) ?_
 have hbu : (⟨log, bf, tasks⟩ : BuS).Ok C.M := BuS.ok_bf (hm.does _ rfl)
 have hk : k ≤ roots.length := hm.k rfl
 refine T.seq <| tx [0,1,2,3,4,5,6] (ct [5]) Z Z <| xld Z Z Z o83 (.s (.s .z)) Z <| xnc Z Z Z <| xfa Z Z Z f133_12 <| xld Z Z Z o129 .z Z <| xmv Z Z Z ?_
 refine xce Z Z Z Z g180 (Cv.sepF (ct_buStep (m := ⟨log, bf, tasks⟩) hM hbu hr) loc_OpsR) (loc_sep loc_BuR loc_OpsR) pend0 <| xas Z Z Z <| X.nil <| T.seq ?_
 refine T.any (ord := [0, 1, 2, 3, 4, 5, 6, 7, 8]) (lo := (fun _ => false)) (ef := (fun i => [8].contains i)) (by kernel_rfl) (fun _ h => h.drew) <| xld Z Z Z o83 (.s (.s .z)) Z <| xld Z Z Z o83 (.s (.s .z)) Z <| xnc Z Z Z <| xfa Z Z Z f133_12 ?_
 refine xld Z Z Z o129 .z Z <| xcq Z Z Z Z g181 (Cv.sepF bu_Event loc_OpsR) (loc_sep loc_BuR loc_OpsR) <| xnc Z Z Z <| xfa Z Z Z f133_13 <| xsta Z Z Z Z m33 Z Z .z (Nat.le_of_ble_eq_true Z) .z pend0 <| X.nil <| T.seq <| tx [0] nf Z Z <| xmv Z Z Z <| X.nil ?_
 refine T.cond Z ?_ ?_
 ·intro hb0
  have hl4n : (log.step C.M tasks l).2.1.length ≤ 4 := by have h4 := (does_ok hM (hm.does _ rfl) hr).le; have h5 : (((log.step C.M tasks l).2.1.length : Nat) : Int) ≤ C.M.buffer := h4; omega
  refine T.reb (H' := [_, _, _, _]) (loc_sep loc_BfR loc_OpsR) (Wk.blks (Wk.sep bu_bf (Wk.refl _)) _) <| tx [0,1] (ct [1]) Z Z <| xld Z Z Z o1 (.s (.s (.s .z))) Z ?_
  refine xcfp (H2 := [_, _]) (is := [0, 1]) (by decide) Z Z Z Z g113 Z (ct_look (x := ⟨i, os, ⟨k0, k1, k2, k3⟩, roots, (log.step C.M tasks l).2.1, armed, still, tint, cycle, k, alloc, (log.step C.M tasks l).1, (log.step C.M tasks l).1.event, .does .look⟩) hrm0 hl4n hk hm.len hrm) loc_MuR pend0 ?_
  refine X.nil <| T.end0 Z (fun W D h => ?_)
  rw [show (⟨i, os, ⟨k0, k1, k2, k3⟩, roots, tasks, armed, still, tint, cycle, k, alloc, log, event, .does .look⟩ : Mu).step0 C.M l = _ from if_pos (of_decide_eq_true hb0)]
  exact ⟨D, ⟨rfl, rfl, h⟩, fun _ hk => hk⟩
 ·intro hb0
  refine T.skip <| T.end0 Z (fun W D h => ?_)
  rw [show (⟨i, os, ⟨k0, k1, k2, k3⟩, roots, tasks, armed, still, tint, cycle, k, alloc, log, event, .does .look⟩ : Mu).step0 C.M l = _ from if_neg (of_decide_eq_false hb0)]
  exact ⟨D, ⟨rfl, rfl, _, _, _, _, _, _, _, ⟨rb, rest, m, rfl, hrm, b1, b2, _, q, _, rfl, rfl, ⟨rfl, rfl⟩, rfl⟩, h⟩, fun _ hk => hk⟩
set_option maxHeartbeats 1000000 in
theorem mu_does_ackRoots {C : Cx} {d : Nat} {x : Mu} {l : Wds} (hM : C.M.Ok) (hm : x.Ok C.M) (hr : ∀ a, u64R (ld l a)) (hn : x.next = .does .ackRoots) : MuRun C d x l (x.step0 C.M l).1 (x.step0 C.M l).2 := by
 obtain ⟨i, os, ⟨k0, k1, k2, k3⟩, roots, tasks, armed, still, tint, cycle, k, alloc, log, event, nx⟩ := x
 obtain rfl : nx = .does .ackRoots := hn
 have hrm0 : ∀ v, C.M.Room v ≥ 0 := fun v => (room_rng hM v).1
 have hB := hM.buffer
 have hle := hm.le
 have hl4 : tasks.length ≤ 4 := by simp only at hle; omega
 have hops := hm.ops
 rintro ov rv bf alv lgv nv RN ⟨rb, rest, m, rfl, hrm, b1, b2, tv, q, B, rfl, rfl, ⟨bq, rfl, rfl⟩, rfl⟩
 refine ⟨179, [], [ptr b1, ptr b2], rfl, g179, ?_⟩
 refine Ct.of (vs := [ptr C.s, ptr b1, ptr b2]) Tryz.func179 rfl Tryz.ntmps179 (by simp) (loc_blks (loc_blks (loc_sep loc_BuR loc_OpsR) _) _) ?_
 intro w0 D0
 refine T.conv (fun w h => Sy.opens (H2 := [_]) h (loc_blks (loc_sep loc_BuR loc_OpsR) _)) <| T.bks (loc_sep loc_BuR loc_OpsR) ?_
 have hbu : (⟨log, bf, tasks⟩ : BuS).Ok C.M := BuS.ok_bf (hm.does _ rfl)
 refine T.seq <| tx [0,1,2,3,4,5,6] (ct [5]) Z Z <| xld Z Z Z o83 (.s (.s .z)) Z <| xnc Z Z Z <| xfa Z Z Z f133_12 <| xld Z Z Z o129 .z Z <| xmv Z Z Z ?_
 refine xce Z Z Z Z g180 (Cv.sepF (ct_buStep (m := ⟨log, bf, tasks⟩) hM hbu hr) loc_OpsR) (loc_sep loc_BuR loc_OpsR) pend0 <| xas Z Z Z <| X.nil <| T.seq ?_
 refine T.any (ord := [0, 1, 2, 3, 4, 5, 6, 7, 8]) (lo := (fun _ => false)) (ef := (fun i => [8].contains i)) (by kernel_rfl) (fun _ h => h.drew) <| xld Z Z Z o83 (.s (.s .z)) Z <| xld Z Z Z o83 (.s (.s .z)) Z <| xnc Z Z Z <| xfa Z Z Z f133_12 ?_
 refine xld Z Z Z o129 .z Z <| xcq Z Z Z Z g181 (Cv.sepF bu_Event loc_OpsR) (loc_sep loc_BuR loc_OpsR) <| xnc Z Z Z <| xfa Z Z Z f133_13 <| xsta Z Z Z Z m33 Z Z .z (Nat.le_of_ble_eq_true Z) .z pend0 <| X.nil <| T.seq <| tx [0] nf Z Z <| xmv Z Z Z <| X.nil ?_
 refine T.cond Z ?_ ?_
 ·intro hb0
  have hl4n : (log.step C.M tasks l).2.1.length ≤ 4 := by have h4 := (does_ok hM (hm.does _ rfl) hr).le; have h5 : (((log.step C.M tasks l).2.1.length : Nat) : Int) ≤ C.M.buffer := h4; omega
  refine T.reb (H' := [_, _, _, _, _]) (loc_sep loc_BfR loc_OpsR) (Wk.blks (Wk.sep bu_bf (Wk.refl _)) _) <| tx [0,1] (ct [1]) Z Z <| xld Z Z Z o1 (.s (.s (.s .z))) Z ?_
  refine xcfp (H2 := [_, _, _]) (is := [0, 1, 4]) (by decide) Z Z Z Z g149 Z (ct_ackRoots (x := ⟨i, os, ⟨k0, k1, k2, k3⟩, roots, (log.step C.M tasks l).2.1, armed, still, tint, cycle, k, alloc, (log.step C.M tasks l).1, (log.step C.M tasks l).1.event, .does .ackRoots⟩) hrm) loc_MuR pend0 ?_
  refine X.nil <| T.end0 Z (fun W D h => ?_)
  rw [show (⟨i, os, ⟨k0, k1, k2, k3⟩, roots, tasks, armed, still, tint, cycle, k, alloc, log, event, .does .ackRoots⟩ : Mu).step0 C.M l = _ from if_pos (of_decide_eq_true hb0)]
  exact ⟨D, ⟨rfl, rfl, h⟩, fun _ hk => hk⟩
 ·intro hb0
  refine T.skip <| T.end0 Z (fun W D h => ?_)
  rw [show (⟨i, os, ⟨k0, k1, k2, k3⟩, roots, tasks, armed, still, tint, cycle, k, alloc, log, event, .does .ackRoots⟩ : Mu).step0 C.M l = _ from if_neg (of_decide_eq_false hb0)]
  exact ⟨D, ⟨rfl, rfl, _, _, _, _, _, _, _, ⟨rb, rest, m, rfl, hrm, b1, b2, _, q, _, rfl, rfl, ⟨bq, rfl, rfl⟩, rfl⟩, h⟩, fun _ hk => hk⟩
theorem i64_u64 {w : Int} (h : u64R w) : IntKind.i64.wrap w = if w < 9223372036854775808 then w else w - 18446744073709551616 := by
 rw [IntKind.wrap_i64]
 unfold u64R at h
 split <;> omega
theorem ack_eq {M : MapM} {i : Int} {os : List MOp} {op : MOp} {roots tasks : List Int} {armed still tint cycle : Int} {k : Nat} {alloc : Hp} {log : Bu} {event : Ev} {w : Int} {l : Wds} {tn : Int} (h : tn = if w = w64 (3 * cycle) then cycle else tint) :
  (⟨i, os, op, roots, tasks, armed, still, tint, cycle, k, alloc, log, event, .ack w⟩ : Mu).step0 M l = ((⟨i, os, op, roots, tasks, armed, still, tn, cycle, k, alloc, log, ⟨14, 0, if w < 9223372036854775808 then w else w - 18446744073709551616, 0, 0⟩, .ack w⟩ : Mu).begin_ M, put l (M.Ack i) w) := by
 subst h
 rfl
set_option maxHeartbeats 1000000 in
theorem mu_ack {C : Cx} {d : Nat} {x : Mu} {l : Wds} (hM : C.M.Ok) (hm : x.Ok C.M) (hr : ∀ a, u64R (ld l a)) {w : Int} (hn : x.next = .ack w) : MuRun C d x l (x.step0 C.M l).1 (x.step0 C.M l).2 := by
 obtain ⟨i, os, ⟨k0, k1, k2, k3⟩, roots, tasks, armed, still, tint, cycle, k, alloc, log, event, nx⟩ := x
 obtain rfl : nx = .ack w := hn
 have hrm0 : ∀ v, C.M.Room v ≥ 0 := fun v => (room_rng hM v).1
 have hB := hM.buffer
 have hle := hm.le
 have hl4 : tasks.length ≤ 4 := by simp only at hle; omega
 have hops := hm.ops
 rintro ov rv bf alv lgv nv RN ⟨rb, rest, m, rfl, hrm, b1, b2, rfl, rfl⟩
 refine ⟨147, [], [ptr b1, ptr b2], rfl, g147, ?_⟩
 refine Ct.of (vs := [ptr C.s, ptr b1, ptr b2]) Tryz.func147 rfl Tryz.ntmps147 (by simp) (loc_blks (loc_blks (loc_sep loc_BfR loc_OpsR) _) _) ?_
 intro w0 D0
 refine T.conv (fun w h => Sy.opens (H2 := [_]) h (loc_blks (loc_sep loc_BfR loc_OpsR) _)) <| T.bks (loc_sep loc_BfR loc_OpsR) <| T.seq ?_
 refine T.any (ord := [0, 1, 2, 3, 4, 5, 6, 7, 8, 9, 10, 11]) (lo := (fun _ => false)) (ef := (fun i => [11].contains i)) (by kernel_rfl) (fun _ h => h.drew) <| xmv Z Z Z <| xld Z Z Z o83 (.s (.s .z)) Z <| xnc Z Z Z <| xfa Z Z Z f133_0 ?_
 refine xld Z Z Z o39 .z Z <| xld Z Z Z o83 (.s (.s .z)) Z <| xnc Z Z Z <| xfa Z Z Z f133_1 <| xld Z Z Z o3 .z Z <| xcq Z Z Z Z g60 (ct_Ack) (loc_sep loc_BfR loc_OpsR) <| xld Z Z Z o90 (.s (.s (.s .z))) Z ?_
 refine xce Z Z Z Z g148 (ct_Put (loc_sep loc_BfR loc_OpsR) (hm.ack _ Z)) (loc_sep loc_BfR loc_OpsR) pend0 <| X.nil <| T.seq <| T.seq ?_
 refine T.any (ord := [0, 1, 2, 3, 4, 5, 6]) (lo := (fun _ => false)) (ef := (fun _ => false)) (by kernel_rfl) (fun _ h => h.drew) <| xld Z Z Z o90 (.s (.s (.s .z))) Z <| xld Z Z Z o83 (.s (.s .z)) Z <| xnc Z Z Z <| xfa Z Z Z f133_9 <| xld Z Z Z o90 .z Z ?_
 refine xarc Z Z Z Z Z (wrap64u _) <| xcm Z Z Z Z Z Z <| X.nil <| T.cond Z ?_ ?_
 ·intro hb0
  have hw : w = w64 (3 * cycle) := eq_of_beq hb0
  refine T.any (ord := [0, 1, 2, 3, 4, 5, 6, 7]) (lo := (fun _ => false)) (ef := (fun i => [7].contains i)) (by kernel_rfl) (fun _ h => h.drew) <| xld Z Z Z o83 (.s (.s .z)) Z <| xld Z Z Z o83 (.s (.s .z)) Z <| xnc Z Z Z <| xfa Z Z Z f133_9 ?_
  refine xld Z Z Z o90 .z Z <| xnc Z Z Z <| xfa Z Z Z f133_8 <| xst Z Z Z Z o90 Z .z Z .z pend0 <| X.nil <| T.seq <| tx [0,1,2,3,4,5,6] (ct [6]) Z Z <| xld Z Z Z o83 (.s (.s .z)) Z <| xld Z Z Z o90 (.s (.s (.s .z))) Z ?_
  refine xcvc Z Z Z u3_dInti64 u90_fun_true (i64_u64 (hm.ack _ Z)) <| xbd Z Z Z l33 z33 Z <| xnc Z Z Z <| xfa Z Z Z f133_13 <| xsta Z Z Z Z m33 Z Z .z (Nat.le_of_ble_eq_true Z) .z pend0 <| X.nil <| tx [0,1] (ct [1]) Z Z <| xld Z Z Z o83 (.s (.s .z)) Z ?_
  refine xcfp (H2 := [_, _]) (is := [0, 1]) (by decide) Z Z Z Z g62 Z (ct_begin (x := ⟨i, os, ⟨k0, k1, k2, k3⟩, roots, tasks, armed, still, cycle, cycle, k, alloc, log, ⟨14, 0, if w < 9223372036854775808 then w else w - 18446744073709551616, 0, 0⟩, .ack w⟩) hops hrm) loc_MuR pend0 ?_
  refine X.nil <| T.end0 Z (fun W D h => ?_)
  rw [ack_eq (tn := cycle) ((if_pos hw).symm)]
  exact ⟨D, ⟨rfl, rfl, h⟩, fun _ hk => hk⟩
 ·intro hb0
  have hw : ¬ w = w64 (3 * cycle) := ne_of_beq_false hb0
  refine T.skip <| T.seq <| tx [0,1,2,3,4,5,6] (ct [6]) Z Z <| xld Z Z Z o83 (.s (.s .z)) Z <| xld Z Z Z o90 (.s (.s (.s .z))) Z <| xcvc Z Z Z u3_dInti64 u90_fun_true (i64_u64 (hm.ack _ Z)) <| xbd Z Z Z l33 z33 Z <| xnc Z Z Z <| xfa Z Z Z f133_13 ?_
  refine xsta Z Z Z Z m33 Z Z .z (Nat.le_of_ble_eq_true Z) .z pend0 <| X.nil <| tx [0,1] (ct [1]) Z Z <| xld Z Z Z o83 (.s (.s .z)) Z ?_
  refine xcfp (H2 := [_, _]) (is := [0, 1]) (by decide) Z Z Z Z g62 Z (ct_begin (x := ⟨i, os, ⟨k0, k1, k2, k3⟩, roots, tasks, armed, still, tint, cycle, k, alloc, log, ⟨14, 0, if w < 9223372036854775808 then w else w - 18446744073709551616, 0, 0⟩, .ack w⟩) hops hrm) loc_MuR pend0 ?_
  refine X.nil <| T.end0 Z (fun W D h => ?_)
  rw [ack_eq (tn := tint) ((if_neg hw).symm)]
  exact ⟨D, ⟨rfl, rfl, h⟩, fun _ hk => hk⟩
theorem pop_eq {M : MapM} {i : Int} {os : List MOp} {op : MOp} {rs tasks : List Int} {v armed still tint cycle : Int} {k : Nat} {alloc : Hp} {log : Bu} {event : Ev} {l : Wds} :
  (⟨i, os, op, rs ++ [v], tasks, armed, still, tint, cycle, k, alloc, log, event, .pop⟩ : Mu).step0 M l = (⟨i, os, op, rs, tasks, armed, still, tint, cycle, k, alloc, log, ⟨11, 0, 0, 0, 0⟩, .safe⟩, l) := by
 unfold Mu.step0 Mu.end_
 simp only [dropLast_snoc]
set_option maxHeartbeats 1000000 in
theorem mu_pop {C : Cx} {d : Nat} {x : Mu} {l : Wds} (hM : C.M.Ok) (hm : x.Ok C.M) (hr : ∀ a, u64R (ld l a)) (hn : x.next = .pop) : MuRun C d x l (x.step0 C.M l).1 (x.step0 C.M l).2 := by
 obtain ⟨i, os, ⟨k0, k1, k2, k3⟩, roots, tasks, armed, still, tint, cycle, k, alloc, log, event, nx⟩ := x
 obtain rfl : nx = .pop := hn
 have hrm0 : ∀ v, C.M.Room v ≥ 0 := fun v => (room_rng hM v).1
 have hB := hM.buffer
 have hle := hm.le
 have hl4 : tasks.length ≤ 4 := by simp only at hle; omega
 have hops := hm.ops
 rintro ov rv bf alv lgv nv RN ⟨rb, rest, m, rfl, hrm, rfl, rfl⟩
 refine ⟨96, [ptr d], [], rfl, g96, ?_⟩
 refine Ct.of (vs := [ptr d, ptr C.s]) Tryz.func96 rfl Tryz.ntmps96 (by simp) (loc_blks (loc_blks (loc_sep loc_BfR loc_OpsR) _) _) ?_
 intro w0 D0
 refine T.conv (fun w h => Sy.opens (H2 := [_]) h (loc_blks (loc_sep loc_BfR loc_OpsR) _)) <| T.bks (loc_sep loc_BfR loc_OpsR) ?_
 obtain ⟨rs, v, rfl⟩ : ∃ rs v, roots = rs ++ [v] := ⟨_, _, (List.dropLast_concat_getLast (hm.pop rfl)).symm⟩
 have hrs : rs.length + 1 ≤ 8 := by have := hm.len; simpa using this
 have hrm2 : rs.length + 1 + rest.length = m := by simpa using hrm
 refine T.seq <| T.any (ord := [0, 1, 2, 3, 4, 5, 6, 7, 8, 9, 10, 11, 12, 13, 14]) (lo := (fun _ => false)) (ef := (fun i => [14].contains i)) (by kernel_rfl) (fun _ h => h.drew) <| xmv Z Z Z <| xmv Z Z Z <| xnc Z Z Z <| xfa Z Z Z f133_4 ?_
 refine xld Z Z Z o41 .z Z <| xmv Z Z Z <| xnc Z Z Z <| xfa Z Z Z f133_4 <| xld Z Z Z o41 .z Z <| xlen Z Z Z u41_dSlice ?_
 refine xarc (c := ((rs.length : Nat) : Int)) Z Z Z Z Z (by simp only [ari, List.length_append, List.length_singleton]; rw [IntWalk.i64_in _ (by omega)]; omega) <| xsl (k := rs.length) Z Z Z Z s41 ⟨Int.natCast_nonneg _, by omega, rfl⟩ <| xnc Z Z Z ?_
 refine xfa Z Z Z f133_4 <| xst Z Z Z Z o41 Z .z Z .z pend0 <| X.nil <| tx [0,1,2] (ct [2]) Z Z <| xmv Z Z Z <| xbd Z Z Z l33 z33 Z ?_
 refine xcb (H1 := []) (H2 := _ :: _) (H2' := _ :: _) Z Z Z Z g117 Z (ct_muend (loc_sep loc_BfR loc_OpsR)) (loc_sep loc_BfR loc_OpsR) Z pend0 <| X.nil <| T.end0 Z (fun W D h => ?_)
 rw [pop_eq]
 have h' : blks [_, ⟨rb, 3, i64s (rs ++ [v]) ++ rest⟩] _ D W := h
 rw [i64s_snoc] at h'
 exact ⟨D, ⟨rfl, rfl, _, _, _, _, _, _, _, ⟨rb, .int .i64 v :: rest, m, rfl, by simp only [List.length_cons]; omega, rfl, rfl⟩, h'⟩, fun _ hk => hk⟩
set_option maxHeartbeats 1000000 in
theorem mu_fail {C : Cx} {d : Nat} {x : Mu} {l : Wds} (hM : C.M.Ok) (hm : x.Ok C.M) (hr : ∀ a, u64R (ld l a)) {e : Int} (hn : x.next = .fail e) : MuRun C d x l (x.step0 C.M l).1 (x.step0 C.M l).2 := by
 obtain ⟨i, os, ⟨k0, k1, k2, k3⟩, roots, tasks, armed, still, tint, cycle, k, alloc, log, event, nx⟩ := x
 obtain rfl : nx = .fail e := hn
 have hrm0 : ∀ v, C.M.Room v ≥ 0 := fun v => (room_rng hM v).1
 have hB := hM.buffer
 have hle := hm.le
 have hl4 : tasks.length ≤ 4 := by simp only at hle; omega
 have hops := hm.ops
 rintro ov rv bf alv lgv nv RN ⟨rb, rest, m, rfl, hrm, b1, b2, rfl, rfl⟩
 refine ⟨92, [], [ptr b1, ptr b2], rfl, g92, ?_⟩
 refine Ct.of (vs := [ptr C.s, ptr b1, ptr b2]) Tryz.func92 rfl Tryz.ntmps92 (by simp) (loc_blks (loc_blks (loc_sep loc_BfR loc_OpsR) _) _) ?_
 intro w0 D0
 refine T.conv (fun w h => Sy.opens (H2 := [_]) h (loc_blks (loc_sep loc_BfR loc_OpsR) _)) <| T.bks (loc_sep loc_BfR loc_OpsR) <| tx [0,1,2] (ct [2]) Z Z <| xld Z Z Z o83 (.s (.s .z)) Z <| xld Z Z Z o27 (.s (.s (.s .z))) Z ?_
 refine xcb (H1 := []) (H2 := _ :: _) (H2' := _ :: _) Z Z Z Z g93 Z (ct_mufail (loc_sep loc_BfR loc_OpsR)) (loc_sep loc_BfR loc_OpsR) Z pend0 <| X.nil <| T.end0 Z (fun W D h => ?_)
 rw [show (⟨i, os, ⟨k0, k1, k2, k3⟩, roots, tasks, armed, still, tint, cycle, k, alloc, log, event, .fail e⟩ : Mu).step0 C.M l = _ from rfl]
 obtain ⟨D1, h1, h2⟩ := blks_pick [0, 1] (by decide) h
 exact ⟨D1, ⟨rfl, rfl, _, _, _, _, _, _, _, ⟨rb, rest, m, rfl, hrm, rfl, rfl⟩, h1⟩, h2⟩
set_option maxHeartbeats 1000000 in
theorem mu_made {C : Cx} {d : Nat} {x : Mu} {l : Wds} (hM : C.M.Ok) (hm : x.Ok C.M) (hr : ∀ a, u64R (ld l a)) (hn : x.next = .made) : MuRun C d x l (x.step0 C.M l).1 (x.step0 C.M l).2 := by
 obtain ⟨i, os, ⟨k0, k1, k2, k3⟩, roots, tasks, armed, still, tint, cycle, k, alloc, log, event, nx⟩ := x
 obtain rfl : nx = .made := hn
 have hrm0 : ∀ v, C.M.Room v ≥ 0 := fun v => (room_rng hM v).1
 have hB := hM.buffer
 have hle := hm.le
 have hl4 : tasks.length ≤ 4 := by simp only at hle; omega
 have hops := hm.ops
 rintro ov rv bf alv lgv nv RN ⟨rb, rest, m, rfl, hrm, rfl, q, rfl, rfl⟩
 refine ⟨94, [ptr d], [], rfl, g94, ?_⟩
 refine Ct.of (vs := [ptr d, ptr C.s]) Tryz.func94 rfl Tryz.ntmps94 (by simp) (loc_blks (loc_blks (loc_sep loc_HpR (loc_sep loc_BfR loc_OpsR)) _) _) ?_
 intro w0 D0
 refine T.conv (fun w h => Sy.opens (H2 := [_]) h (loc_blks (loc_sep loc_HpR (loc_sep loc_BfR loc_OpsR)) _)) <| T.bks (loc_sep loc_HpR (loc_sep loc_BfR loc_OpsR)) ?_
 have hr8 : roots.length < 8 := (hm.made rfl).2.1
 have hrm2 : roots.length + rest.length = m := hrm
 refine T.seq <| T.seq <| tx [0,1,2,3,4,5,6] (ct [5]) Z Z <| xmv Z Z Z <| xnc Z Z Z <| xfa Z Z Z f133_11 <| xld Z Z Z o128 .z Z <| xmv Z Z Z ?_
 refine xce Z Z Z Z g118 (Cv.sepF (ct_hpStep hM (hm.made Z).1 hr) (loc_sep loc_BfR loc_OpsR)) (loc_sep loc_HpR (loc_sep loc_BfR loc_OpsR)) pend0 <| xnot Z Z Z <| X.nil <| T.cond Z ?_ ?_
 ·intro hb0
  refine T.ret0 Z (fun W D h => ?_)
  have hn : ¬ (alloc.step C.M l).1.next = .nil := by simpa using hb0
  rw [show (⟨i, os, ⟨k0, k1, k2, k3⟩, roots, tasks, armed, still, tint, cycle, k, alloc, log, event, .made⟩ : Mu).step0 C.M l = _ from if_neg hn]
  exact ⟨D, ⟨rfl, rfl, _, _, _, _, _, _, _, ⟨rb, rest, m, rfl, hrm, rfl, _, rfl, rfl⟩, h⟩, fun _ hk => hk⟩
 ·intro hb0
  have hn0 : (alloc.step C.M l).1.next = .nil := by simpa using hb0
  refine T.skip <| T.seq <| tx [0,1,2,3,4,5,6,7,8,9] nf Z Z <| xmv Z Z Z <| xnc Z Z Z <| xfa Z Z Z f133_11 <| xld Z Z Z o128 .z Z <| xcq Z Z Z Z g119 (Cv.sepF hp_Node (loc_sep loc_BfR loc_OpsR)) (loc_sep loc_HpR (loc_sep loc_BfR loc_OpsR)) <| xmv Z Z Z ?_
  refine xex Z Z Z Z <| xex Z Z Z Z <| xas Z Z Z <| xas Z Z Z <| X.nil <| T.seq <| T.seq <| tx [0,1] nf Z Z <| xmv Z Z Z <| xcm Z Z Z Z Z Z <| X.nil <| T.cond Z ?_ ?_
  ·intro hb1
   refine T.seq <| tx [0,1,2] (ct [2]) Z Z <| xmv Z Z Z <| xmv Z Z Z <| xcb (H1 := []) (H2 := _ :: _) (H2' := _ :: _) Z Z Z Z g93 Z (ct_mufail (loc_sep loc_HpR (loc_sep loc_BfR loc_OpsR))) (loc_sep loc_HpR (loc_sep loc_BfR loc_OpsR)) Z pend0 <| X.nil ?_
   refine T.ret0 Z (fun W D h => ?_)
   rw [show (⟨i, os, ⟨k0, k1, k2, k3⟩, roots, tasks, armed, still, tint, cycle, k, alloc, log, event, .made⟩ : Mu).step0 C.M l = _ from (if_pos hn0).trans (if_pos (neqT hb1))]
   obtain ⟨D1, h1, h2⟩ := Wk.blks Wk.right [_, _] D W h
   exact ⟨D1, ⟨rfl, rfl, _, _, _, _, _, _, _, ⟨rb, rest, m, rfl, hrm, rfl, rfl⟩, h1⟩, h2⟩
  ·intro hb1
   refine T.skip <| T.seq <| tx [0,1,2,3,4,5,6,7,8,9,10] (ct [6,7,10]) Z Z <| xmv Z Z Z <| xmv Z Z Z <| xnc Z Z Z <| xfa Z Z Z f133_4 <| xld Z Z Z o41 .z Z <| xmv Z Z Z <| xbs Z Z Z s41 z3 (by decide) Z Z Z (fun _ => pend0) (fun b0 => ?_)
   refine xapg (Hr := [_, _]) (cs := i64s roots) (rest := rest) (rest2 := []) Z Z Z s41 Z (slv_roots hrm).1 (slv_roots hrm).2 .z Z (by simp [isCell]) ⟨by omega, (show roots.length + 1 ≤ 1000000 by omega), by omega, by omega, (show roots.length ≤ m by omega)⟩ (i64s_app roots _) (show roots.length + 1 = (roots ++ [(alloc.step C.M l).1.node]).length by simp) (fun _ _ => pend0) (fun q1 rs cm hcm => ?_)
   refine xnc Z Z Z <| xfa Z Z Z f133_4 <| xst Z Z Z Z o41 Z (.s (.s .z)) Z (.s (.s .z)) pend0 <| X.nil <| tx [0,1,2,3,4,5,6] (ct [6]) Z Z <| xmv Z Z Z <| xmv Z Z Z <| xnc Z Z Z <| xfa Z Z Z f133_11 <| xld Z Z Z o128 (.s (.s .z)) Z ?_
   refine xcq Z Z Z Z g120 (Cv.sepF hp_Event (loc_sep loc_BfR loc_OpsR)) (loc_sep loc_HpR (loc_sep loc_BfR loc_OpsR)) ?_
   refine xcb (H1 := [_, _]) (H2 := _ :: _) (H2' := _ :: _) Z Z Z Z g117 Z (ct_muend (loc_sep loc_HpR (loc_sep loc_BfR loc_OpsR))) (loc_sep loc_HpR (loc_sep loc_BfR loc_OpsR)) Z pend0 <| X.nil <| T.end0 Z (fun W D h => ?_)
   rw [show (⟨i, os, ⟨k0, k1, k2, k3⟩, roots, tasks, armed, still, tint, cycle, k, alloc, log, event, .made⟩ : Mu).step0 C.M l = _ from (if_pos hn0).trans (if_neg (fun h => h (neqF hb1)))]
   obtain ⟨D0, g1, g2⟩ := Wk.pick [2, 0] (by decide) D W h
   obtain ⟨D1, h1, g3⟩ := Wk.blks Wk.right [_, _] D0 W g1
   exact ⟨D1, ⟨rfl, rfl, _, _, _, _, _, _, _, ⟨q1, rs, cm, rfl, by have := hcm.2; rw [sl_i64s, Nat.mul_one] at this; exact this, rfl, rfl⟩, h1⟩, fun k hk => g2 k (g3 k hk)⟩
theorem mu_run {C : Cx} {d : Nat} {x : Mu} {l : Wds} (hM : C.M.Ok) (hm : x.Ok C.M) (hr : ∀ a, u64R (ld l a)) : MuRun C d x l (x.step0 C.M l).1 (x.step0 C.M l).2 := by
 have hal := hm.al
 cases h : x.next with
 | safe => exact mu_safe hM hm hr h
 | made => exact mu_made hM hm hr h
 | pop => exact mu_pop hM hm hr h
 | fail e => exact mu_fail hM hm hr h
 | ack w => exact mu_ack hM hm hr h
 | does t =>
  cases t with
  | begin_ => exact mu_does_begin_ hM hm hr h
  | look => exact mu_does_look hM hm hr h
  | ackRoots => exact mu_does_ackRoots hM hm hr h
  | logNew => rw [h] at hal; cases hal
  | setWrite => rw [h] at hal; cases hal
 | head => rw [h] at hal; cases hal
 | dup => rw [h] at hal; cases hal
 | read => rw [h] at hal; cases hal
 | old => rw [h] at hal; cases hal
 | write => rw [h] at hal; cases hal
theorem u131_dFun : undIs 131 (dFun) = true := by kernel_rfl
theorem u83_dPtr : undIs 83 (dPtr) = true := by kernel_rfl
set_option maxHeartbeats 1000000 in
theorem mu_Step {C : Cx} {d : Nat} {m m' : Mu} {l l' : Wds} (hrun : MuRun C d { m with event := ev0 } l m' l') : Cv C 64 [ptr d, ptr C.s] l (MuR C d m) (.tuple #[]) l' (MuR C d m') := by
 refine Ct.of (vs := [ptr d, ptr C.s]) Tryz.func64 rfl Tryz.ntmps64 (by simp) loc_MuR ?_
 intro w0 D0
 refine T.ex (fun _ => loc_ex fun _ => loc_ex fun _ => loc_ex fun _ => loc_ex fun _ => loc_Mch loc_MuNx) ?_
 intro ov
 refine T.ex (fun _ => loc_ex fun _ => loc_ex fun _ => loc_ex fun _ => loc_Mch loc_MuNx) ?_
 intro rv
 refine T.ex (fun _ => loc_ex fun _ => loc_ex fun _ => loc_Mch loc_MuNx) ?_
 intro bf
 refine T.ex (fun _ => loc_ex fun _ => loc_Mch loc_MuNx) ?_
 intro alv
 refine T.ex (fun _ => loc_Mch loc_MuNx) ?_
 intro lgv
 refine T.mch (H := []) loc_MuNx ?_
 intro nv RN hN hl
 obtain ⟨fid, fs, cs, rfl, hg, hc⟩ := hrun ov rv bf alv lgv nv RN hN
 refine T.seq <| T.seq <| tx [0,1,2,3,4,5,6,7,8] nf Z Z <| xmv Z Z Z <| xnp Z Z Z Z u83_dPtr <| xmv Z Z Z <| xmv Z Z Z <| xnc Z Z Z <| xfa Z Z Z f133_14 <| xld Z Z Z o131 .z Z <| xnf Z Z Z Z u131_dFun <| xpk Z Z Z Z <| X.nil <| T.no Z <| T.skip <| T.seq ?_
 refine tx [0,1,2,3,4] (ct [4]) Z Z <| xmv Z Z Z <| xbd Z Z Z l33 z33 Z <| xnc Z Z Z <| xfa Z Z Z f133_13 <| xsta Z Z Z Z m33 Z Z .z (Nat.le_of_ble_eq_true Z) .z pend0 <| X.nil <| tx [0,1,2,3,4,5] (ct [5]) Z Z <| xmv Z Z Z <| xnc Z Z Z <| xfa Z Z Z f133_14 ?_
 refine xld Z Z Z o131 .z Z <| xmv Z Z Z <| xcf (H1 := []) (H2 := [_]) Z Z Z Z hg Z hc loc_MuR pend0 <| X.nil <| T.end0 Z (fun W D h => ?_)
 exact ⟨D, ⟨rfl, rfl, h⟩, fun _ hk => hk⟩
set_option maxHeartbeats 1000000 in
theorem mu_Event {C : Cx} {d : Nat} {m : Mu} {l : Wds} : Cv C 286 [ptr d] l (MuR C d m) (.agg m.event.cells.toArray) l (MuR C d m) := by
 refine Ct.of (vs := [ptr d]) Tryz.func286 rfl Tryz.ntmps286 (by simp) loc_MuR ?_
 intro w0 D0
 refine T.ex (fun _ => loc_ex fun _ => loc_ex fun _ => loc_ex fun _ => loc_ex fun _ => loc_Mch loc_MuNx) ?_
 intro ov
 refine T.ex (fun _ => loc_ex fun _ => loc_ex fun _ => loc_ex fun _ => loc_Mch loc_MuNx) ?_
 intro rv
 refine T.ex (fun _ => loc_ex fun _ => loc_ex fun _ => loc_Mch loc_MuNx) ?_
 intro bf
 refine T.ex (fun _ => loc_ex fun _ => loc_Mch loc_MuNx) ?_
 intro alv
 refine T.ex (fun _ => loc_Mch loc_MuNx) ?_
 intro lgv
 refine T.mch (H := []) loc_MuNx ?_
 intro nv RN hN hl
 refine T.seq <| tx [0] (ct [0]) Z Z <| xal Z Z z33 (fun _ => pend0) (fun b0 => ?_)
 refine X.nil <| T.seq <| T.seq <| tx [0,1] nf Z Z <| xmv Z Z Z <| xnp Z Z Z Z u83_dPtr <| X.nil <| T.no Z <| T.skip <| T.seq <| tx [0,1,2,3,4] (ct [4]) Z Z <| xmv Z Z Z <| xnc Z Z Z <| xfa Z Z Z f133_13 <| xlda Z Z Z m33 (.s .z) Z ?_
 refine xsta Z Z Z Z m33 Z Z .z (Nat.le_of_ble_eq_true Z) .z pend0 <| X.nil <| T.retc Z Z m33 .z Z (fun W D h => ?_)
 obtain ⟨D1, h1, h2⟩ := blks_tail h
 exact ⟨D1, ⟨rfl, rfl, ov, rv, bf, alv, lgv, nv, RN, hN, h1⟩, h2⟩
theorem Mu.noev_ok {M : MapM} {m : Mu} (hm : m.Ok M) : ({ m with event := ev0 } : Mu).Ok M := ⟨hm.roots, hm.len, hm.ops, hm.cyc, hm.tasks, hm.le, hm.lt, hm.k, hm.made, hm.al, hm.does, hm.pop, hm.ack⟩
theorem ct_muStep {C : Cx} {d : Nat} {m : Mu} {l : Wds} (hM : C.M.Ok) (hm : m.Ok C.M) (hr : ∀ a, u64R (ld l a)) : Cv C 64 [ptr d, ptr C.s] l (MuR C d m) (.tuple #[]) (m.step C.M l).2 (MuR C d (m.step C.M l).1) :=
 mu_Step (mu_run hM (Mu.noev_ok hm) hr)
theorem Hp.new_ok {s mk : Int} (hk : u64R mk) : (Hp.new s mk).Ok := by
 have z : u64R 0 := by unfold u64R; omega
 have z2 : u32R 0 := by unfold u32R; omega
 refine ⟨?_, hk, z, z2, z2, by simp [Hp.new], by simp [Hp.new], fun _ => by simp [Hp.new], fun h => ?_⟩
 ·simp only [Hp.new]
  by_cases hc : classOf s ≥ 0
  ·left
   unfold classOf at hc
   split at hc
   ·omega
   ·split at hc
    ·omega
    ·split at hc
     ·omega
     ·split at hc
      ·omega
      ·split at hc
       ·omega
       ·split at hc <;> omega
  ·right
   rw [if_neg hc]
 ·simp only [Hp.new] at h
  split at h <;> cases h
theorem Hp.step_node {M : MapM} {m : Hp} {l : Wds} (hm : m.Ok) (h : u32R m.node) : u32R (m.step M l).1.node := by
 unfold Hp.step Hp.step0
 split
 ·exact h
 ·split <;> exact h
 ·exact h
 ·split
  ·exact h
  ·split <;> exact h
 ·exact h
 ·exact h
 ·exact h
 ·exact hm.v
structure Mu.Bk (M : MapM) (x : Mu) : Prop where
 roots : ∀ v ∈ x.roots, u32R v
 len : x.roots.length ≤ 8
 ops : ∀ o ∈ x.ops, o.kind = 0 ∨ o.kind = 3
 cyc : u64R x.armed ∧ u64R x.still ∧ u64R x.tint ∧ u64R x.cycle
 tasks : ∀ t ∈ x.tasks, u64R t
 lt : (x.tasks.length : Int) < M.buffer
theorem Mu.Bk.ok {M : MapM} {x : Mu} (h : x.Bk M) (hn : x.next = .safe ∨ (∃ e, x.next = .fail e) ∨ ∃ w, x.next = .ack w ∧ u64R w) : x.Ok M := by
 refine ⟨h.roots, h.len, h.ops, h.cyc, h.tasks, by have := h.lt; omega, fun _ => h.lt, fun e => ?_, fun e => ?_, ?_, fun t e => ?_, fun e => ?_, fun w e => ?_⟩
 ·rcases hn with h1 | ⟨_, h1⟩ | ⟨_, h1, -⟩ <;> rw [h1] at e <;> cases e
 ·rcases hn with h1 | ⟨_, h1⟩ | ⟨_, h1, -⟩ <;> rw [h1] at e <;> cases e
 ·rcases hn with h1 | ⟨_, h1⟩ | ⟨_, h1, -⟩ <;> rw [h1] <;> rfl
 ·rcases hn with h1 | ⟨_, h1⟩ | ⟨_, h1, -⟩ <;> rw [h1] at e <;> cases e
 ·rcases hn with h1 | ⟨_, h1⟩ | ⟨_, h1, -⟩ <;> rw [h1] at e <;> cases e
 ·rcases hn with h1 | ⟨_, h1⟩ | ⟨_, h1, h2⟩ <;> rw [h1] at e <;> cases e
  exact h2
theorem Mu.begin_ok {M : MapM} (hM : M.Ok) {x : Mu} (h : x.Bk M) : (x.begin_ M).Ok M := by
 unfold Mu.begin_
 split
 ·exact Mu.Bk.ok ⟨h.roots, h.len, h.ops, h.cyc, h.tasks, h.lt⟩ (.inl rfl)
 ·rename_i o r ho
  have hr : ∀ o' ∈ r, o'.kind = 0 ∨ o'.kind = 3 := fun o' h' => h.ops o' (by rw [ho]; simp [h'])
  have ho' := h.ops o (by rw [ho]; simp)
  split
  ·exact Mu.Bk.ok ⟨h.roots, h.len, hr, h.cyc, h.tasks, h.lt⟩ (.inr (.inl ⟨_, rfl⟩))
  ·rename_i hmay
   have hmay : Mu.may M { x with op := o, ops := r } = 0 := Classical.not_not.1 hmay
   split
   ·rename_i hk
    refine ⟨h.roots, h.len, hr, h.cyc, h.tasks, by have := h.lt; simp only; omega, fun _ => h.lt, (fun e => nomatch e), fun _ => ⟨Hp.new_ok h.cyc.2.2.1, ?_, by unfold u32R; simp [Hp.new]⟩, rfl, (fun t e => nomatch e), (fun e => nomatch e), fun w e => nomatch e⟩
    rw [Mu.may0 (x := { x with op := o, ops := r }) hk] at hmay
    have hq := hM.roots
    split at hmay
    ·cases hmay
    ·simp only at *; omega
   ·rename_i hk
    have hk3 : o.kind = 3 := ho'.resolve_left hk
    have hf : Mu.first { x with op := o, ops := r } = .pop := by
     unfold Mu.first
     simp only
     rw [if_neg (by omega), if_neg (by omega), if_neg (by omega), if_pos hk3]
    refine ⟨h.roots, h.len, hr, h.cyc, h.tasks, by have := h.lt; simp only; omega, fun _ => h.lt, (fun e => by simp only [hf] at e; cases e), (fun e => by simp only [hf] at e; cases e), by simp only [hf]; rfl, (fun t e => by simp only [hf] at e; cases e), fun _ => ?_, fun w e => by simp only [hf] at e; cases e⟩
    rw [Mu.may3 (x := { x with op := o, ops := r }) hk3] at hmay
    split at hmay
    ·cases hmay
    ·rename_i h0
     exact fun e => h0 (by simp only at e ⊢; rw [e]; rfl)
theorem BuS.log_ok {M : MapM} {v c : Int} {ts : List Int} (hv : u32R v) (hc : u64R c) (ht : ∀ t ∈ ts, u64R t) (hl : (ts.length : Int) < M.buffer) : (⟨.log v c, 0, ts⟩ : BuS).Ok M :=
 ⟨hv, Cl.new_ok hc, Pk.take_ok, ht, by simp only; omega, fun _ => hl, fun h => nomatch h⟩
theorem BuS.flush_ok {M : MapM} (hM : M.Ok) {ts : List Int} (h0 : ts ≠ []) (ht : ∀ t ∈ ts, u64R t) (hl : (ts.length : Int) < M.buffer) : (⟨.flush ts, 0, ts⟩ : BuS).Ok M := by
 have hB := hM.buffer
 have z : u64R 0 := by unfold u64R; omega
 have z2 : u32R 0 := by unfold u32R; omega
 have e : Bu.flush ts = ⟨0, .new 0 0, .put ts, ev0, .puts⟩ := by unfold Bu.flush; rw [if_neg h0]
 rw [e]
 exact ⟨z2, Cl.new_ok z, Pk.put_ok ht (by omega), ht, by simp only; omega, (fun h => (h rfl).elim), fun _ => h0⟩
theorem Mu.does_ok {M : MapM} {x : Mu} (h : x.Bk M) {t : Thn} {b : Bu} (hb : (⟨b, 0, x.tasks⟩ : BuS).Ok M) (ht : Mu.al (.does t) = true) (hk : t = .look → x.k ≤ x.roots.length) : ({ x with log := b, next := .does t } : Mu).Ok M :=
 ⟨h.roots, h.len, h.ops, h.cyc, h.tasks, by have := h.lt; simp only; omega, fun _ => h.lt, (fun e => hk (by simpa using e)), (fun e => nomatch e), ht, fun _ _ => hb, (fun e => nomatch e), fun w e => nomatch e⟩
theorem Mu.flushRoots_ok {M : MapM} (hM : M.Ok) {x : Mu} (h : x.Bk M) : (x.flushRoots).Ok M := by
 unfold Mu.flushRoots
 split
 ·exact Mu.Bk.ok ⟨h.roots, h.len, h.ops, h.cyc, h.tasks, h.lt⟩ (.inr (.inr ⟨_, rfl, w64_rng _⟩))
 ·rename_i h0
  exact Mu.does_ok h (BuS.flush_ok hM h0 h.tasks h.lt) rfl (fun e => nomatch e)
theorem Mu.lookN_ok {M : MapM} (hM : M.Ok) : ∀ (n : Nat) {x : Mu} (h : x.Bk M) (hk : x.k + n ≤ x.roots.length), (x.lookN M n).Ok M
 | 0, x, h, _ => Mu.flushRoots_ok hM h
 | n + 1, x, h, hk => by
  unfold Mu.lookN
  have hk1 : x.k + 1 ≤ x.roots.length := by omega
  have h' : ({ x with k := x.k + 1 } : Mu).Bk M := ⟨h.roots, h.len, h.ops, h.cyc, h.tasks, h.lt⟩
  split
  ·exact Mu.lookN_ok hM n h' (by simp only; omega)
  ·refine Mu.does_ok h' (BuS.log_ok ?_ h.cyc.2.2.2 h.tasks h.lt) rfl (fun _ => hk1)
   exact h.roots _ (getD_mem (by omega))
theorem Mu.look_ok {M : MapM} (hM : M.Ok) {x : Mu} (h : x.Bk M) (hk : x.k ≤ x.roots.length) : (x.look M).Ok M := Mu.lookN_ok hM _ h (by omega)
theorem Mu.step_ok {M : MapM} (hM : M.Ok) {x : Mu} {l : Wds} (hm : x.Ok M) (hr : ∀ a, u64R (ld l a)) : (x.step M l).1.Ok M := by
 have hc : u64R (ld l 0 / 8) := by have := hr 0; unfold u64R at *; omega
 have hbk : (∀ t, x.next ≠ .does t) → x.Bk M := fun h => ⟨hm.roots, hm.len, hm.ops, hm.cyc, hm.tasks, hm.lt h⟩
 have hal := hm.al
 unfold Mu.step Mu.step0
 split
 ·rename_i hn
  have hn' : x.next = .pop := hn
  have h := hbk (by rw [hn']; exact fun t h => nomatch h)
  have hd : x.roots.dropLast.length = x.roots.length - 1 := List.length_dropLast
  refine Mu.Bk.ok ⟨fun v hv => h.roots v (List.dropLast_subset _ hv), ?_, h.ops, h.cyc, h.tasks, h.lt⟩ (.inl rfl)
  have := h.len
  simp only [Mu.end_]
  omega
 ·rename_i hn
  rw [show x.next = .dup from hn] at hal; cases hal
 ·rename_i e hn
  have hn' : x.next = .fail e := hn
  have h := hbk (by rw [hn']; exact fun t h => nomatch h)
  exact Mu.Bk.ok ⟨h.roots, h.len, h.ops, h.cyc, h.tasks, h.lt⟩ (.inl rfl)
 ·rename_i hn
  have hn' : x.next = .made := hn
  have h := hbk (by rw [hn']; exact fun t h => nomatch h)
  obtain ⟨h1, h2, h3⟩ := hm.made hn'
  have h4 := Hp.step_ok hM (l := l) h1 hr
  have h5 := Hp.step_node (M := M) (l := l) h1 h3
  split
  ·split
   ·exact Mu.Bk.ok ⟨h.roots, h.len, h.ops, h.cyc, h.tasks, h.lt⟩ (.inl rfl)
   ·refine Mu.Bk.ok ⟨fun v hv => ?_, ?_, h.ops, h.cyc, h.tasks, h.lt⟩ (.inl rfl)
    ·rcases List.mem_append.1 hv with hv | hv
     ·exact h.roots v hv
     ·rw [List.mem_singleton.1 hv]; exact h5
    ·simp only [Mu.end_, List.length_append, List.length_singleton]
     omega
  ·exact ⟨h.roots, h.len, h.ops, h.cyc, h.tasks, hm.le, fun _ => h.lt, (fun e => by have e' : x.next = _ := e; rw [hn'] at e'; cases e'), fun _ => ⟨h4, h2, h5⟩, hm.al, (fun t e => by have e' : x.next = _ := e; rw [hn'] at e'; cases e'), (fun e => by have e' : x.next = _ := e; rw [hn'] at e'; cases e'), fun w e => by have e' : x.next = _ := e; rw [hn'] at e'; cases e'⟩
 ·rename_i hn
  rw [show x.next = .head from hn] at hal; cases hal
 ·rename_i hn
  rw [show x.next = .read from hn] at hal; cases hal
 ·rename_i hn
  rw [show x.next = .old from hn] at hal; cases hal
 ·rename_i hn
  rw [show x.next = .write from hn] at hal; cases hal
 ·rename_i t hn
  have hn' : x.next = .does t := hn
  have h1 := hm.does t hn'
  have h2 := BuS.step_ok hM h1 hr
  have hts : ∀ t ∈ (x.log.step M x.tasks l).2.1, u64R t := h2.ts
  split
  ·rename_i hnil
   have hlt : ((x.log.step M x.tasks l).2.1.length : Int) < M.buffer := h2.lt (by
    show (x.log.step M x.tasks l).1.next ≠ .puts
    rw [show (x.log.step M x.tasks l).1.next = .nil from hnil]
    exact fun h => nomatch h)
   have hb : ({ x with log := (x.log.step M x.tasks l).1, tasks := (x.log.step M x.tasks l).2.1, event := (x.log.step M x.tasks l).1.event } : Mu).Bk M := ⟨hm.roots, hm.len, hm.ops, hm.cyc, hts, hlt⟩
   cases t with
   | begin_ => exact Mu.begin_ok hM hb
   | look => exact Mu.look_ok hM hb (hm.k hn')
   | ackRoots => exact Mu.Bk.ok ⟨hm.roots, hm.len, hm.ops, hm.cyc, hts, hlt⟩ (.inr (.inr ⟨_, rfl, w64_rng _⟩))
   | logNew => rw [hn'] at hal; cases hal
   | setWrite => rw [hn'] at hal; cases hal
  ·have h3 : ((x.log.step M x.tasks l).2.1.length : Int) ≤ M.buffer := h2.le
   exact ⟨hm.roots, hm.len, hm.ops, hm.cyc, hts, h3, fun h => (h t hn').elim, hm.k, (fun e => by have e' : x.next = _ := e; rw [hn'] at e'; cases e'), hm.al, fun _ _ => h2, (fun e => by have e' : x.next = _ := e; rw [hn'] at e'; cases e'), fun w e => by have e' : x.next = _ := e; rw [hn'] at e'; cases e'⟩
 ·rename_i hn
  have hn' : x.next = .safe := hn
  have h := hbk (by rw [hn']; exact fun t h => nomatch h)
  split
  ·exact Mu.Bk.ok ⟨h.roots, h.len, h.ops, ⟨hc, h.cyc.2.1, h.cyc.2.2.1, hc⟩, h.tasks, h.lt⟩ (.inr (.inr ⟨_, rfl, w64_rng _⟩))
  ·split
   ·exact Mu.Bk.ok ⟨h.roots, h.len, h.ops, ⟨h.cyc.1, hc, h.cyc.2.2.1, hc⟩, h.tasks, h.lt⟩ (.inr (.inr ⟨_, rfl, w64_rng _⟩))
   ·split
    ·exact Mu.look_ok hM ⟨h.roots, h.len, h.ops, ⟨h.cyc.1, h.cyc.2.1, h.cyc.2.2.1, hc⟩, h.tasks, h.lt⟩ (Nat.zero_le _)
    ·split
     ·exact Mu.begin_ok hM ⟨h.roots, h.len, h.ops, ⟨h.cyc.1, h.cyc.2.1, h.cyc.2.2.1, hc⟩, h.tasks, h.lt⟩
     ·rename_i h0
      exact Mu.does_ok (x := { x with event := ev0, cycle := ld l 0 / 8 }) ⟨h.roots, h.len, h.ops, ⟨h.cyc.1, h.cyc.2.1, h.cyc.2.2.1, hc⟩, h.tasks, h.lt⟩ (BuS.flush_ok hM h0 h.tasks h.lt) rfl (fun e => nomatch e)
 ·rename_i w hn
  have hn' : x.next = .ack w := hn
  have h := hbk (by rw [hn']; exact fun t h => nomatch h)
  refine Mu.begin_ok hM ⟨h.roots, h.len, h.ops, ⟨h.cyc.1, h.cyc.2.1, ?_, h.cyc.2.2.2⟩, h.tasks, h.lt⟩
  simp only
  split
  ·exact h.cyc.2.2.2
  ·exact h.cyc.2.2.1
theorem Mu.step_rng {M : MapM} {x : Mu} {l : Wds} (hm : x.Ok M) (hr : Rng l) : Rng (x.step M l).2 := by
 have hal := hm.al
 unfold Mu.step Mu.step0
 split
 ·exact hr
 ·exact hr
 ·exact hr
 ·rename_i hn
  have h1 := Hp.step_rng (M := M) (hm.made hn).1 hr
  split
  ·split <;> exact h1
  ·exact h1
 ·rename_i hn
  rw [show x.next = .head from hn] at hal; cases hal
 ·exact hr
 ·rename_i hn
  rw [show x.next = .old from hn] at hal; cases hal
 ·rename_i hn
  rw [show x.next = .write from hn] at hal; cases hal
 ·rename_i t hn
  have h1 := BuS.step_rng (hm.does t hn) hr
  split <;> exact h1
 ·split
  ·exact hr
  ·split
   ·exact hr
   ·split
    ·exact hr
    ·split <;> exact hr
 ·rename_i w hn
  exact hr.put (hm.ack w hn)
theorem arrB_of {t et len : Nat} (h : arrB t et len = true) : Tryz.prog.underlying t = some (.array len et) := by
  unfold arrB at h
  split at h
  · rename_i n e hu
    simp only [Bool.and_eq_true, beq_iff_eq] at h
    rw [hu, h.1, h.2]
  · cases h
theorem run_builda {t et len : Nat} {zs : List Value} {pv : List (Nat × Value)} (ht : arrB t et len = true) (h1 : one et = true) (hz : zer t = some zs) (hok : okParts (rows 1 len 0) zs.length pv = true) (w : World) :
    (Instr.build t pv.toArray).run Tryz.prog w = .ok (.agg (bldv (rows 1 len 0) zs pv).toArray) w := by
  have hu := arrB_of ht
  obtain ⟨inf, z, hi, hz1, hc⟩ := zer_of hz
  have hu' : (underlying t).run Tryz.prog w = .ok (.array len et) w := by unfold underlying; simp [go_sem, hu]
  have hzc : (zeroValue t).run Tryz.prog w = .ok z w := by unfold zeroValue typeInfo; simp [go_sem, hi, hz1]
  have hsz := (run_isAgg_one h1 w).2
  have hf := run_fill2 (lay := rows 1 len 0) (place := fun i => some (i * 1, 1)) (fun i x hx => by rw [rows_get hx, Nat.zero_add]) pv zs hok
  have hcz : z.cells = zs.toArray := by rw [← hc]
  unfold Instr.build
  simp only [Sem.run_bind, hu', Result.andThen_ok, hsz, hzc, hcz, hf, Sem.run_pure]
theorem run_ixa {t et len b off : Nat} {k : IntKind} {i : Int} (ht : arrB t et len = true) (h1 : one et = true) (h0 : 0 ≤ i ∧ i < len) (w : World) :
    (Instr.indexAt t (.pointer (some ⟨b, off, none⟩)) (.int k i)).run Tryz.prog w = .ok (.pointer (some ⟨b, off + i.toNat, none⟩)) w := by
  have hu := arrB_of ht
  have hu' : (underlying t).run Tryz.prog w = .ok (.array len et) w := by unfold underlying; simp [go_sem, hu]
  have hsz := (run_isAgg_one h1 w).2
  have ha : (asIntOf (.int k i)).run Tryz.prog w = .ok (k, i) w := by simp [asIntOf, go_sem]
  have hs : (Instr.sureAddr (.pointer (some ⟨b, off, none⟩))).run Tryz.prog w = .ok ⟨b, off, none⟩ w := by simp [Instr.sureAddr, go_sem]
  unfold Instr.indexAt
  simp only [Sem.run_bind, ha, Result.andThen_ok, hu', hs, Sem.run_pure, h0, and_self, if_true, hsz, Nat.mul_one, addr_add]
section
variable {C : Cx} {w0 : World} {D0 : Dom} {l l' : Wds} {H H' H1 H2 H2' : List Bk} {R R' : Asr}
variable {ops : Array Oper} {lo ef : Nat → Bool} {K : (World → Prop) → Env → Prop} {i : Nat} {rr : List Nat} {S : World → Prop} {U : List (Nat × Value)} {e : Env} {d : Option Nat} {ty : Nat} {ps : String} {af : Array Edge} {gd : Option (Nat × Bool)} {x y z : Operand} {v : Value}
theorem xbda {t et len : Nat} {parts : Array (Nat × Operand)} {zs : List Value} {pv : List (Nat × Value)} (ho : ops[i]? = some ⟨d, .build t parts, ty, ps, af, gd⟩) (hef0 : (ef i, wantedE ops ⟨d, .build t parts, ty, ps, af, gd⟩ e) = (false, true)) (hp : evop e parts.toList = some pv) (ht : arrB t et len = true) (h1 : one et = true) (hz : zer t = some zs) (hok : okParts (rows 1 len 0) zs.length pv = true)
    (h : X Tryz.prog ops lo ef K rr S (bif lo i then (i, .agg (bldv (rows 1 len 0) zs pv).toArray) :: U else U) (pute d (.agg (bldv (rows 1 len 0) zs pv).toArray) e)) : X Tryz.prog ops lo ef K (i :: rr) S U e := have ⟨hef, hw⟩ := tri2 hef0;
  x_val ho hef hw (fun w _ => by
    have h2 : (parts.map fun (p : Nat × Operand) => (p.1, ev e p.2)) = pv.toArray := by
      cases parts with
      | mk l =>
        rw [← evop_of hp]
        simp
    refine exv (m := Instr.build t (parts.map fun (p : Nat × Operand) => (p.1, ev e p.2))) rfl ?_
    rw [h2]
    exact run_builda ht h1 hz hok w) h
theorem xixa {t et len b off : Nat} {k : IntKind} {j : Int} (ho : ops[i]? = some ⟨d, .indexAddr t x y, ty, ps, af, gd⟩) (hef0 : (ef i, wantedE ops ⟨d, .indexAddr t x y, ty, ps, af, gd⟩ e) = (false, true)) (hx : evo e x = some (.pointer (some ⟨b, off, none⟩))) (hy : evo e y = some (.int k j)) (ht : arrB t et len = true) (h1 : one et = true) (h0 : 0 ≤ j ∧ j < len)
    (h : X Tryz.prog ops lo ef K rr S (bif lo i then (i, .pointer (some ⟨b, off + j.toNat, none⟩)) :: U else U) (pute d (.pointer (some ⟨b, off + j.toNat, none⟩)) e)) : X Tryz.prog ops lo ef K (i :: rr) S U e := have ⟨hef, hw⟩ := tri2 hef0;
  x_val ho hef hw (fun w _ => exv (m := Instr.indexAt t (ev e x) (ev e y)) rfl (by rw [ev_of hx, ev_of hy]; exact run_ixa ht h1 h0 w)) h
end
theorem in_r : ∀ {H1 : List Bk} {b : Nat} {cs : List Value} {H2 : List Bk}, In b cs H2 → In b cs (H1 ++ H2)
  | [], _, _, _, h => h
  | _ :: _, _, _, _, h => .s (in_r h)
theorem Wk.front (H B : List Bk) (R : Asr) : Wk (Mo.blks (H ++ B) R) (Mo.blks H R) := by
  rw [blks_app]
  exact Wk.blks (Wk.drop B R) H
def De.cs (C : Cx) (x : De) : List Value := [ptr C.m, .int .i64 x.doing, .int .u64 x.cycle, .int .i64 x.turn, .int .i64 x.event.kind, .int .i64 x.event.who, .int .i64 x.event.a, .int .i64 x.event.b, .int .i64 x.event.c]
def DeR (C : Cx) (d : Nat) (x : De) : Asr := blks [⟨d, 117, x.cs C⟩] emp
theorem loc_DeR {C : Cx} {d : Nat} {x : De} : Loc (DeR C d x) := loc_blks loc_emp _
structure De.Ok (M : MapM) (x : De) : Prop where
  doing : x.doing < 14
  cycle : u64R x.cycle
  turn : 0 ≤ x.turn ∧ x.turn ≤ 4
  lt : x.doing = 1 ∨ x.doing = 3 ∨ x.doing = 5 → x.turn < M.mutators
theorem ct_part3 {C : Cx} {l : Wds} {R : Asr} (hl : Loc R) {x : Int} (hx : 0 ≤ x ∧ x ≤ 18446744073709551615) : Cv C 102 [.int .u64 x, .int .i64 3] l R (.tuple #[.int .u64 (x / 8), .int .u64 (x % 8)]) l R := Cv.getn hl fun w _ => part3_calls w x hx
theorem run_shl3 {t : Nat} {a : Int} (w : World) : (binOp .shl t (.int .u64 a) (.int .u64 3)).run Tryz.prog w = .ok (.int .u64 (w64 (a * 8))) w := by
  have : IntKind.u64.wrap (a * 8) = w64 (a * 8) := IntKind.wrap_u64 _
  rw [← this]
  simp [binOp, go_sem]
theorem run_or {t : Nat} {a b c : Int} (h : bits .or .u64 a b = c) (w : World) : (binOp .or t (.int .u64 a) (.int .u64 b)).run Tryz.prog w = .ok (.int .u64 c) w := by
  subst h
  simp [binOp, go_sem]
theorem gd_num {op : BinOp} {x y : Operand} {t : Nat} {a b : Int} {j k : IntKind} (w : World) : (eqGuard op t x y (.int j a) (.int k b)).run Tryz.prog w = .ok () w := by
  cases op <;> rfl
theorem run_rem14 {t : Nat} {a : Nat} (w : World) : (binOp .rem t (.int .i64 ((a : Nat) : Int)) (.int .i64 14)).run Tryz.prog w = .ok (.int .i64 ((a % 14 : Nat) : Int)) w := by
  have h : ((a : Nat) : Int).tmod 14 = ((a % 14 : Nat) : Int) := by rw [Int.tmod_eq_emod_of_nonneg (by omega)]; omega
  rw [← h]
  exact run_remi (by decide) w
theorem run_rem2 {t : Nat} {a : Int} (w : World) : (binOp .rem t (.int .i64 a) (.int .i64 2)).run Tryz.prog w = .ok (.int .i64 (a.tmod 2)) w := run_remi (by decide) w
theorem tmod2 {a : Int} : (a.tmod 2 == 0) = decide (a % 2 = 0) := by
  have h1 := Int.emod_two_eq a
  have h2 := Int.tmod_two_eq a
  have h3 := Int.mul_tdiv_add_tmod a 2
  by_cases h : a % 2 = 0
  · rw [decide_eq_true h, beq_iff_eq]; omega
  · rw [decide_eq_false h, beq_eq_false_iff_ne]; omega
theorem De.said_eq {M : MapM} {x : De} {least : Int} {l : Wds} : x.said M least l = ({ x with turn := (x.said M least l).1.turn, doing := (x.said M least l).1.doing }, l) := by
  unfold De.said
  split
  · rfl
  · split <;> rfl
def DeB (d : Nat) (q : Nat → Nat) : List Bk :=
  [⟨q 0, 75, [ptr d]⟩, ⟨q 1, 3, [.int .i64 2]⟩, ⟨q 2, 75, [ptr d]⟩, ⟨q 3, 3, [.int .i64 3]⟩, ⟨q 4, 75, [ptr d]⟩, ⟨q 5, 3, [.int .i64 4]⟩, ⟨q 6, 75, [ptr d]⟩, ⟨q 7, 3, [.int .i64 8]⟩,
   ⟨q 8, 75, [ptr d]⟩, ⟨q 9, 3, [.int .i64 9]⟩, ⟨q 10, 75, [ptr d]⟩, ⟨q 11, 3, [.int .i64 5]⟩, ⟨q 12, 75, [ptr d]⟩, ⟨q 13, 3, [.int .i64 0]⟩]
abbrev clo2 (f a b : Nat) : Value := .func (.func f) #[] #[ptr a, ptr b]
def DeV (d : Nat) (q : Nat → Nat) : List Value :=
  [fm 125 d, fm 126 d, clo2 162 (q 0) (q 1), fm 128 d, clo2 162 (q 2) (q 3), fm 129 d, clo2 162 (q 4) (q 5), clo2 164 (q 6) (q 7), clo2 164 (q 8) (q 9), fm 131 d, fm 132 d, clo2 162 (q 10) (q 11), fm 133 d, clo2 162 (q 12) (q 13)]
theorem a172 : arrB 172 171 14 = true := by kernel_rfl
theorem f117_0 : fld 117 0 0 = true := by kernel_rfl
theorem f117_1 : fld 117 1 1 = true := by kernel_rfl
theorem f117_2 : fld 117 2 2 = true := by kernel_rfl
theorem f117_3 : fld 117 3 3 = true := by kernel_rfl
theorem f117_4 : fld 117 4 4 = true := by kernel_rfl
theorem f24_2 : fld 24 2 6 = true := by kernel_rfl
theorem g102 : fnB 102 = true := by kernel_rfl
theorem g127 : fnB 127 = true := by kernel_rfl
theorem g130 : fnB 130 = true := by kernel_rfl
theorem g161 : fnB 161 = true := by kernel_rfl
theorem g162 : fnB 162 = true := by kernel_rfl
theorem g163 : fnB 163 = true := by kernel_rfl
theorem m172 : many 172 14 = true := by kernel_rfl
theorem o171 : one 171 = true := by kernel_rfl
theorem o75 : one 75 = true := by kernel_rfl
theorem t24_2 : fldT 24 2 3 = true := by kernel_rfl
theorem u177_dIntu64 : undIs 177 (dInt .u64) = true := by kernel_rfl
theorem z172 : zer 172 = some [.nilFunc, .nilFunc, .nilFunc, .nilFunc, .nilFunc, .nilFunc, .nilFunc, .nilFunc, .nilFunc, .nilFunc, .nilFunc, .nilFunc, .nilFunc, .nilFunc] := by kernel_rfl
theorem phaseW_rng {c p : Int} (hp : 0 ≤ p ∧ p ≤ 7) : 0 ≤ phaseW c p ∧ phaseW c p ≤ 18446744073709551615 := by unfold phaseW w64; omega
theorem said1 {M : MapM} {x : De} {least : Int} {l : Wds} (h : ld l (M.Ack x.turn) < least) : x.said M least l = (x, l) := if_pos h
theorem said2 {M : MapM} {x : De} {least : Int} {l : Wds} (h : ¬ ld l (M.Ack x.turn) < least) (h2 : x.turn + 1 < M.mutators) : x.said M least l = ({ x with turn := x.turn + 1 }, l) := (if_neg h).trans (if_pos h2)
theorem said3 {M : MapM} {x : De} {least : Int} {l : Wds} (h : ¬ ld l (M.Ack x.turn) < least) (h2 : ¬ x.turn + 1 < M.mutators) : x.said M least l = ({ x with turn := x.turn + 1, doing := x.doing + 1 }, l) := (if_neg h).trans (if_neg h2)
set_option maxHeartbeats 1000000 in
theorem ct_PhaseW0 {C : Cx} {l : Wds} {c p : Int} (hp : 0 ≤ p ∧ p ≤ 7) : Cv C 163 [.int .u64 c, .int .i64 p] l emp (.int .u64 (phaseW c p)) l emp := by
 have h3 : bits .or .u64 (w64 (c * 8)) (p % 8) = phaseW c p := by
  rw [show p % 8 = p by omega]
  exact or3 (w64 (c * 8)) p (w64_rng _) (by unfold w64; omega) hp
 refine Ct.of (vs := [.int .u64 c, .int .i64 p]) Tryz.func163 rfl Tryz.ntmps163 (by simp) loc_emp ?_
 intro w0 D0
 refine T.seq <| tx [0] nf Z Z <| xas Z Z Z <| X.nil <| T.seq <| tx [0,1,2,3,4,5,6,7] nf Z Z <| xmv Z Z Z <| xcvc Z Z Z u177_dIntu64 u3_fun_true (IntWalk.u64_in p (by omega)) <| xcq Z Z Z Z g102 (ct_part3 loc_emp (by omega)) loc_emp <| xmv Z Z Z ?_
 refine xex Z Z Z Z <| xex Z Z Z Z <| xas Z Z Z <| xas Z Z Z <| X.nil <| T.seq <| tx [0,1,2,3,4] nf Z Z <| xmv Z Z Z <| xbo Z Z Z Z gd_num run_shl3 <| xmv Z Z Z <| xbo Z Z Z Z gd_num (run_or (c := phaseW c p) h3) <| xas Z Z Z <| X.nil ?_
 refine T.ret1 Z (fun W D h => ?_)
 exact ⟨D, ⟨rfl, rfl, h⟩, fun _ hk => hk⟩
set_option maxHeartbeats 1000000 in
theorem ct_tellNew {C : Cx} {l : Wds} {d : Nat} {p : Int} : Cc C 127 [ptr d, .int .i64 p] l (fun a b => clo2 162 a b) (fun a b => [⟨a, 75, [ptr d]⟩, ⟨b, 3, [.int .i64 p]⟩]) := by
 refine Ct.of (vs := [ptr d, .int .i64 p]) Tryz.func127 rfl Tryz.ntmps127 (by simp) loc_emp ?_
 intro w0 D0
 refine T.seq <| tx [0,1,2] (ct [0,1]) Z Z <| xbx Z Z Z Z (fun _ => pend0) (fun b0 => ?_)
 refine xbx Z Z Z Z (fun _ => pend0) (fun b1 => ?_)
 refine xas Z Z Z <| X.nil <| T.seq <| tx [0,1] nf Z Z <| xmf Z Z Z Z <| xas Z Z Z <| X.nil <| T.ret1 Z (fun W D h => ?_)
 obtain ⟨D1, h1, h2⟩ := blks_pick [1, 0] (by decide) h
 exact ⟨D1, ⟨b0, b1, rfl, rfl, h1⟩, h2⟩
set_option maxHeartbeats 1000000 in
theorem ct_countNew {C : Cx} {l : Wds} {d : Nat} {p : Int} : Cc C 130 [ptr d, .int .i64 p] l (fun a b => clo2 164 a b) (fun a b => [⟨a, 75, [ptr d]⟩, ⟨b, 3, [.int .i64 p]⟩]) := by
 refine Ct.of (vs := [ptr d, .int .i64 p]) Tryz.func130 rfl Tryz.ntmps130 (by simp) loc_emp ?_
 intro w0 D0
 refine T.seq <| tx [0,1,2] (ct [0,1]) Z Z <| xbx Z Z Z Z (fun _ => pend0) (fun b0 => ?_)
 refine xbx Z Z Z Z (fun _ => pend0) (fun b1 => ?_)
 refine xas Z Z Z <| X.nil <| T.seq <| tx [0,1] nf Z Z <| xmf Z Z Z Z <| xas Z Z Z <| X.nil <| T.ret1 Z (fun W D h => ?_)
 obtain ⟨D1, h1, h2⟩ := blks_pick [1, 0] (by decide) h
 exact ⟨D1, ⟨b0, b1, rfl, rfl, h1⟩, h2⟩
set_option maxHeartbeats 1000000 in
theorem ct_tell {C : Cx} {l : Wds} {d : Nat} {x : De} {Hx : List Bk} {R : Asr} {dr : Int} {a b : Nat} {ph : Int} (hl : Loc R) (hA : In a [ptr d] Hx) (hB : In b [.int .i64 ph] Hx) (hp : 0 ≤ ph ∧ ph ≤ 7) (hd : x.doing < 14) (hc : u64R x.cycle) : Cv C 162 [ptr C.s, .int .i64 dr, ptr a, ptr b] l (blks (⟨d, 117, x.cs C⟩ :: Hx) R) (.int .i64 (((x.doing + 1) % 14 : Nat) : Int)) (put l 0 (phaseW x.cycle ph)) (blks (⟨d, 117, ({ x with turn := 0, event := ⟨7, 0, ph, if x.cycle < 9223372036854775808 then x.cycle else x.cycle - 18446744073709551616, 0⟩ } : De).cs C⟩ :: Hx) R) := by
 obtain ⟨doing, cycle, turn, event⟩ := x
 simp only at hd hc
 refine Ct.of (vs := [ptr C.s, .int .i64 dr, ptr a, ptr b]) Tryz.func162 rfl Tryz.ntmps162 (by simp) (loc_blks hl _) ?_
 intro w0 D0
 refine T.conv (fun w h => Sy.opens (H2 := _ :: Hx) h hl) <| T.seq <| tx [0] nf Z Z <| xas Z Z Z <| X.nil <| T.seq ?_
 refine T.any (ord := [0, 1, 2, 3, 4, 5, 6, 7, 8, 9, 10, 11, 12]) (lo := (fun _ => false)) (ef := (fun i => [12].contains i)) (by kernel_rfl) (fun _ h => h.drew) <| xmv Z Z Z <| xld Z Z Z o75 (.s hA) Z <| xnc Z Z Z <| xfa Z Z Z f117_0 <| xld Z Z Z o39 .z Z ?_
 refine xcq Z Z Z Z g83 (ct_Phase) hl <| xld Z Z Z o75 (.s hA) Z <| xnc Z Z Z <| xfa Z Z Z f117_2 <| xld Z Z Z o90 .z Z <| xld Z Z Z o3 (.s hB) Z <| xcq Z Z Z Z g163 (Cv.frame hl (ct_PhaseW0 hp)) hl <| xce Z Z Z Z g148 (ct_Put hl (phaseW_rng hp)) hl pend0 ?_
 refine X.nil <| T.seq <| T.any (ord := [0, 1, 2, 3, 4, 5, 6, 7, 8, 9, 10]) (lo := (fun _ => false)) (ef := (fun i => [10].contains i)) (by kernel_rfl) (fun _ h => h.drew) <| xld Z Z Z o75 (.s hA) Z <| xld Z Z Z o3 (.s hB) Z <| xld Z Z Z o75 (.s hA) Z ?_
 refine xnc Z Z Z <| xfa Z Z Z f117_2 <| xld Z Z Z o90 .z Z <| xcvc Z Z Z u3_dInti64 u90_fun_true (i64_u64 hc) <| xbd Z Z Z l33 z33 Z <| xnc Z Z Z <| xfa Z Z Z f117_4 <| xsta Z Z Z Z m33 Z Z .z (Nat.le_of_ble_eq_true Z) .z pend0 <| X.nil <| T.seq ?_
 refine tx [0,1,2,3] (ct [3]) Z Z <| xld Z Z Z o75 (.s hA) Z <| xnc Z Z Z <| xfa Z Z Z f117_3 <| xst Z Z Z Z o3 Z .z Z .z pend0 <| X.nil <| T.seq <| tx [0,1,2,3,4,5,6] nf Z Z <| xld Z Z Z o75 (.s hA) Z <| xnc Z Z Z <| xfa Z Z Z f117_1 <| xld Z Z Z o3 .z Z ?_
 refine xarc (c := ((doing + 1 : Nat) : Int)) Z Z Z Z Z (by simp only [ari]; rw [IntWalk.i64_in _ (by omega)]; omega) <| xbo Z Z Z Z gd_num run_rem14 <| xas Z Z Z <| X.nil <| T.ret1 Z (fun W D h => ?_)
 exact ⟨D, ⟨rfl, rfl, h⟩, fun _ hk => hk⟩
set_option maxHeartbeats 1000000 in
theorem ct_count {C : Cx} {l : Wds} {d : Nat} {x : De} {Hx : List Bk} {R : Asr} {dr : Int} {a b thn : Nat} (hl : Loc R) (hA : In a [ptr d] Hx) (hB : In b [.int .i64 ((thn : Nat) : Int)] Hx) : Cv C 164 [ptr C.s, .int .i64 dr, ptr a, ptr b] l (blks (⟨d, 117, x.cs C⟩ :: Hx) R) (.int .i64 (((x.count thn l).1.doing : Nat) : Int)) l (blks (⟨d, 117, x.cs C⟩ :: Hx) R) := by
 refine Ct.of (vs := [ptr C.s, .int .i64 dr, ptr a, ptr b]) Tryz.func164 rfl Tryz.ntmps164 (by simp) (loc_blks hl _) ?_
 intro w0 D0
 refine T.conv (fun w h => Sy.opens (H2 := _ :: Hx) h hl) <| T.seq <| tx [0] nf Z Z <| xas Z Z Z <| X.nil <| T.seq <| T.seq <| tx [0,1,2,3,4,5,6,7] nf Z Z <| xmv Z Z Z <| xld Z Z Z o75 (.s hA) Z <| xnc Z Z Z <| xfa Z Z Z f117_0 <| xld Z Z Z o39 .z Z ?_
 refine xcq Z Z Z Z g165 (ct_Work) hl <| xcq Z Z Z Z g32 (ct_Load hl) hl <| xcm Z Z Z Z Z Z <| X.nil <| T.cond Z ?_ ?_
 ·intro hb0
  refine T.seq <| tx [0] nf Z Z <| xas Z Z Z <| X.nil <| T.ret1 Z (fun W D h => ?_)
  rw [show (De.count _ thn l).1.doing = _ from if_pos (neqT hb0)]
  exact ⟨D, ⟨rfl, rfl, h⟩, fun _ hk => hk⟩
 ·intro hb0
  refine T.skip <| T.seq <| tx [0,1] nf Z Z <| xld Z Z Z o3 (.s hB) Z <| xas Z Z Z <| X.nil <| T.ret1 Z (fun W D h => ?_)
  rw [show (De.count _ thn l).1.doing = _ from if_neg (fun h => h (neqF hb0))]
  exact ⟨D, ⟨rfl, rfl, h⟩, fun _ hk => hk⟩
set_option maxHeartbeats 1000000 in
theorem ct_said {C : Cx} {l : Wds} {d : Nat} {x : De} {Hx : List Bk} {R : Asr} {dr : Int} {least : Int} (hl : Loc R) (ht : 0 ≤ x.turn ∧ x.turn ≤ 4) (hd : x.doing < 14) : Cv C 161 [ptr d, ptr C.s, .int .u64 least] l (blks (⟨d, 117, x.cs C⟩ :: Hx) R) (.int .i64 (((x.said C.M least l).1.doing : Nat) : Int)) l (blks (⟨d, 117, ({ x with turn := (x.said C.M least l).1.turn } : De).cs C⟩ :: Hx) R) := by
 obtain ⟨doing, cycle, turn, event⟩ := x
 simp only at ht hd
 refine Ct.of (vs := [ptr d, ptr C.s, .int .u64 least]) Tryz.func161 rfl Tryz.ntmps161 (by simp) (loc_blks hl _) ?_
 intro w0 D0
 refine T.conv (fun w h => Sy.opens (H2 := _ :: Hx) h hl) <| T.seq <| tx [0] nf Z Z <| xas Z Z Z <| X.nil <| T.seq <| T.seq ?_
 refine T.any (ord := [0, 1, 2, 3, 4, 5, 6, 7, 8, 9, 10, 11, 12]) (lo := (fun _ => false)) (ef := (fun _ => false)) (by kernel_rfl) (fun _ h => h.drew) <| xmv Z Z Z <| xmv Z Z Z <| xnc Z Z Z <| xfa Z Z Z f117_0 <| xld Z Z Z o39 .z Z <| xmv Z Z Z ?_
 refine xnc Z Z Z <| xfa Z Z Z f117_3 <| xld Z Z Z o3 .z Z <| xcq Z Z Z Z g60 (ct_Ack) hl <| xcq Z Z Z Z g32 (ct_Load hl) hl <| xmv Z Z Z <| xcm Z Z Z Z Z Z <| X.nil <| T.cond Z ?_ ?_
 ·intro hb0
  refine T.seq <| tx [0,1,2,3,4] nf Z Z <| xmv Z Z Z <| xnc Z Z Z <| xfa Z Z Z f117_1 <| xld Z Z Z o3 .z Z <| xas Z Z Z <| X.nil <| T.ret1 Z (fun W D h => ?_)
  rw [said1 (of_decide_eq_true hb0)]
  exact ⟨D, ⟨rfl, rfl, h⟩, fun _ hk => hk⟩
 ·intro hb0
  refine T.skip <| T.seq <| tx [0,1,2,3,4,5,6,7] (ct [7]) Z Z <| xmv Z Z Z <| xnc Z Z Z <| xfa Z Z Z f117_3 <| xld Z Z Z o3 .z Z <| xarc (c := turn + 1) Z Z Z Z Z (wrap64i (show -9223372036854775808 ≤ turn + 1 ∧ turn + 1 ≤ 9223372036854775807 by omega)) ?_
  refine xnc Z Z Z <| xfa Z Z Z f117_3 <| xst Z Z Z Z o3 Z .z Z .z pend0 <| X.nil <| T.seq <| T.seq <| T.any (ord := [0, 1, 2, 3, 4, 5, 6, 7, 8, 9, 10]) (lo := (fun _ => false)) (ef := (fun _ => false)) (by kernel_rfl) (fun _ h => h.drew) <| xmv Z Z Z ?_
  refine xnc Z Z Z <| xfa Z Z Z f117_3 <| xld Z Z Z o3 .z Z <| xmv Z Z Z <| xnc Z Z Z <| xfa Z Z Z f117_0 <| xld Z Z Z o39 .z Z <| xcq Z Z Z Z g115 (ct_ConfigR hl) hl <| xfd Z Z Z f24_2 t24_2 o3 Z <| xcm Z Z Z Z Z Z <| X.nil <| T.cond Z ?_ ?_
  ·intro hb1
   refine T.seq <| tx [0,1,2,3,4] nf Z Z <| xmv Z Z Z <| xnc Z Z Z <| xfa Z Z Z f117_1 <| xld Z Z Z o3 .z Z <| xas Z Z Z <| X.nil <| T.ret1 Z (fun W D h => ?_)
   rw [said2 (of_decide_eq_false hb0) (of_decide_eq_true hb1)]
   exact ⟨D, ⟨rfl, rfl, h⟩, fun _ hk => hk⟩
  ·intro hb1
   refine T.skip <| T.seq <| tx [0,1,2,3,4,5] nf Z Z <| xmv Z Z Z <| xnc Z Z Z <| xfa Z Z Z f117_1 <| xld Z Z Z o3 .z Z <| xarc (c := ((doing + 1 : Nat) : Int)) Z Z Z Z Z (by simp only [ari]; rw [IntWalk.i64_in _ (by omega)]; omega) <| xas Z Z Z <| X.nil ?_
   refine T.ret1 Z (fun W D h => ?_)
   rw [said3 (of_decide_eq_false hb0) (of_decide_eq_false hb1)]
   exact ⟨D, ⟨rfl, rfl, h⟩, fun _ hk => hk⟩
set_option maxHeartbeats 1000000 in
theorem ct_arm {C : Cx} {l : Wds} {d : Nat} {x : De} {Hx : List Bk} {R : Asr} {dr : Int} (hl : Loc R) (ht : 0 ≤ x.turn ∧ x.turn ≤ 4) (hd : x.doing < 14) : Cv C 126 [ptr d, ptr C.s, .int .i64 dr] l (blks (⟨d, 117, x.cs C⟩ :: Hx) R) (.int .i64 (((x.said C.M (w64 (3 * x.cycle - 2)) l).1.doing : Nat) : Int)) l (blks (⟨d, 117, ({ x with turn := (x.said C.M (w64 (3 * x.cycle - 2)) l).1.turn } : De).cs C⟩ :: Hx) R) := by
 obtain ⟨doing, cycle, turn, event⟩ := x
 simp only at ht hd
 refine Ct.of (vs := [ptr d, ptr C.s, .int .i64 dr]) Tryz.func126 rfl Tryz.ntmps126 (by simp) (loc_blks hl _) ?_
 intro w0 D0
 refine T.conv (fun w h => Sy.opens (H2 := _ :: Hx) h hl) <| T.seq <| tx [0] nf Z Z <| xas Z Z Z <| X.nil <| T.seq <| tx [0,1,2,3,4,5,6,7,8,9] (ct [8]) Z Z <| xmv Z Z Z <| xmv Z Z Z <| xmv Z Z Z <| xnc Z Z Z <| xfa Z Z Z f117_2 <| xld Z Z Z o90 .z Z ?_
 refine xarc Z Z Z Z Z (wrap64u _) <| xarc (c := w64 (3 * cycle - 2)) Z Z Z Z Z (w3m (by omega)) <| xcb (H1 := []) (H2 := _ :: _) (H2' := _ :: _) Z Z Z Z g161 Z (ct_said (dr := dr) (x := ⟨doing, cycle, turn, event⟩) hl ht hd) hl Z pend0 <| xas Z Z Z ?_
 refine X.nil <| T.ret1 Z (fun W D h => ?_)
 exact ⟨D, ⟨rfl, rfl, h⟩, fun _ hk => hk⟩
set_option maxHeartbeats 1000000 in
theorem ct_settle {C : Cx} {l : Wds} {d : Nat} {x : De} {Hx : List Bk} {R : Asr} {dr : Int} (hl : Loc R) (ht : 0 ≤ x.turn ∧ x.turn ≤ 4) (hd : x.doing < 14) : Cv C 128 [ptr d, ptr C.s, .int .i64 dr] l (blks (⟨d, 117, x.cs C⟩ :: Hx) R) (.int .i64 (((x.said C.M (w64 (3 * x.cycle - 1)) l).1.doing : Nat) : Int)) l (blks (⟨d, 117, ({ x with turn := (x.said C.M (w64 (3 * x.cycle - 1)) l).1.turn } : De).cs C⟩ :: Hx) R) := by
 obtain ⟨doing, cycle, turn, event⟩ := x
 simp only at ht hd
 refine Ct.of (vs := [ptr d, ptr C.s, .int .i64 dr]) Tryz.func128 rfl Tryz.ntmps128 (by simp) (loc_blks hl _) ?_
 intro w0 D0
 refine T.conv (fun w h => Sy.opens (H2 := _ :: Hx) h hl) <| T.seq <| tx [0] nf Z Z <| xas Z Z Z <| X.nil <| T.seq <| tx [0,1,2,3,4,5,6,7,8,9] (ct [8]) Z Z <| xmv Z Z Z <| xmv Z Z Z <| xmv Z Z Z <| xnc Z Z Z <| xfa Z Z Z f117_2 <| xld Z Z Z o90 .z Z ?_
 refine xarc Z Z Z Z Z (wrap64u _) <| xarc (c := w64 (3 * cycle - 1)) Z Z Z Z Z (w3m (by omega)) <| xcb (H1 := []) (H2 := _ :: _) (H2' := _ :: _) Z Z Z Z g161 Z (ct_said (dr := dr) (x := ⟨doing, cycle, turn, event⟩) hl ht hd) hl Z pend0 <| xas Z Z Z ?_
 refine X.nil <| T.ret1 Z (fun W D h => ?_)
 exact ⟨D, ⟨rfl, rfl, h⟩, fun _ hk => hk⟩
set_option maxHeartbeats 1000000 in
theorem ct_root {C : Cx} {l : Wds} {d : Nat} {x : De} {Hx : List Bk} {R : Asr} {dr : Int} (hl : Loc R) (ht : 0 ≤ x.turn ∧ x.turn ≤ 4) (hd : x.doing < 14) : Cv C 129 [ptr d, ptr C.s, .int .i64 dr] l (blks (⟨d, 117, x.cs C⟩ :: Hx) R) (.int .i64 (((x.said C.M (w64 (3 * x.cycle)) l).1.doing : Nat) : Int)) l (blks (⟨d, 117, ({ x with turn := (x.said C.M (w64 (3 * x.cycle)) l).1.turn } : De).cs C⟩ :: Hx) R) := by
 obtain ⟨doing, cycle, turn, event⟩ := x
 simp only at ht hd
 refine Ct.of (vs := [ptr d, ptr C.s, .int .i64 dr]) Tryz.func129 rfl Tryz.ntmps129 (by simp) (loc_blks hl _) ?_
 intro w0 D0
 refine T.conv (fun w h => Sy.opens (H2 := _ :: Hx) h hl) <| T.seq <| tx [0] nf Z Z <| xas Z Z Z <| X.nil <| T.seq <| tx [0,1,2,3,4,5,6,7,8] (ct [7]) Z Z <| xmv Z Z Z <| xmv Z Z Z <| xmv Z Z Z <| xnc Z Z Z <| xfa Z Z Z f117_2 <| xld Z Z Z o90 .z Z ?_
 refine xarc Z Z Z Z Z (wrap64u _) <| xcb (H1 := []) (H2 := _ :: _) (H2' := _ :: _) Z Z Z Z g161 Z (ct_said (dr := dr) (x := ⟨doing, cycle, turn, event⟩) hl ht hd) hl Z pend0 <| xas Z Z Z <| X.nil <| T.ret1 Z (fun W D h => ?_)
 exact ⟨D, ⟨rfl, rfl, h⟩, fun _ hk => hk⟩
set_option maxHeartbeats 1000000 in
theorem ct_clearSweep {C : Cx} {l : Wds} {d : Nat} {x : De} {Hx : List Bk} {R : Asr} {dr : Int} (hl : Loc R) : Cv C 131 [ptr d, ptr C.s, .int .i64 dr] l (blks (⟨d, 117, x.cs C⟩ :: Hx) R) (.int .i64 10) (put l 2 (pair (w32 x.cycle) 0)) (blks (⟨d, 117, x.cs C⟩ :: Hx) R) := by
 refine Ct.of (vs := [ptr d, ptr C.s, .int .i64 dr]) Tryz.func131 rfl Tryz.ntmps131 (by simp) (loc_blks hl _) ?_
 intro w0 D0
 refine T.conv (fun w h => Sy.opens (H2 := _ :: Hx) h hl) <| T.seq <| tx [0] nf Z Z <| xas Z Z Z <| X.nil <| T.seq ?_
 refine T.any (ord := [0, 1, 2, 3, 4, 5, 6, 7, 8, 9, 10, 11, 12]) (lo := (fun _ => false)) (ef := (fun i => [12].contains i)) (by kernel_rfl) (fun _ h => h.drew) <| xmv Z Z Z <| xmv Z Z Z <| xnc Z Z Z <| xfa Z Z Z f117_0 <| xld Z Z Z o39 .z Z ?_
 refine xcq Z Z Z Z g143 (ct_Sweep) hl <| xmv Z Z Z <| xnc Z Z Z <| xfa Z Z Z f117_2 <| xld Z Z Z o90 .z Z <| xcvc Z Z Z u115_dIntu32 u90_fun_true (wrap32u _) <| xcq Z Z Z Z g53 (ct_Pair (w32_rng _) (by omega)) hl ?_
 refine xce Z Z Z Z g148 (ct_Put hl (pair_rng (w32_rng _) (by omega))) hl pend0 <| X.nil <| T.seq <| tx [0] nf Z Z <| xas Z Z Z <| X.nil <| T.ret1 Z (fun W D h => ?_)
 exact ⟨D, ⟨rfl, rfl, h⟩, fun _ hk => hk⟩
set_option maxHeartbeats 1000000 in
theorem ct_clearDone {C : Cx} {l : Wds} {d : Nat} {x : De} {Hx : List Bk} {R : Asr} {dr : Int} (hl : Loc R) : Cv C 132 [ptr d, ptr C.s, .int .i64 dr] l (blks (⟨d, 117, x.cs C⟩ :: Hx) R) (.int .i64 11) (put l 3 0) (blks (⟨d, 117, x.cs C⟩ :: Hx) R) := by
 refine Ct.of (vs := [ptr d, ptr C.s, .int .i64 dr]) Tryz.func132 rfl Tryz.ntmps132 (by simp) (loc_blks hl _) ?_
 intro w0 D0
 refine T.conv (fun w h => Sy.opens (H2 := _ :: Hx) h hl) <| T.seq <| tx [0] nf Z Z <| xas Z Z Z <| X.nil <| T.seq <| tx [0,1,2,3,4,5,6] (ct [6]) Z Z <| xmv Z Z Z <| xmv Z Z Z <| xnc Z Z Z <| xfa Z Z Z f117_0 <| xld Z Z Z o39 .z Z ?_
 refine xcq Z Z Z Z g166 (ct_Done) hl <| xce Z Z Z Z g148 (ct_Put hl (by omega)) hl pend0 <| X.nil <| T.seq <| tx [0] nf Z Z <| xas Z Z Z <| X.nil <| T.ret1 Z (fun W D h => ?_)
 exact ⟨D, ⟨rfl, rfl, h⟩, fun _ hk => hk⟩
set_option maxHeartbeats 1000000 in
theorem ct_end {C : Cx} {l : Wds} {d : Nat} {x : De} {Hx : List Bk} {R : Asr} {dr : Int} (hl : Loc R) (hM : C.M.Ok) (hp : 0 ≤ C.M.parts ∧ C.M.parts ≤ 100000) : Cv C 133 [ptr d, ptr C.s, .int .i64 dr] l (blks (⟨d, 117, x.cs C⟩ :: Hx) R) (.int .i64 (((if ld l 3 ≠ C.M.parts then 12 else 13 : Nat) : Nat) : Int)) l (blks (⟨d, 117, x.cs C⟩ :: Hx) R) := by
 refine Ct.of (vs := [ptr d, ptr C.s, .int .i64 dr]) Tryz.func133 rfl Tryz.ntmps133 (by simp) (loc_blks hl _) ?_
 intro w0 D0
 refine T.conv (fun w h => Sy.opens (H2 := _ :: Hx) h hl) <| T.seq <| tx [0] nf Z Z <| xas Z Z Z <| X.nil <| T.seq <| T.seq ?_
 refine T.any (ord := [0, 1, 2, 3, 4, 5, 6, 7, 8, 9, 10, 11, 12, 13]) (lo := (fun _ => false)) (ef := (fun _ => false)) (by kernel_rfl) (fun _ h => h.drew) <| xmv Z Z Z <| xmv Z Z Z <| xnc Z Z Z <| xfa Z Z Z f117_0 <| xld Z Z Z o39 .z Z ?_
 refine xcq Z Z Z Z g166 (ct_Done) hl <| xcq Z Z Z Z g32 (ct_Load hl) hl <| xmv Z Z Z <| xnc Z Z Z <| xfa Z Z Z f117_0 <| xld Z Z Z o39 .z Z <| xcq Z Z Z Z g145 (ct_Parts) hl <| xcvc Z Z Z u90_dIntu64 u3_fun_true (wrap64u32 (by omega)) <| xcm Z Z Z Z Z Z ?_
 refine X.nil <| T.cond Z ?_ ?_
 ·intro hb0
  refine T.seq <| tx [0] nf Z Z <| xas Z Z Z <| X.nil <| T.ret1 Z (fun W D h => ?_)
  rw [if_pos (neqT hb0)]
  exact ⟨D, ⟨rfl, rfl, h⟩, fun _ hk => hk⟩
 ·intro hb0
  refine T.skip <| T.seq <| tx [0] nf Z Z <| xas Z Z Z <| X.nil <| T.ret1 Z (fun W D h => ?_)
  rw [if_neg (fun h => h (neqF hb0))]
  exact ⟨D, ⟨rfl, rfl, h⟩, fun _ hk => hk⟩
set_option maxHeartbeats 1000000 in
theorem ct_rest {C : Cx} {l : Wds} {d : Nat} {x : De} {Hx : List Bk} {R : Asr} {dr : Int} (hl : Loc R) (hd : x.doing = 0) : Cv C 125 [ptr d, ptr C.s, .int .i64 dr] l (blks (⟨d, 117, x.cs C⟩ :: Hx) R) (.int .i64 ((((⟨0, x.cycle, x.turn, x.event⟩ : De).step0 C.M l dr).1.doing : Nat) : Int)) ((⟨0, x.cycle, x.turn, x.event⟩ : De).step0 C.M l dr).2 (blks (⟨d, 117, ({ ((⟨0, x.cycle, x.turn, x.event⟩ : De).step0 C.M l dr).1 with doing := 0 } : De).cs C⟩ :: Hx) R) := by
 obtain ⟨doing, cycle, turn, event⟩ := x
 obtain rfl : doing = 0 := hd
 refine Ct.of (vs := [ptr d, ptr C.s, .int .i64 dr]) Tryz.func125 rfl Tryz.ntmps125 (by simp) (loc_blks hl _) ?_
 intro w0 D0
 refine T.conv (fun w h => Sy.opens (H2 := _ :: Hx) h hl) <| T.seq <| tx [0] nf Z Z <| xas Z Z Z <| X.nil <| T.seq <| T.seq <| tx [0,1,2] nf Z Z <| xmv Z Z Z <| xbo Z Z Z Z gd_num run_rem2 <| xcm Z Z Z Z Z Z <| X.nil <| T.cond Z ?_ ?_
 ·intro hb0
  refine T.seq <| tx [0] nf Z Z <| xas Z Z Z <| X.nil <| T.ret1 Z (fun W D h => ?_)
  rw [show (⟨0, cycle, turn, event⟩ : De).step0 C.M l dr = _ from if_pos (of_decide_eq_true (tmod2.symm.trans hb0))]
  exact ⟨D, ⟨rfl, rfl, h⟩, fun _ hk => hk⟩
 ·intro hb0
  refine T.skip <| T.seq <| tx [0,1,2,3,4,5,6,7] (ct [7]) Z Z <| xmv Z Z Z <| xnc Z Z Z <| xfa Z Z Z f117_2 <| xld Z Z Z o90 .z Z <| xarc Z Z Z Z Z (wrap64u _) <| xnc Z Z Z <| xfa Z Z Z f117_2 <| xst Z Z Z Z o90 Z .z Z .z pend0 <| X.nil <| T.seq ?_
  refine tx [0,1,2,3,4,5] (ct [1,4]) Z Z <| xmv Z Z Z <| xcc (H := _ :: Hx) Z Z Z Z g127 (ct_tellNew) (fun _ _ => pend0) (fun c0a c0b => ?_)
  refine xmv Z Z Z <| xmv Z Z Z ?_
  refine xcb (H1 := []) (H2 := _ :: _) (H2' := _ :: _) Z Z Z Z g162 Z (ct_tell (x := ⟨0, w64 (cycle + 1), turn, event⟩) (Hx := Hx ++ [⟨c0a, 75, [ptr d]⟩, ⟨c0b, 3, [.int .i64 1]⟩]) hl (in_r .z) (in_r (.s .z)) (by omega) (by simp) (w64_rng _)) hl Z pend0 ?_
  refine xas Z Z Z <| X.nil <| T.ret1 Z (fun W D h => ?_)
  rw [show (⟨0, cycle, turn, event⟩ : De).step0 C.M l dr = _ from if_neg (of_decide_eq_false (tmod2.symm.trans hb0))]
  obtain ⟨D1, h1, h2⟩ := Wk.front (_ :: Hx) _ _ D W h
  exact ⟨D1, ⟨rfl, rfl, h1⟩, h2⟩
set_option maxHeartbeats 1000000 in
theorem ct_deDoes {C : Cx} {l : Wds} {d : Nat} : Ce (α := Nat → Nat) C 99 [ptr d] l emp (fun q => .agg (DeV d q).toArray) l (fun _ => True) (fun q => blks (DeB d q) emp) := by
 refine Ct.of (vs := [ptr d]) Tryz.func99 rfl Tryz.ntmps99 (by simp) loc_emp ?_
 intro w0 D0
 refine T.seq <| tx [0] (ct [0]) Z Z <| xal Z Z z172 (fun _ => pend0) (fun b0 => ?_)
 refine X.nil <| T.seq <| tx [0,1,2,3,4,5,6,7,8,9,10,11,12,13,14,15,16,17,18,19,20,21,22,23,24,25,26,27,28,29] (ct [5,9,13,15,17,23,27,29]) Z Z <| xmv Z Z Z <| xmf Z Z Z Z <| xmv Z Z Z <| xmf Z Z Z Z <| xmv Z Z Z ?_
 refine xcc (H := [_]) Z Z Z Z g127 (ct_tellNew) (fun _ _ => pend0) (fun c1a c1b => ?_)
 refine xmv Z Z Z <| xmf Z Z Z Z <| xmv Z Z Z <| xcc (H := [_, _, _]) Z Z Z Z g127 (ct_tellNew) (fun _ _ => pend0) (fun c2a c2b => ?_)
 refine xmv Z Z Z <| xmf Z Z Z Z <| xmv Z Z Z <| xcc (H := [_, _, _, _, _]) Z Z Z Z g127 (ct_tellNew) (fun _ _ => pend0) (fun c3a c3b => ?_)
 refine xmv Z Z Z <| xcc (H := [_, _, _, _, _, _, _]) Z Z Z Z g130 (ct_countNew) (fun _ _ => pend0) (fun c4a c4b => ?_)
 refine xmv Z Z Z <| xcc (H := [_, _, _, _, _, _, _, _, _]) Z Z Z Z g130 (ct_countNew) (fun _ _ => pend0) (fun c5a c5b => ?_)
 refine xmv Z Z Z <| xmf Z Z Z Z <| xmv Z Z Z <| xmf Z Z Z Z <| xmv Z Z Z <| xcc (H := [_, _, _, _, _, _, _, _, _, _, _]) Z Z Z Z g127 (ct_tellNew) (fun _ _ => pend0) (fun c6a c6b => ?_)
 refine xmv Z Z Z <| xmf Z Z Z Z <| xmv Z Z Z <| xcc (H := [_, _, _, _, _, _, _, _, _, _, _, _, _]) Z Z Z Z g127 (ct_tellNew) (fun _ _ => pend0) (fun c7a c7b => ?_)
 refine xbda Z Z Z a172 o171 z172 Z <| xsta Z Z Z Z m172 Z Z .z (Nat.le_of_ble_eq_true Z) .z pend0 <| X.nil <| T.retc Z Z m172 .z Z (fun W D h => ?_)
 obtain ⟨D1, h1, h2⟩ := blks_tail h
 exact ⟨D1, ⟨fun n => [c1a, c1b, c2a, c2b, c3a, c3b, c4a, c4b, c5a, c5b, c6a, c6b, c7a, c7b].getD n 0, rfl, trivial, rfl, h1⟩, h2⟩
theorem g125 : fnB 125 = true := by kernel_rfl
theorem g126 : fnB 126 = true := by kernel_rfl
theorem g128 : fnB 128 = true := by kernel_rfl
theorem g129 : fnB 129 = true := by kernel_rfl
theorem g131 : fnB 131 = true := by kernel_rfl
theorem g132 : fnB 132 = true := by kernel_rfl
theorem g133 : fnB 133 = true := by kernel_rfl
theorem g164 : fnB 164 = true := by kernel_rfl
theorem g99 : fnB 99 = true := by kernel_rfl
theorem l117 : layB 117 [(0, 1), (1, 1), (2, 1), (3, 1), (4, 5)] = true := by kernel_rfl
theorem u75_dPtr : undIs 75 (dPtr) = true := by kernel_rfl
theorem z117 : zer 117 = some [.pointer none, .int .i64 0, .int .u64 0, .int .i64 0, .int .i64 0, .int .i64 0, .int .i64 0, .int .i64 0, .int .i64 0] := by kernel_rfl
theorem rest_eq {M : MapM} {cycle turn dr : Int} {l : Wds} : (⟨0, cycle, turn, ev0⟩ : De).step0 M l dr = ({ ({ ((⟨0, cycle, turn, ev0⟩ : De).step0 M l dr).1 with doing := 0 } : De) with doing := ((⟨0, cycle, turn, ev0⟩ : De).step0 M l dr).1.doing }, ((⟨0, cycle, turn, ev0⟩ : De).step0 M l dr).2) := rfl
theorem end_eq {M : MapM} {cycle turn dr : Int} {l : Wds} : (⟨12, cycle, turn, ev0⟩ : De).step0 M l dr = (⟨if ld l 3 ≠ M.parts then 12 else 13, cycle, turn, ev0⟩, l) := by
 show (if ld l 3 ≠ M.parts then _ else _) = _
 split <;> rfl
set_option maxHeartbeats 1000000 in
theorem de_step0 {C : Cx} {l : Wds} {d : Nat} {cycle turn dr : Int} {event : Ev} (hM : C.M.Ok) (hp : 0 ≤ C.M.parts ∧ C.M.parts ≤ 100000) (hc : u64R cycle) (ht : 0 ≤ turn ∧ turn ≤ 4) : Cv C 65 [ptr d, ptr C.s, .int .i64 dr] l (DeR C d ⟨0, cycle, turn, event⟩) (.tuple #[]) ((⟨0, cycle, turn, ev0⟩ : De).step0 C.M l dr).2 (DeR C d ((⟨0, cycle, turn, ev0⟩ : De).step0 C.M l dr).1) := by
 refine Ct.of (vs := [ptr d, ptr C.s, .int .i64 dr]) Tryz.func65 rfl Tryz.ntmps65 (by simp) loc_DeR ?_
 intro w0 D0
 refine T.conv (fun w h => Sy.opens (H2 := [_]) h loc_emp) <| T.seq <| T.seq <| tx [0,1,2,3,4,5,6,7,8] nf Z Z <| xmv Z Z Z <| xnp Z Z Z Z u75_dPtr <| xmv Z Z Z <| xmv Z Z Z <| xnc Z Z Z <| xfa Z Z Z f117_0 <| xld Z Z Z o39 .z Z <| xnp Z Z Z Z u39_dPtr ?_
 refine xpk Z Z Z Z <| X.nil <| T.no Z <| T.skip <| T.seq <| tx [0,1,2,3,4] (ct [4]) Z Z <| xmv Z Z Z <| xbd Z Z Z l33 z33 Z <| xnc Z Z Z <| xfa Z Z Z f117_4 <| xsta Z Z Z Z m33 Z Z .z (Nat.le_of_ble_eq_true Z) .z pend0 <| X.nil <| T.seq ?_
 refine tx [0,1,2,3] (ct [1,2,3]) Z Z <| xmv Z Z Z <| xcx (H1 := [_]) (H2 := []) (B := DeB d) Z Z Z Z g99 Z (ct_deDoes) (fun _ => loc_emp) (fun a0 ha0 => pend0) (fun a0 ha0 => ?_)
 refine xal Z Z z172 (fun _ => pend0) (fun b1 => ?_)
 refine xsta Z Z Z Z m172 Z Z .z (Nat.le_of_ble_eq_true Z) .z pend0 <| X.nil <| tx [0,1,2,3,4,5,6,7,8,9,10,11,12] (ct [9,12]) Z Z <| xmv Z Z Z <| xmv Z Z Z <| xnc Z Z Z <| xfa Z Z Z f117_1 <| xld Z Z Z o3 (.s .z) Z ?_
 refine xixa Z Z Z Z a172 o171 (show 0 ≤ ((0 : Nat) : Int) ∧ ((0 : Nat) : Int) < ((14 : Nat) : Int) by decide) <| xld Z Z Z o171 .z Z <| xmv Z Z Z <| xmv Z Z Z ?_
 refine xcb (H1 := [_]) (H2 := _ :: _) (H2' := _ :: _) Z Z Z Z g125 Z (ct_rest (x := (⟨0, cycle, turn, ev0⟩ : De)) loc_emp Z) loc_emp Z pend0 <| xnc Z Z Z <| xfa Z Z Z f117_1 <| xst Z Z Z Z o3 Z (.s .z) Z (.s .z) pend0 <| X.nil <| T.end0 Z (fun W D h => ?_)
 obtain ⟨D1, h1, h2⟩ := blks_pick0 [1] (by decide) h
 rw [rest_eq]
 exact ⟨D1, ⟨rfl, rfl, h1⟩, h2⟩
set_option maxHeartbeats 1000000 in
theorem de_step1 {C : Cx} {l : Wds} {d : Nat} {cycle turn dr : Int} {event : Ev} (hM : C.M.Ok) (hp : 0 ≤ C.M.parts ∧ C.M.parts ≤ 100000) (hc : u64R cycle) (ht : 0 ≤ turn ∧ turn ≤ 4) : Cv C 65 [ptr d, ptr C.s, .int .i64 dr] l (DeR C d ⟨1, cycle, turn, event⟩) (.tuple #[]) ((⟨1, cycle, turn, ev0⟩ : De).step0 C.M l dr).2 (DeR C d ((⟨1, cycle, turn, ev0⟩ : De).step0 C.M l dr).1) := by
 refine Ct.of (vs := [ptr d, ptr C.s, .int .i64 dr]) Tryz.func65 rfl Tryz.ntmps65 (by simp) loc_DeR ?_
 intro w0 D0
 refine T.conv (fun w h => Sy.opens (H2 := [_]) h loc_emp) <| T.seq <| T.seq <| tx [0,1,2,3,4,5,6,7,8] nf Z Z <| xmv Z Z Z <| xnp Z Z Z Z u75_dPtr <| xmv Z Z Z <| xmv Z Z Z <| xnc Z Z Z <| xfa Z Z Z f117_0 <| xld Z Z Z o39 .z Z <| xnp Z Z Z Z u39_dPtr ?_
 refine xpk Z Z Z Z <| X.nil <| T.no Z <| T.skip <| T.seq <| tx [0,1,2,3,4] (ct [4]) Z Z <| xmv Z Z Z <| xbd Z Z Z l33 z33 Z <| xnc Z Z Z <| xfa Z Z Z f117_4 <| xsta Z Z Z Z m33 Z Z .z (Nat.le_of_ble_eq_true Z) .z pend0 <| X.nil <| T.seq ?_
 refine tx [0,1,2,3] (ct [1,2,3]) Z Z <| xmv Z Z Z <| xcx (H1 := [_]) (H2 := []) (B := DeB d) Z Z Z Z g99 Z (ct_deDoes) (fun _ => loc_emp) (fun a0 ha0 => pend0) (fun a0 ha0 => ?_)
 refine xal Z Z z172 (fun _ => pend0) (fun b1 => ?_)
 refine xsta Z Z Z Z m172 Z Z .z (Nat.le_of_ble_eq_true Z) .z pend0 <| X.nil <| tx [0,1,2,3,4,5,6,7,8,9,10,11,12] (ct [9,12]) Z Z <| xmv Z Z Z <| xmv Z Z Z <| xnc Z Z Z <| xfa Z Z Z f117_1 <| xld Z Z Z o3 (.s .z) Z ?_
 refine xixa Z Z Z Z a172 o171 (show 0 ≤ ((1 : Nat) : Int) ∧ ((1 : Nat) : Int) < ((14 : Nat) : Int) by decide) <| xld Z Z Z o171 .z Z <| xmv Z Z Z <| xmv Z Z Z ?_
 refine xcb (H1 := [_]) (H2 := _ :: _) (H2' := _ :: _) Z Z Z Z g126 Z (ct_arm (x := (⟨1, cycle, turn, ev0⟩ : De)) loc_emp ht (by simp)) loc_emp Z pend0 <| xnc Z Z Z <| xfa Z Z Z f117_1 <| xst Z Z Z Z o3 Z (.s .z) Z (.s .z) pend0 <| X.nil ?_
 refine T.end0 Z (fun W D h => ?_)
 rw [show (⟨1, cycle, turn, ev0⟩ : De).step0 C.M l dr = _ from De.said_eq (x := (⟨1, cycle, turn, ev0⟩ : De)) (least := w64 (3 * cycle - 2))]
 obtain ⟨D1, h1, h2⟩ := blks_pick0 [1] (by decide) h
 exact ⟨D1, ⟨rfl, rfl, h1⟩, h2⟩
set_option maxHeartbeats 1000000 in
theorem de_step2 {C : Cx} {l : Wds} {d : Nat} {cycle turn dr : Int} {event : Ev} (hM : C.M.Ok) (hp : 0 ≤ C.M.parts ∧ C.M.parts ≤ 100000) (hc : u64R cycle) (ht : 0 ≤ turn ∧ turn ≤ 4) : Cv C 65 [ptr d, ptr C.s, .int .i64 dr] l (DeR C d ⟨2, cycle, turn, event⟩) (.tuple #[]) ((⟨2, cycle, turn, ev0⟩ : De).step0 C.M l dr).2 (DeR C d ((⟨2, cycle, turn, ev0⟩ : De).step0 C.M l dr).1) := by
 refine Ct.of (vs := [ptr d, ptr C.s, .int .i64 dr]) Tryz.func65 rfl Tryz.ntmps65 (by simp) loc_DeR ?_
 intro w0 D0
 refine T.conv (fun w h => Sy.opens (H2 := [_]) h loc_emp) <| T.seq <| T.seq <| tx [0,1,2,3,4,5,6,7,8] nf Z Z <| xmv Z Z Z <| xnp Z Z Z Z u75_dPtr <| xmv Z Z Z <| xmv Z Z Z <| xnc Z Z Z <| xfa Z Z Z f117_0 <| xld Z Z Z o39 .z Z <| xnp Z Z Z Z u39_dPtr ?_
 refine xpk Z Z Z Z <| X.nil <| T.no Z <| T.skip <| T.seq <| tx [0,1,2,3,4] (ct [4]) Z Z <| xmv Z Z Z <| xbd Z Z Z l33 z33 Z <| xnc Z Z Z <| xfa Z Z Z f117_4 <| xsta Z Z Z Z m33 Z Z .z (Nat.le_of_ble_eq_true Z) .z pend0 <| X.nil <| T.seq ?_
 refine tx [0,1,2,3] (ct [1,2,3]) Z Z <| xmv Z Z Z <| xcx (H1 := [_]) (H2 := []) (B := DeB d) Z Z Z Z g99 Z (ct_deDoes) (fun _ => loc_emp) (fun a0 ha0 => pend0) (fun a0 ha0 => ?_)
 refine xal Z Z z172 (fun _ => pend0) (fun b1 => ?_)
 refine xsta Z Z Z Z m172 Z Z .z (Nat.le_of_ble_eq_true Z) .z pend0 <| X.nil <| tx [0,1,2,3,4,5,6,7,8,9,10,11,12] (ct [9,12]) Z Z <| xmv Z Z Z <| xmv Z Z Z <| xnc Z Z Z <| xfa Z Z Z f117_1 <| xld Z Z Z o3 (.s .z) Z ?_
 refine xixa Z Z Z Z a172 o171 (show 0 ≤ ((2 : Nat) : Int) ∧ ((2 : Nat) : Int) < ((14 : Nat) : Int) by decide) <| xld Z Z Z o171 .z Z <| xmv Z Z Z <| xmv Z Z Z ?_
 refine xcb (H1 := [_]) (H2 := _ :: _) (H2' := _ :: _) Z Z Z Z g162 Z (ct_tell (x := (⟨2, cycle, turn, ev0⟩ : De)) (ph := 2) loc_emp .z (.s .z) (by omega) (by simp) hc) loc_emp Z pend0 <| xnc Z Z Z <| xfa Z Z Z f117_1 ?_
 refine xst Z Z Z Z o3 Z (.s .z) Z (.s .z) pend0 <| X.nil <| T.end0 Z (fun W D h => ?_)
 obtain ⟨D1, h1, h2⟩ := blks_pick0 [1] (by decide) h
 exact ⟨D1, ⟨rfl, rfl, h1⟩, h2⟩
set_option maxHeartbeats 1000000 in
theorem de_step3 {C : Cx} {l : Wds} {d : Nat} {cycle turn dr : Int} {event : Ev} (hM : C.M.Ok) (hp : 0 ≤ C.M.parts ∧ C.M.parts ≤ 100000) (hc : u64R cycle) (ht : 0 ≤ turn ∧ turn ≤ 4) : Cv C 65 [ptr d, ptr C.s, .int .i64 dr] l (DeR C d ⟨3, cycle, turn, event⟩) (.tuple #[]) ((⟨3, cycle, turn, ev0⟩ : De).step0 C.M l dr).2 (DeR C d ((⟨3, cycle, turn, ev0⟩ : De).step0 C.M l dr).1) := by
 refine Ct.of (vs := [ptr d, ptr C.s, .int .i64 dr]) Tryz.func65 rfl Tryz.ntmps65 (by simp) loc_DeR ?_
 intro w0 D0
 refine T.conv (fun w h => Sy.opens (H2 := [_]) h loc_emp) <| T.seq <| T.seq <| tx [0,1,2,3,4,5,6,7,8] nf Z Z <| xmv Z Z Z <| xnp Z Z Z Z u75_dPtr <| xmv Z Z Z <| xmv Z Z Z <| xnc Z Z Z <| xfa Z Z Z f117_0 <| xld Z Z Z o39 .z Z <| xnp Z Z Z Z u39_dPtr ?_
 refine xpk Z Z Z Z <| X.nil <| T.no Z <| T.skip <| T.seq <| tx [0,1,2,3,4] (ct [4]) Z Z <| xmv Z Z Z <| xbd Z Z Z l33 z33 Z <| xnc Z Z Z <| xfa Z Z Z f117_4 <| xsta Z Z Z Z m33 Z Z .z (Nat.le_of_ble_eq_true Z) .z pend0 <| X.nil <| T.seq ?_
 refine tx [0,1,2,3] (ct [1,2,3]) Z Z <| xmv Z Z Z <| xcx (H1 := [_]) (H2 := []) (B := DeB d) Z Z Z Z g99 Z (ct_deDoes) (fun _ => loc_emp) (fun a0 ha0 => pend0) (fun a0 ha0 => ?_)
 refine xal Z Z z172 (fun _ => pend0) (fun b1 => ?_)
 refine xsta Z Z Z Z m172 Z Z .z (Nat.le_of_ble_eq_true Z) .z pend0 <| X.nil <| tx [0,1,2,3,4,5,6,7,8,9,10,11,12] (ct [9,12]) Z Z <| xmv Z Z Z <| xmv Z Z Z <| xnc Z Z Z <| xfa Z Z Z f117_1 <| xld Z Z Z o3 (.s .z) Z ?_
 refine xixa Z Z Z Z a172 o171 (show 0 ≤ ((3 : Nat) : Int) ∧ ((3 : Nat) : Int) < ((14 : Nat) : Int) by decide) <| xld Z Z Z o171 .z Z <| xmv Z Z Z <| xmv Z Z Z ?_
 refine xcb (H1 := [_]) (H2 := _ :: _) (H2' := _ :: _) Z Z Z Z g128 Z (ct_settle (x := (⟨3, cycle, turn, ev0⟩ : De)) loc_emp ht (by simp)) loc_emp Z pend0 <| xnc Z Z Z <| xfa Z Z Z f117_1 <| xst Z Z Z Z o3 Z (.s .z) Z (.s .z) pend0 <| X.nil ?_
 refine T.end0 Z (fun W D h => ?_)
 rw [show (⟨3, cycle, turn, ev0⟩ : De).step0 C.M l dr = _ from De.said_eq (x := (⟨3, cycle, turn, ev0⟩ : De)) (least := w64 (3 * cycle - 1))]
 obtain ⟨D1, h1, h2⟩ := blks_pick0 [1] (by decide) h
 exact ⟨D1, ⟨rfl, rfl, h1⟩, h2⟩
set_option maxHeartbeats 1000000 in
theorem de_step4 {C : Cx} {l : Wds} {d : Nat} {cycle turn dr : Int} {event : Ev} (hM : C.M.Ok) (hp : 0 ≤ C.M.parts ∧ C.M.parts ≤ 100000) (hc : u64R cycle) (ht : 0 ≤ turn ∧ turn ≤ 4) : Cv C 65 [ptr d, ptr C.s, .int .i64 dr] l (DeR C d ⟨4, cycle, turn, event⟩) (.tuple #[]) ((⟨4, cycle, turn, ev0⟩ : De).step0 C.M l dr).2 (DeR C d ((⟨4, cycle, turn, ev0⟩ : De).step0 C.M l dr).1) := by
 refine Ct.of (vs := [ptr d, ptr C.s, .int .i64 dr]) Tryz.func65 rfl Tryz.ntmps65 (by simp) loc_DeR ?_
 intro w0 D0
 refine T.conv (fun w h => Sy.opens (H2 := [_]) h loc_emp) <| T.seq <| T.seq <| tx [0,1,2,3,4,5,6,7,8] nf Z Z <| xmv Z Z Z <| xnp Z Z Z Z u75_dPtr <| xmv Z Z Z <| xmv Z Z Z <| xnc Z Z Z <| xfa Z Z Z f117_0 <| xld Z Z Z o39 .z Z <| xnp Z Z Z Z u39_dPtr ?_
 refine xpk Z Z Z Z <| X.nil <| T.no Z <| T.skip <| T.seq <| tx [0,1,2,3,4] (ct [4]) Z Z <| xmv Z Z Z <| xbd Z Z Z l33 z33 Z <| xnc Z Z Z <| xfa Z Z Z f117_4 <| xsta Z Z Z Z m33 Z Z .z (Nat.le_of_ble_eq_true Z) .z pend0 <| X.nil <| T.seq ?_
 refine tx [0,1,2,3] (ct [1,2,3]) Z Z <| xmv Z Z Z <| xcx (H1 := [_]) (H2 := []) (B := DeB d) Z Z Z Z g99 Z (ct_deDoes) (fun _ => loc_emp) (fun a0 ha0 => pend0) (fun a0 ha0 => ?_)
 refine xal Z Z z172 (fun _ => pend0) (fun b1 => ?_)
 refine xsta Z Z Z Z m172 Z Z .z (Nat.le_of_ble_eq_true Z) .z pend0 <| X.nil <| tx [0,1,2,3,4,5,6,7,8,9,10,11,12] (ct [9,12]) Z Z <| xmv Z Z Z <| xmv Z Z Z <| xnc Z Z Z <| xfa Z Z Z f117_1 <| xld Z Z Z o3 (.s .z) Z ?_
 refine xixa Z Z Z Z a172 o171 (show 0 ≤ ((4 : Nat) : Int) ∧ ((4 : Nat) : Int) < ((14 : Nat) : Int) by decide) <| xld Z Z Z o171 .z Z <| xmv Z Z Z <| xmv Z Z Z ?_
 refine xcb (H1 := [_]) (H2 := _ :: _) (H2' := _ :: _) Z Z Z Z g162 Z (ct_tell (x := (⟨4, cycle, turn, ev0⟩ : De)) (ph := 3) loc_emp (.s (.s .z)) (.s (.s (.s .z))) (by omega) (by simp) hc) loc_emp Z pend0 <| xnc Z Z Z <| xfa Z Z Z f117_1 ?_
 refine xst Z Z Z Z o3 Z (.s .z) Z (.s .z) pend0 <| X.nil <| T.end0 Z (fun W D h => ?_)
 obtain ⟨D1, h1, h2⟩ := blks_pick0 [1] (by decide) h
 exact ⟨D1, ⟨rfl, rfl, h1⟩, h2⟩
set_option maxHeartbeats 1000000 in
theorem de_step5 {C : Cx} {l : Wds} {d : Nat} {cycle turn dr : Int} {event : Ev} (hM : C.M.Ok) (hp : 0 ≤ C.M.parts ∧ C.M.parts ≤ 100000) (hc : u64R cycle) (ht : 0 ≤ turn ∧ turn ≤ 4) : Cv C 65 [ptr d, ptr C.s, .int .i64 dr] l (DeR C d ⟨5, cycle, turn, event⟩) (.tuple #[]) ((⟨5, cycle, turn, ev0⟩ : De).step0 C.M l dr).2 (DeR C d ((⟨5, cycle, turn, ev0⟩ : De).step0 C.M l dr).1) := by
 refine Ct.of (vs := [ptr d, ptr C.s, .int .i64 dr]) Tryz.func65 rfl Tryz.ntmps65 (by simp) loc_DeR ?_
 intro w0 D0
 refine T.conv (fun w h => Sy.opens (H2 := [_]) h loc_emp) <| T.seq <| T.seq <| tx [0,1,2,3,4,5,6,7,8] nf Z Z <| xmv Z Z Z <| xnp Z Z Z Z u75_dPtr <| xmv Z Z Z <| xmv Z Z Z <| xnc Z Z Z <| xfa Z Z Z f117_0 <| xld Z Z Z o39 .z Z <| xnp Z Z Z Z u39_dPtr ?_
 refine xpk Z Z Z Z <| X.nil <| T.no Z <| T.skip <| T.seq <| tx [0,1,2,3,4] (ct [4]) Z Z <| xmv Z Z Z <| xbd Z Z Z l33 z33 Z <| xnc Z Z Z <| xfa Z Z Z f117_4 <| xsta Z Z Z Z m33 Z Z .z (Nat.le_of_ble_eq_true Z) .z pend0 <| X.nil <| T.seq ?_
 refine tx [0,1,2,3] (ct [1,2,3]) Z Z <| xmv Z Z Z <| xcx (H1 := [_]) (H2 := []) (B := DeB d) Z Z Z Z g99 Z (ct_deDoes) (fun _ => loc_emp) (fun a0 ha0 => pend0) (fun a0 ha0 => ?_)
 refine xal Z Z z172 (fun _ => pend0) (fun b1 => ?_)
 refine xsta Z Z Z Z m172 Z Z .z (Nat.le_of_ble_eq_true Z) .z pend0 <| X.nil <| tx [0,1,2,3,4,5,6,7,8,9,10,11,12] (ct [9,12]) Z Z <| xmv Z Z Z <| xmv Z Z Z <| xnc Z Z Z <| xfa Z Z Z f117_1 <| xld Z Z Z o3 (.s .z) Z ?_
 refine xixa Z Z Z Z a172 o171 (show 0 ≤ ((5 : Nat) : Int) ∧ ((5 : Nat) : Int) < ((14 : Nat) : Int) by decide) <| xld Z Z Z o171 .z Z <| xmv Z Z Z <| xmv Z Z Z ?_
 refine xcb (H1 := [_]) (H2 := _ :: _) (H2' := _ :: _) Z Z Z Z g129 Z (ct_root (x := (⟨5, cycle, turn, ev0⟩ : De)) loc_emp ht (by simp)) loc_emp Z pend0 <| xnc Z Z Z <| xfa Z Z Z f117_1 <| xst Z Z Z Z o3 Z (.s .z) Z (.s .z) pend0 <| X.nil ?_
 refine T.end0 Z (fun W D h => ?_)
 rw [show (⟨5, cycle, turn, ev0⟩ : De).step0 C.M l dr = _ from De.said_eq (x := (⟨5, cycle, turn, ev0⟩ : De)) (least := w64 (3 * cycle))]
 obtain ⟨D1, h1, h2⟩ := blks_pick0 [1] (by decide) h
 exact ⟨D1, ⟨rfl, rfl, h1⟩, h2⟩
set_option maxHeartbeats 1000000 in
theorem de_step6 {C : Cx} {l : Wds} {d : Nat} {cycle turn dr : Int} {event : Ev} (hM : C.M.Ok) (hp : 0 ≤ C.M.parts ∧ C.M.parts ≤ 100000) (hc : u64R cycle) (ht : 0 ≤ turn ∧ turn ≤ 4) : Cv C 65 [ptr d, ptr C.s, .int .i64 dr] l (DeR C d ⟨6, cycle, turn, event⟩) (.tuple #[]) ((⟨6, cycle, turn, ev0⟩ : De).step0 C.M l dr).2 (DeR C d ((⟨6, cycle, turn, ev0⟩ : De).step0 C.M l dr).1) := by
 refine Ct.of (vs := [ptr d, ptr C.s, .int .i64 dr]) Tryz.func65 rfl Tryz.ntmps65 (by simp) loc_DeR ?_
 intro w0 D0
 refine T.conv (fun w h => Sy.opens (H2 := [_]) h loc_emp) <| T.seq <| T.seq <| tx [0,1,2,3,4,5,6,7,8] nf Z Z <| xmv Z Z Z <| xnp Z Z Z Z u75_dPtr <| xmv Z Z Z <| xmv Z Z Z <| xnc Z Z Z <| xfa Z Z Z f117_0 <| xld Z Z Z o39 .z Z <| xnp Z Z Z Z u39_dPtr ?_
 refine xpk Z Z Z Z <| X.nil <| T.no Z <| T.skip <| T.seq <| tx [0,1,2,3,4] (ct [4]) Z Z <| xmv Z Z Z <| xbd Z Z Z l33 z33 Z <| xnc Z Z Z <| xfa Z Z Z f117_4 <| xsta Z Z Z Z m33 Z Z .z (Nat.le_of_ble_eq_true Z) .z pend0 <| X.nil <| T.seq ?_
 refine tx [0,1,2,3] (ct [1,2,3]) Z Z <| xmv Z Z Z <| xcx (H1 := [_]) (H2 := []) (B := DeB d) Z Z Z Z g99 Z (ct_deDoes) (fun _ => loc_emp) (fun a0 ha0 => pend0) (fun a0 ha0 => ?_)
 refine xal Z Z z172 (fun _ => pend0) (fun b1 => ?_)
 refine xsta Z Z Z Z m172 Z Z .z (Nat.le_of_ble_eq_true Z) .z pend0 <| X.nil <| tx [0,1,2,3,4,5,6,7,8,9,10,11,12] (ct [9,12]) Z Z <| xmv Z Z Z <| xmv Z Z Z <| xnc Z Z Z <| xfa Z Z Z f117_1 <| xld Z Z Z o3 (.s .z) Z ?_
 refine xixa Z Z Z Z a172 o171 (show 0 ≤ ((6 : Nat) : Int) ∧ ((6 : Nat) : Int) < ((14 : Nat) : Int) by decide) <| xld Z Z Z o171 .z Z <| xmv Z Z Z <| xmv Z Z Z ?_
 refine xcb (H1 := [_]) (H2 := _ :: _) (H2' := _ :: _) Z Z Z Z g162 Z (ct_tell (x := (⟨6, cycle, turn, ev0⟩ : De)) (ph := 4) loc_emp (.s (.s (.s (.s .z)))) (.s (.s (.s (.s (.s .z))))) (by omega) (by simp) hc) loc_emp Z pend0 <| xnc Z Z Z ?_
 refine xfa Z Z Z f117_1 <| xst Z Z Z Z o3 Z (.s .z) Z (.s .z) pend0 <| X.nil <| T.end0 Z (fun W D h => ?_)
 obtain ⟨D1, h1, h2⟩ := blks_pick0 [1] (by decide) h
 exact ⟨D1, ⟨rfl, rfl, h1⟩, h2⟩
set_option maxHeartbeats 1000000 in
theorem de_step7 {C : Cx} {l : Wds} {d : Nat} {cycle turn dr : Int} {event : Ev} (hM : C.M.Ok) (hp : 0 ≤ C.M.parts ∧ C.M.parts ≤ 100000) (hc : u64R cycle) (ht : 0 ≤ turn ∧ turn ≤ 4) : Cv C 65 [ptr d, ptr C.s, .int .i64 dr] l (DeR C d ⟨7, cycle, turn, event⟩) (.tuple #[]) ((⟨7, cycle, turn, ev0⟩ : De).step0 C.M l dr).2 (DeR C d ((⟨7, cycle, turn, ev0⟩ : De).step0 C.M l dr).1) := by
 refine Ct.of (vs := [ptr d, ptr C.s, .int .i64 dr]) Tryz.func65 rfl Tryz.ntmps65 (by simp) loc_DeR ?_
 intro w0 D0
 refine T.conv (fun w h => Sy.opens (H2 := [_]) h loc_emp) <| T.seq <| T.seq <| tx [0,1,2,3,4,5,6,7,8] nf Z Z <| xmv Z Z Z <| xnp Z Z Z Z u75_dPtr <| xmv Z Z Z <| xmv Z Z Z <| xnc Z Z Z <| xfa Z Z Z f117_0 <| xld Z Z Z o39 .z Z <| xnp Z Z Z Z u39_dPtr ?_
 refine xpk Z Z Z Z <| X.nil <| T.no Z <| T.skip <| T.seq <| tx [0,1,2,3,4] (ct [4]) Z Z <| xmv Z Z Z <| xbd Z Z Z l33 z33 Z <| xnc Z Z Z <| xfa Z Z Z f117_4 <| xsta Z Z Z Z m33 Z Z .z (Nat.le_of_ble_eq_true Z) .z pend0 <| X.nil <| T.seq ?_
 refine tx [0,1,2,3] (ct [1,2,3]) Z Z <| xmv Z Z Z <| xcx (H1 := [_]) (H2 := []) (B := DeB d) Z Z Z Z g99 Z (ct_deDoes) (fun _ => loc_emp) (fun a0 ha0 => pend0) (fun a0 ha0 => ?_)
 refine xal Z Z z172 (fun _ => pend0) (fun b1 => ?_)
 refine xsta Z Z Z Z m172 Z Z .z (Nat.le_of_ble_eq_true Z) .z pend0 <| X.nil <| tx [0,1,2,3,4,5,6,7,8,9,10,11,12] (ct [9,12]) Z Z <| xmv Z Z Z <| xmv Z Z Z <| xnc Z Z Z <| xfa Z Z Z f117_1 <| xld Z Z Z o3 (.s .z) Z ?_
 refine xixa Z Z Z Z a172 o171 (show 0 ≤ ((7 : Nat) : Int) ∧ ((7 : Nat) : Int) < ((14 : Nat) : Int) by decide) <| xld Z Z Z o171 .z Z <| xmv Z Z Z <| xmv Z Z Z ?_
 refine xcb (H1 := [_]) (H2 := _ :: _) (H2' := _ :: _) Z Z Z Z g164 Z (ct_count (x := (⟨7, cycle, turn, ev0⟩ : De)) (thn := 8) loc_emp (.s (.s (.s (.s (.s (.s .z)))))) (.s (.s (.s (.s (.s (.s (.s .z)))))))) loc_emp Z pend0 <| xnc Z Z Z <| xfa Z Z Z f117_1 ?_
 refine xst Z Z Z Z o3 Z (.s .z) Z (.s .z) pend0 <| X.nil <| T.end0 Z (fun W D h => ?_)
 obtain ⟨D1, h1, h2⟩ := blks_pick0 [1] (by decide) h
 exact ⟨D1, ⟨rfl, rfl, h1⟩, h2⟩
set_option maxHeartbeats 1000000 in
theorem de_step8 {C : Cx} {l : Wds} {d : Nat} {cycle turn dr : Int} {event : Ev} (hM : C.M.Ok) (hp : 0 ≤ C.M.parts ∧ C.M.parts ≤ 100000) (hc : u64R cycle) (ht : 0 ≤ turn ∧ turn ≤ 4) : Cv C 65 [ptr d, ptr C.s, .int .i64 dr] l (DeR C d ⟨8, cycle, turn, event⟩) (.tuple #[]) ((⟨8, cycle, turn, ev0⟩ : De).step0 C.M l dr).2 (DeR C d ((⟨8, cycle, turn, ev0⟩ : De).step0 C.M l dr).1) := by
 refine Ct.of (vs := [ptr d, ptr C.s, .int .i64 dr]) Tryz.func65 rfl Tryz.ntmps65 (by simp) loc_DeR ?_
 intro w0 D0
 refine T.conv (fun w h => Sy.opens (H2 := [_]) h loc_emp) <| T.seq <| T.seq <| tx [0,1,2,3,4,5,6,7,8] nf Z Z <| xmv Z Z Z <| xnp Z Z Z Z u75_dPtr <| xmv Z Z Z <| xmv Z Z Z <| xnc Z Z Z <| xfa Z Z Z f117_0 <| xld Z Z Z o39 .z Z <| xnp Z Z Z Z u39_dPtr ?_
 refine xpk Z Z Z Z <| X.nil <| T.no Z <| T.skip <| T.seq <| tx [0,1,2,3,4] (ct [4]) Z Z <| xmv Z Z Z <| xbd Z Z Z l33 z33 Z <| xnc Z Z Z <| xfa Z Z Z f117_4 <| xsta Z Z Z Z m33 Z Z .z (Nat.le_of_ble_eq_true Z) .z pend0 <| X.nil <| T.seq ?_
 refine tx [0,1,2,3] (ct [1,2,3]) Z Z <| xmv Z Z Z <| xcx (H1 := [_]) (H2 := []) (B := DeB d) Z Z Z Z g99 Z (ct_deDoes) (fun _ => loc_emp) (fun a0 ha0 => pend0) (fun a0 ha0 => ?_)
 refine xal Z Z z172 (fun _ => pend0) (fun b1 => ?_)
 refine xsta Z Z Z Z m172 Z Z .z (Nat.le_of_ble_eq_true Z) .z pend0 <| X.nil <| tx [0,1,2,3,4,5,6,7,8,9,10,11,12] (ct [9,12]) Z Z <| xmv Z Z Z <| xmv Z Z Z <| xnc Z Z Z <| xfa Z Z Z f117_1 <| xld Z Z Z o3 (.s .z) Z ?_
 refine xixa Z Z Z Z a172 o171 (show 0 ≤ ((8 : Nat) : Int) ∧ ((8 : Nat) : Int) < ((14 : Nat) : Int) by decide) <| xld Z Z Z o171 .z Z <| xmv Z Z Z <| xmv Z Z Z ?_
 refine xcb (H1 := [_]) (H2 := _ :: _) (H2' := _ :: _) Z Z Z Z g164 Z (ct_count (x := (⟨8, cycle, turn, ev0⟩ : De)) (thn := 9) loc_emp (.s (.s (.s (.s (.s (.s (.s (.s .z)))))))) (.s (.s (.s (.s (.s (.s (.s (.s (.s .z)))))))))) loc_emp Z pend0 <| xnc Z Z Z ?_
 refine xfa Z Z Z f117_1 <| xst Z Z Z Z o3 Z (.s .z) Z (.s .z) pend0 <| X.nil <| T.end0 Z (fun W D h => ?_)
 obtain ⟨D1, h1, h2⟩ := blks_pick0 [1] (by decide) h
 exact ⟨D1, ⟨rfl, rfl, h1⟩, h2⟩
set_option maxHeartbeats 1000000 in
theorem de_step9 {C : Cx} {l : Wds} {d : Nat} {cycle turn dr : Int} {event : Ev} (hM : C.M.Ok) (hp : 0 ≤ C.M.parts ∧ C.M.parts ≤ 100000) (hc : u64R cycle) (ht : 0 ≤ turn ∧ turn ≤ 4) : Cv C 65 [ptr d, ptr C.s, .int .i64 dr] l (DeR C d ⟨9, cycle, turn, event⟩) (.tuple #[]) ((⟨9, cycle, turn, ev0⟩ : De).step0 C.M l dr).2 (DeR C d ((⟨9, cycle, turn, ev0⟩ : De).step0 C.M l dr).1) := by
 refine Ct.of (vs := [ptr d, ptr C.s, .int .i64 dr]) Tryz.func65 rfl Tryz.ntmps65 (by simp) loc_DeR ?_
 intro w0 D0
 refine T.conv (fun w h => Sy.opens (H2 := [_]) h loc_emp) <| T.seq <| T.seq <| tx [0,1,2,3,4,5,6,7,8] nf Z Z <| xmv Z Z Z <| xnp Z Z Z Z u75_dPtr <| xmv Z Z Z <| xmv Z Z Z <| xnc Z Z Z <| xfa Z Z Z f117_0 <| xld Z Z Z o39 .z Z <| xnp Z Z Z Z u39_dPtr ?_
 refine xpk Z Z Z Z <| X.nil <| T.no Z <| T.skip <| T.seq <| tx [0,1,2,3,4] (ct [4]) Z Z <| xmv Z Z Z <| xbd Z Z Z l33 z33 Z <| xnc Z Z Z <| xfa Z Z Z f117_4 <| xsta Z Z Z Z m33 Z Z .z (Nat.le_of_ble_eq_true Z) .z pend0 <| X.nil <| T.seq ?_
 refine tx [0,1,2,3] (ct [1,2,3]) Z Z <| xmv Z Z Z <| xcx (H1 := [_]) (H2 := []) (B := DeB d) Z Z Z Z g99 Z (ct_deDoes) (fun _ => loc_emp) (fun a0 ha0 => pend0) (fun a0 ha0 => ?_)
 refine xal Z Z z172 (fun _ => pend0) (fun b1 => ?_)
 refine xsta Z Z Z Z m172 Z Z .z (Nat.le_of_ble_eq_true Z) .z pend0 <| X.nil <| tx [0,1,2,3,4,5,6,7,8,9,10,11,12] (ct [9,12]) Z Z <| xmv Z Z Z <| xmv Z Z Z <| xnc Z Z Z <| xfa Z Z Z f117_1 <| xld Z Z Z o3 (.s .z) Z ?_
 refine xixa Z Z Z Z a172 o171 (show 0 ≤ ((9 : Nat) : Int) ∧ ((9 : Nat) : Int) < ((14 : Nat) : Int) by decide) <| xld Z Z Z o171 .z Z <| xmv Z Z Z <| xmv Z Z Z ?_
 refine xcb (H1 := [_]) (H2 := _ :: _) (H2' := _ :: _) Z Z Z Z g131 Z (ct_clearSweep (x := (⟨9, cycle, turn, ev0⟩ : De)) loc_emp) loc_emp Z pend0 <| xnc Z Z Z <| xfa Z Z Z f117_1 <| xst Z Z Z Z o3 Z (.s .z) Z (.s .z) pend0 <| X.nil ?_
 refine T.end0 Z (fun W D h => ?_)
 obtain ⟨D1, h1, h2⟩ := blks_pick0 [1] (by decide) h
 exact ⟨D1, ⟨rfl, rfl, h1⟩, h2⟩
set_option maxHeartbeats 1000000 in
theorem de_step10 {C : Cx} {l : Wds} {d : Nat} {cycle turn dr : Int} {event : Ev} (hM : C.M.Ok) (hp : 0 ≤ C.M.parts ∧ C.M.parts ≤ 100000) (hc : u64R cycle) (ht : 0 ≤ turn ∧ turn ≤ 4) : Cv C 65 [ptr d, ptr C.s, .int .i64 dr] l (DeR C d ⟨10, cycle, turn, event⟩) (.tuple #[]) ((⟨10, cycle, turn, ev0⟩ : De).step0 C.M l dr).2 (DeR C d ((⟨10, cycle, turn, ev0⟩ : De).step0 C.M l dr).1) := by
 refine Ct.of (vs := [ptr d, ptr C.s, .int .i64 dr]) Tryz.func65 rfl Tryz.ntmps65 (by simp) loc_DeR ?_
 intro w0 D0
 refine T.conv (fun w h => Sy.opens (H2 := [_]) h loc_emp) <| T.seq <| T.seq <| tx [0,1,2,3,4,5,6,7,8] nf Z Z <| xmv Z Z Z <| xnp Z Z Z Z u75_dPtr <| xmv Z Z Z <| xmv Z Z Z <| xnc Z Z Z <| xfa Z Z Z f117_0 <| xld Z Z Z o39 .z Z <| xnp Z Z Z Z u39_dPtr ?_
 refine xpk Z Z Z Z <| X.nil <| T.no Z <| T.skip <| T.seq <| tx [0,1,2,3,4] (ct [4]) Z Z <| xmv Z Z Z <| xbd Z Z Z l33 z33 Z <| xnc Z Z Z <| xfa Z Z Z f117_4 <| xsta Z Z Z Z m33 Z Z .z (Nat.le_of_ble_eq_true Z) .z pend0 <| X.nil <| T.seq ?_
 refine tx [0,1,2,3] (ct [1,2,3]) Z Z <| xmv Z Z Z <| xcx (H1 := [_]) (H2 := []) (B := DeB d) Z Z Z Z g99 Z (ct_deDoes) (fun _ => loc_emp) (fun a0 ha0 => pend0) (fun a0 ha0 => ?_)
 refine xal Z Z z172 (fun _ => pend0) (fun b1 => ?_)
 refine xsta Z Z Z Z m172 Z Z .z (Nat.le_of_ble_eq_true Z) .z pend0 <| X.nil <| tx [0,1,2,3,4,5,6,7,8,9,10,11,12] (ct [9,12]) Z Z <| xmv Z Z Z <| xmv Z Z Z <| xnc Z Z Z <| xfa Z Z Z f117_1 <| xld Z Z Z o3 (.s .z) Z ?_
 refine xixa Z Z Z Z a172 o171 (show 0 ≤ ((10 : Nat) : Int) ∧ ((10 : Nat) : Int) < ((14 : Nat) : Int) by decide) <| xld Z Z Z o171 .z Z <| xmv Z Z Z <| xmv Z Z Z ?_
 refine xcb (H1 := [_]) (H2 := _ :: _) (H2' := _ :: _) Z Z Z Z g132 Z (ct_clearDone (x := (⟨10, cycle, turn, ev0⟩ : De)) loc_emp) loc_emp Z pend0 <| xnc Z Z Z <| xfa Z Z Z f117_1 <| xst Z Z Z Z o3 Z (.s .z) Z (.s .z) pend0 <| X.nil ?_
 refine T.end0 Z (fun W D h => ?_)
 obtain ⟨D1, h1, h2⟩ := blks_pick0 [1] (by decide) h
 exact ⟨D1, ⟨rfl, rfl, h1⟩, h2⟩
set_option maxHeartbeats 1000000 in
theorem de_step11 {C : Cx} {l : Wds} {d : Nat} {cycle turn dr : Int} {event : Ev} (hM : C.M.Ok) (hp : 0 ≤ C.M.parts ∧ C.M.parts ≤ 100000) (hc : u64R cycle) (ht : 0 ≤ turn ∧ turn ≤ 4) : Cv C 65 [ptr d, ptr C.s, .int .i64 dr] l (DeR C d ⟨11, cycle, turn, event⟩) (.tuple #[]) ((⟨11, cycle, turn, ev0⟩ : De).step0 C.M l dr).2 (DeR C d ((⟨11, cycle, turn, ev0⟩ : De).step0 C.M l dr).1) := by
 refine Ct.of (vs := [ptr d, ptr C.s, .int .i64 dr]) Tryz.func65 rfl Tryz.ntmps65 (by simp) loc_DeR ?_
 intro w0 D0
 refine T.conv (fun w h => Sy.opens (H2 := [_]) h loc_emp) <| T.seq <| T.seq <| tx [0,1,2,3,4,5,6,7,8] nf Z Z <| xmv Z Z Z <| xnp Z Z Z Z u75_dPtr <| xmv Z Z Z <| xmv Z Z Z <| xnc Z Z Z <| xfa Z Z Z f117_0 <| xld Z Z Z o39 .z Z <| xnp Z Z Z Z u39_dPtr ?_
 refine xpk Z Z Z Z <| X.nil <| T.no Z <| T.skip <| T.seq <| tx [0,1,2,3,4] (ct [4]) Z Z <| xmv Z Z Z <| xbd Z Z Z l33 z33 Z <| xnc Z Z Z <| xfa Z Z Z f117_4 <| xsta Z Z Z Z m33 Z Z .z (Nat.le_of_ble_eq_true Z) .z pend0 <| X.nil <| T.seq ?_
 refine tx [0,1,2,3] (ct [1,2,3]) Z Z <| xmv Z Z Z <| xcx (H1 := [_]) (H2 := []) (B := DeB d) Z Z Z Z g99 Z (ct_deDoes) (fun _ => loc_emp) (fun a0 ha0 => pend0) (fun a0 ha0 => ?_)
 refine xal Z Z z172 (fun _ => pend0) (fun b1 => ?_)
 refine xsta Z Z Z Z m172 Z Z .z (Nat.le_of_ble_eq_true Z) .z pend0 <| X.nil <| tx [0,1,2,3,4,5,6,7,8,9,10,11,12] (ct [9,12]) Z Z <| xmv Z Z Z <| xmv Z Z Z <| xnc Z Z Z <| xfa Z Z Z f117_1 <| xld Z Z Z o3 (.s .z) Z ?_
 refine xixa Z Z Z Z a172 o171 (show 0 ≤ ((11 : Nat) : Int) ∧ ((11 : Nat) : Int) < ((14 : Nat) : Int) by decide) <| xld Z Z Z o171 .z Z <| xmv Z Z Z <| xmv Z Z Z ?_
 refine xcb (H1 := [_]) (H2 := _ :: _) (H2' := _ :: _) Z Z Z Z g162 Z (ct_tell (x := (⟨11, cycle, turn, ev0⟩ : De)) (ph := 5) loc_emp (.s (.s (.s (.s (.s (.s (.s (.s (.s (.s .z)))))))))) (.s (.s (.s (.s (.s (.s (.s (.s (.s (.s (.s .z))))))))))) (by omega) (by simp) hc) loc_emp Z pend0 ?_
 refine xnc Z Z Z <| xfa Z Z Z f117_1 <| xst Z Z Z Z o3 Z (.s .z) Z (.s .z) pend0 <| X.nil <| T.end0 Z (fun W D h => ?_)
 obtain ⟨D1, h1, h2⟩ := blks_pick0 [1] (by decide) h
 exact ⟨D1, ⟨rfl, rfl, h1⟩, h2⟩
set_option maxHeartbeats 1000000 in
theorem de_step12 {C : Cx} {l : Wds} {d : Nat} {cycle turn dr : Int} {event : Ev} (hM : C.M.Ok) (hp : 0 ≤ C.M.parts ∧ C.M.parts ≤ 100000) (hc : u64R cycle) (ht : 0 ≤ turn ∧ turn ≤ 4) : Cv C 65 [ptr d, ptr C.s, .int .i64 dr] l (DeR C d ⟨12, cycle, turn, event⟩) (.tuple #[]) ((⟨12, cycle, turn, ev0⟩ : De).step0 C.M l dr).2 (DeR C d ((⟨12, cycle, turn, ev0⟩ : De).step0 C.M l dr).1) := by
 refine Ct.of (vs := [ptr d, ptr C.s, .int .i64 dr]) Tryz.func65 rfl Tryz.ntmps65 (by simp) loc_DeR ?_
 intro w0 D0
 refine T.conv (fun w h => Sy.opens (H2 := [_]) h loc_emp) <| T.seq <| T.seq <| tx [0,1,2,3,4,5,6,7,8] nf Z Z <| xmv Z Z Z <| xnp Z Z Z Z u75_dPtr <| xmv Z Z Z <| xmv Z Z Z <| xnc Z Z Z <| xfa Z Z Z f117_0 <| xld Z Z Z o39 .z Z <| xnp Z Z Z Z u39_dPtr ?_
 refine xpk Z Z Z Z <| X.nil <| T.no Z <| T.skip <| T.seq <| tx [0,1,2,3,4] (ct [4]) Z Z <| xmv Z Z Z <| xbd Z Z Z l33 z33 Z <| xnc Z Z Z <| xfa Z Z Z f117_4 <| xsta Z Z Z Z m33 Z Z .z (Nat.le_of_ble_eq_true Z) .z pend0 <| X.nil <| T.seq ?_
 refine tx [0,1,2,3] (ct [1,2,3]) Z Z <| xmv Z Z Z <| xcx (H1 := [_]) (H2 := []) (B := DeB d) Z Z Z Z g99 Z (ct_deDoes) (fun _ => loc_emp) (fun a0 ha0 => pend0) (fun a0 ha0 => ?_)
 refine xal Z Z z172 (fun _ => pend0) (fun b1 => ?_)
 refine xsta Z Z Z Z m172 Z Z .z (Nat.le_of_ble_eq_true Z) .z pend0 <| X.nil <| tx [0,1,2,3,4,5,6,7,8,9,10,11,12] (ct [9,12]) Z Z <| xmv Z Z Z <| xmv Z Z Z <| xnc Z Z Z <| xfa Z Z Z f117_1 <| xld Z Z Z o3 (.s .z) Z ?_
 refine xixa Z Z Z Z a172 o171 (show 0 ≤ ((12 : Nat) : Int) ∧ ((12 : Nat) : Int) < ((14 : Nat) : Int) by decide) <| xld Z Z Z o171 .z Z <| xmv Z Z Z <| xmv Z Z Z ?_
 refine xcb (H1 := [_]) (H2 := _ :: _) (H2' := _ :: _) Z Z Z Z g133 Z (ct_end (x := (⟨12, cycle, turn, ev0⟩ : De)) loc_emp hM hp) loc_emp Z pend0 <| xnc Z Z Z <| xfa Z Z Z f117_1 <| xst Z Z Z Z o3 Z (.s .z) Z (.s .z) pend0 <| X.nil ?_
 refine T.end0 Z (fun W D h => ?_)
 rw [end_eq]
 obtain ⟨D1, h1, h2⟩ := blks_pick0 [1] (by decide) h
 exact ⟨D1, ⟨rfl, rfl, h1⟩, h2⟩
set_option maxHeartbeats 1000000 in
theorem de_step13 {C : Cx} {l : Wds} {d : Nat} {cycle turn dr : Int} {event : Ev} (hM : C.M.Ok) (hp : 0 ≤ C.M.parts ∧ C.M.parts ≤ 100000) (hc : u64R cycle) (ht : 0 ≤ turn ∧ turn ≤ 4) : Cv C 65 [ptr d, ptr C.s, .int .i64 dr] l (DeR C d ⟨13, cycle, turn, event⟩) (.tuple #[]) ((⟨13, cycle, turn, ev0⟩ : De).step0 C.M l dr).2 (DeR C d ((⟨13, cycle, turn, ev0⟩ : De).step0 C.M l dr).1) := by
 refine Ct.of (vs := [ptr d, ptr C.s, .int .i64 dr]) Tryz.func65 rfl Tryz.ntmps65 (by simp) loc_DeR ?_
 intro w0 D0
 refine T.conv (fun w h => Sy.opens (H2 := [_]) h loc_emp) <| T.seq <| T.seq <| tx [0,1,2,3,4,5,6,7,8] nf Z Z <| xmv Z Z Z <| xnp Z Z Z Z u75_dPtr <| xmv Z Z Z <| xmv Z Z Z <| xnc Z Z Z <| xfa Z Z Z f117_0 <| xld Z Z Z o39 .z Z <| xnp Z Z Z Z u39_dPtr ?_
 refine xpk Z Z Z Z <| X.nil <| T.no Z <| T.skip <| T.seq <| tx [0,1,2,3,4] (ct [4]) Z Z <| xmv Z Z Z <| xbd Z Z Z l33 z33 Z <| xnc Z Z Z <| xfa Z Z Z f117_4 <| xsta Z Z Z Z m33 Z Z .z (Nat.le_of_ble_eq_true Z) .z pend0 <| X.nil <| T.seq ?_
 refine tx [0,1,2,3] (ct [1,2,3]) Z Z <| xmv Z Z Z <| xcx (H1 := [_]) (H2 := []) (B := DeB d) Z Z Z Z g99 Z (ct_deDoes) (fun _ => loc_emp) (fun a0 ha0 => pend0) (fun a0 ha0 => ?_)
 refine xal Z Z z172 (fun _ => pend0) (fun b1 => ?_)
 refine xsta Z Z Z Z m172 Z Z .z (Nat.le_of_ble_eq_true Z) .z pend0 <| X.nil <| tx [0,1,2,3,4,5,6,7,8,9,10,11,12] (ct [9,12]) Z Z <| xmv Z Z Z <| xmv Z Z Z <| xnc Z Z Z <| xfa Z Z Z f117_1 <| xld Z Z Z o3 (.s .z) Z ?_
 refine xixa Z Z Z Z a172 o171 (show 0 ≤ ((13 : Nat) : Int) ∧ ((13 : Nat) : Int) < ((14 : Nat) : Int) by decide) <| xld Z Z Z o171 .z Z <| xmv Z Z Z <| xmv Z Z Z ?_
 refine xcb (H1 := [_]) (H2 := _ :: _) (H2' := _ :: _) Z Z Z Z g162 Z (ct_tell (x := (⟨13, cycle, turn, ev0⟩ : De)) (ph := 0) loc_emp (.s (.s (.s (.s (.s (.s (.s (.s (.s (.s (.s (.s .z)))))))))))) (.s (.s (.s (.s (.s (.s (.s (.s (.s (.s (.s (.s (.s .z))))))))))))) (by omega) (by simp) hc) loc_emp Z pend0 ?_
 refine xnc Z Z Z <| xfa Z Z Z f117_1 <| xst Z Z Z Z o3 Z (.s .z) Z (.s .z) pend0 <| X.nil <| T.end0 Z (fun W D h => ?_)
 obtain ⟨D1, h1, h2⟩ := blks_pick0 [1] (by decide) h
 exact ⟨D1, ⟨rfl, rfl, h1⟩, h2⟩
theorem ct_deStep {C : Cx} {l : Wds} {d : Nat} {x : De} {dr : Int} (hM : C.M.Ok) (hp : 0 ≤ C.M.parts ∧ C.M.parts ≤ 100000) (hx : x.Ok C.M) : Cv C 65 [ptr d, ptr C.s, .int .i64 dr] l (DeR C d x) (.tuple #[]) (x.step C.M l dr).2 (DeR C d (x.step C.M l dr).1) := by
 obtain ⟨k, cycle, turn, event⟩ := x
 have hc := hx.cycle
 have ht := hx.turn
 have hk := hx.doing
 simp only at hc ht hk
 match k, hk with
 | 0, _ => exact de_step0 hM hp hc ht
 | 1, _ => exact de_step1 hM hp hc ht
 | 2, _ => exact de_step2 hM hp hc ht
 | 3, _ => exact de_step3 hM hp hc ht
 | 4, _ => exact de_step4 hM hp hc ht
 | 5, _ => exact de_step5 hM hp hc ht
 | 6, _ => exact de_step6 hM hp hc ht
 | 7, _ => exact de_step7 hM hp hc ht
 | 8, _ => exact de_step8 hM hp hc ht
 | 9, _ => exact de_step9 hM hp hc ht
 | 10, _ => exact de_step10 hM hp hc ht
 | 11, _ => exact de_step11 hM hp hc ht
 | 12, _ => exact de_step12 hM hp hc ht
 | 13, _ => exact de_step13 hM hp hc ht
set_option maxHeartbeats 1000000 in
theorem de_Event {C : Cx} {d : Nat} {m : De} {l : Wds} : Cv C 283 [ptr d] l (DeR C d m) (.agg m.event.cells.toArray) l (DeR C d m) := by
 refine Ct.of (vs := [ptr d]) Tryz.func283 rfl Tryz.ntmps283 (by simp) loc_DeR ?_
 intro w0 D0
 refine T.conv (fun w h => Sy.opens (H2 := [_]) h loc_emp) <| T.seq <| tx [0] (ct [0]) Z Z <| xal Z Z z33 (fun _ => pend0) (fun b0 => ?_)
 refine X.nil <| T.seq <| T.seq <| tx [0,1] nf Z Z <| xmv Z Z Z <| xnp Z Z Z Z u75_dPtr <| X.nil <| T.no Z <| T.skip <| T.seq <| tx [0,1,2,3,4] (ct [4]) Z Z <| xmv Z Z Z <| xnc Z Z Z <| xfa Z Z Z f117_4 <| xlda Z Z Z m33 (.s .z) Z ?_
 refine xsta Z Z Z Z m33 Z Z .z (Nat.le_of_ble_eq_true Z) .z pend0 <| X.nil <| T.retc Z Z m33 .z Z (fun W D h => ?_)
 obtain ⟨D1, h1, h2⟩ := blks_tail h
 exact ⟨D1, ⟨rfl, rfl, h1⟩, h2⟩
theorem De.new_ok {M : MapM} : De.new.Ok M := ⟨by simp [De.new], by unfold u64R; simp [De.new], by simp [De.new], by simp [De.new]⟩
theorem De.tell_ok {M : MapM} (hM : M.Ok) {x : De} {p : Int} {l : Wds} (hc : u64R x.cycle) : (x.tell p l).1.Ok M := by
 have := hM.mutators
 exact ⟨Nat.mod_lt _ (by decide), hc, by simp [De.tell], fun _ => by simp only [De.tell]; omega⟩
theorem De.said_ok {M : MapM} (hM : M.Ok) {x : De} {p : Int} {l : Wds} (hx : x.Ok M) (hd : x.doing = 1 ∨ x.doing = 3 ∨ x.doing = 5) : (x.said M p l).1.Ok M := by
 have h1 := hM.mutators
 have h2 := hx.turn
 have h3 := hx.lt hd
 unfold De.said
 split
 ·exact hx
 ·split
  ·exact ⟨hx.doing, hx.cycle, by simp only; omega, fun _ => by simp only; omega⟩
  ·exact ⟨by simp only; omega, hx.cycle, by simp only; omega, fun h => by simp only at h; omega⟩
theorem De.step_ok {M : MapM} (hM : M.Ok) {x : De} {l : Wds} {dr : Int} (hx : x.Ok M) : (x.step M l dr).1.Ok M := by
 have h0 : ({ x with event := ev0 } : De).Ok M := ⟨hx.doing, hx.cycle, hx.turn, hx.lt⟩
 have set : ∀ k, k < 14 → ¬ (k = 1 ∨ k = 3 ∨ k = 5) → ({ x with event := ev0, doing := k } : De).Ok M := fun k h h' => ⟨h, hx.cycle, hx.turn, fun h2 => (h' h2).elim⟩
 unfold De.step De.step0
 split
 ·split
  ·exact h0
  ·exact De.tell_ok hM (w64_rng _)
 ·rename_i h; exact De.said_ok hM h0 (.inl h)
 ·exact De.tell_ok hM hx.cycle
 ·rename_i h; exact De.said_ok hM h0 (.inr (.inl h))
 ·exact De.tell_ok hM hx.cycle
 ·rename_i h; exact De.said_ok hM h0 (.inr (.inr h))
 ·exact De.tell_ok hM hx.cycle
 ·unfold De.count; split <;> exact set _ (by decide) (by decide)
 ·unfold De.count; split <;> exact set _ (by decide) (by decide)
 ·exact set _ (by decide) (by decide)
 ·exact set _ (by decide) (by decide)
 ·exact De.tell_ok hM hx.cycle
 ·split
  ·exact h0
  ·exact set _ (by decide) (by decide)
 ·exact De.tell_ok hM hx.cycle
 ·exact h0
theorem De.step_rng {M : MapM} {x : De} {l : Wds} {dr : Int} (hx : x.Ok M) (hr : Rng l) : Rng (x.step M l dr).2 := by
 have ht : ∀ (y : De) (p : Int), 0 ≤ p ∧ p ≤ 7 → Rng (y.tell p l).2 := fun y p hp => hr.put (phaseW_rng hp)
 have hs : ∀ (y : De) (p : Int), (y.said M p l).2 = l := fun y p => by rw [De.said_eq]
 unfold De.step De.step0
 split
 ·split
  ·exact hr
  ·exact ht _ _ (by omega)
 ·rw [hs]; exact hr
 ·exact ht _ _ (by omega)
 ·rw [hs]; exact hr
 ·exact ht _ _ (by omega)
 ·rw [hs]; exact hr
 ·exact ht _ _ (by omega)
 ·exact hr
 ·exact hr
 ·exact hr.put (pair_rng (w32_rng _) (by omega))
 ·exact hr.put (by unfold u64R; omega)
 ·exact ht _ _ (by omega)
 ·split <;> exact hr
 ·exact ht _ _ (by omega)
 ·exact hr
def sepL : List Asr → Asr
 | [] => emp
 | R :: L => sep R (sepL L)
theorem loc_sepL : ∀ {L : List Asr}, (∀ R ∈ L, Loc R) → Loc (sepL L)
 | [], _ => loc_emp
 | R :: L, h => loc_sep (h R (by simp)) (loc_sepL fun R' h' => h R' (by simp [h']))
theorem sepL_at : ∀ {L : List Asr} {i : Nat} {R : Asr}, L[i]? = some R → sepL L = sep R (sepL (L.eraseIdx i))
 | [], _, _, h => by simp at h
 | X :: L, 0, R, h => by
  obtain rfl : X = R := by simpa using h
  rfl
 | X :: L, i + 1, R, h => by
  have h' : L[i]? = some R := by simpa using h
  show sep X (sepL L) = sep R (sep X (sepL (L.eraseIdx i)))
  rw [sepL_at h', ← sep_assoc, ← sep_assoc, sep_comm X R]
theorem sepL_app : ∀ (L L' : List Asr), sepL (L ++ L') = sep (sepL L) (sepL L')
 | [], L' => (emp_sep _).symm
 | X :: L, L' => by
  show sep X (sepL (L ++ L')) = sep (sep X (sepL L)) (sepL L')
  rw [sepL_app L L', sep_assoc]
theorem eraseIdx_set {α : Type} (L : List α) (i : Nat) (x : α) : (L.set i x).eraseIdx i = L.eraseIdx i := by
 induction L generalizing i with
 | nil => rfl
 | cons a L ih => cases i with
  | zero => rfl
  | succ i => simp [ih]
def ptrs (qs : List Nat) : List Value := qs.map ptr
theorem nth_ptrs {qs : List Nat} {rs : List Value} {j : Nat} (h : j < qs.length) : nth (ptrs qs ++ rs) (0 + (j : Int).toNat * 1) = some (ptr (qs.getD j 0)) := by
 rw [nth_eq]
 unfold ptrs
 rw [show 0 + (j : Int).toNat * 1 = j by omega, List.getElem?_append_left (by simpa using h)]
 simp [h]
def evs : List Ev → List Value
 | [] => []
 | e :: r => e.cells ++ evs r
theorem evs_length : ∀ (l : List Ev), (evs l).length = l.length * 5
 | [] => rfl
 | e :: r => by simp [evs, Ev.cells, evs_length r]; omega
theorem evs_app : ∀ (l : List Ev) (e : Ev), evs l ++ e.cells = evs (l ++ [e])
 | [], e => by simp [evs]
 | x :: r, e => by
  show x.cells ++ evs r ++ e.cells = x.cells ++ evs (r ++ [e])
  rw [← evs_app r e, List.append_assoc]
abbrev mkB (mb : Nat) (qs : List Nat) (rm : List Value) : Bk := ⟨mb, 81, ptrs qs ++ rm⟩
abbrev muB (ub : Nat) (us : List Nat) (ru : List Value) : Bk := ⟨ub, 83, ptrs us ++ ru⟩
abbrev woB (C : Cx) (p : Nat) (mb nm cm ub nu cu db : Nat) (lv : Value) : Bk := ⟨p, 80, [ptr C.m, ptr C.s, slv mb nm cm, slv ub nu cu, ptr db, lv]⟩
def LogV (lv : Value) (log : List Ev) (B : List Bk) : Prop :=
 (lv = .slice none 0 0 ∧ log = [] ∧ B = []) ∨ ∃ b rest c, lv = slv b log.length c ∧ log ≠ [] ∧ log.length ≤ c ∧ (evs log).length + List.length rest = c * 5 ∧ B = [⟨b, 33, evs log ++ rest⟩]
def MksR (C : Cx) (qs : List Nat) (ms : List Mk) : Asr := sepL (List.zipWith (MkR C) qs ms)
def MusR (C : Cx) (us : List Nat) (ms : List Mu) : Asr := sepL (List.zipWith (MuR C) us ms)
theorem loc_MksR {C : Cx} {qs : List Nat} {ms : List Mk} : Loc (MksR C qs ms) := loc_sepL fun R h => by
 obtain ⟨i, hi, rfl⟩ := List.mem_iff_getElem.1 h
 rw [List.getElem_zipWith]
 exact loc_MkR
theorem loc_MusR {C : Cx} {us : List Nat} {ms : List Mu} : Loc (MusR C us ms) := loc_sepL fun R h => by
 obtain ⟨i, hi, rfl⟩ := List.mem_iff_getElem.1 h
 rw [List.getElem_zipWith]
 exact loc_MuR
theorem mks_at {C : Cx} {qs : List Nat} {ms : List Mk} {i : Nat} (hl : qs.length = ms.length) (hi : i < ms.length) (m' : Mk) :
  ∃ F, Loc F ∧ MksR C qs ms = sep (MkR C (qs.getD i 0) (ms.getD i mk0)) F ∧ MksR C qs (ms.set i m') = sep (MkR C (qs.getD i 0) m') F := by
 refine ⟨sepL ((List.zipWith (MkR C) qs ms).eraseIdx i), loc_sepL (fun R h => ?_), sepL_at ?_, ?_⟩
 ·obtain ⟨j, hj, rfl⟩ := List.mem_iff_getElem.1 (List.mem_of_mem_eraseIdx h)
  rw [List.getElem_zipWith]
  exact loc_MkR
 ·rw [List.getElem?_zipWith, List.getElem?_eq_getElem (by omega : i < qs.length), List.getElem?_eq_getElem hi]
  simp [List.getD, List.getElem?_eq_getElem (by omega : i < qs.length), List.getElem?_eq_getElem hi]
 ·have e : List.zipWith (MkR C) qs (ms.set i m') = (List.zipWith (MkR C) qs ms).set i (MkR C (qs.getD i 0) m') := by
   apply List.ext_getElem?
   intro j
   rw [List.getElem?_zipWith, List.getElem?_set, List.getElem?_set, List.getElem?_zipWith]
   by_cases h : i = j
   ·subst h
    simp [List.getD, List.getElem?_eq_getElem (by omega : i < qs.length), hi, hl]
   ·simp [h]
  unfold MksR
  rw [e, sepL_at (i := i) (R := MkR C (qs.getD i 0) m') (by rw [List.getElem?_set_self (by simp; omega)]), eraseIdx_set]
theorem mus_at {C : Cx} {qs : List Nat} {ms : List Mu} {i : Nat} (hl : qs.length = ms.length) (hi : i < ms.length) (m' : Mu) :
  ∃ F, Loc F ∧ MusR C qs ms = sep (MuR C (qs.getD i 0) (ms.getD i mu0)) F ∧ MusR C qs (ms.set i m') = sep (MuR C (qs.getD i 0) m') F := by
 refine ⟨sepL ((List.zipWith (MuR C) qs ms).eraseIdx i), loc_sepL (fun R h => ?_), sepL_at ?_, ?_⟩
 ·obtain ⟨j, hj, rfl⟩ := List.mem_iff_getElem.1 (List.mem_of_mem_eraseIdx h)
  rw [List.getElem_zipWith]
  exact loc_MuR
 ·rw [List.getElem?_zipWith, List.getElem?_eq_getElem (by omega : i < qs.length), List.getElem?_eq_getElem hi]
  simp [List.getD, List.getElem?_eq_getElem (by omega : i < qs.length), List.getElem?_eq_getElem hi]
 ·have e : List.zipWith (MuR C) qs (ms.set i m') = (List.zipWith (MuR C) qs ms).set i (MuR C (qs.getD i 0) m') := by
   apply List.ext_getElem?
   intro j
   rw [List.getElem?_zipWith, List.getElem?_set, List.getElem?_set, List.getElem?_zipWith]
   by_cases h : i = j
   ·subst h
    simp [List.getD, List.getElem?_eq_getElem (by omega : i < qs.length), hi, hl]
   ·simp [h]
  unfold MusR
  rw [e, sepL_at (i := i) (R := MuR C (qs.getD i 0) m') (by rw [List.getElem?_set_self (by simp; omega)]), eraseIdx_set]
structure WoA where
 qs : List Nat
 us : List Nat
 mb : Nat
 rm : List Value
 cm : Nat
 ub : Nat
 ru : List Value
 cu : Nat
 db : Nat
 lv : Value
 B : List Bk
structure WoA.Ok (a : WoA) (W : Wo) : Prop where
 q : a.qs.length = W.markers.length
 u : a.us.length = W.mutators.length
 m : a.qs.length + a.rm.length = a.cm
 n : a.us.length + a.ru.length = a.cu
 log : LogV a.lv W.log a.B
def WoR (C : Cx) (p : Nat) (W : Wo) : Asr := fun D w => ∃ a : WoA, a.Ok W ∧
 blks (woB C p a.mb a.qs.length a.cm a.ub a.us.length a.cu a.db a.lv :: mkB a.mb a.qs a.rm :: muB a.ub a.us a.ru :: a.B) (sep (MksR C a.qs W.markers) (sep (MusR C a.us W.mutators) (DeR C a.db W.det))) D w
theorem loc_WoR {C : Cx} {p : Nat} {W : Wo} : Loc (WoR C p W) := loc_ex fun _ => loc_and (loc_blks (loc_sep loc_MksR (loc_sep loc_MusR loc_DeR)) _)
structure Wo.Ok (M : MapM) (W : Wo) : Prop where
 rng : Rng W.l
 marks : ∀ m ∈ W.markers, m.Ok M
 muts : ∀ m ∈ W.mutators, m.Ok M
 det : W.det.Ok M
theorem getD_ok {α : Type} {P : α → Prop} {l : List α} {i : Nat} {d : α} (h : ∀ x ∈ l, P x) (hi : i < l.length) : P (l.getD i d) := by
 rw [List.getD_eq_getElem?_getD, List.getElem?_eq_getElem hi]
 exact h _ (List.getElem_mem hi)
theorem set_ok {α : Type} {P : α → Prop} {l : List α} {i : Nat} {y : α} (h : ∀ x ∈ l, P x) (hy : P y) : ∀ x ∈ l.set i y, P x := fun x hx => by
 rcases List.mem_or_eq_of_mem_set hx with h1 | rfl
 ·exact h x h1
 ·exact hy
theorem Wo.steps_ok {M : MapM} (hM : M.Ok) {W : Wo} (h : W.Ok M) (who : Nat) (dr : Int) : (W.steps M who dr).1.Ok M := by
 unfold Wo.steps
 split
 ·rename_i hi
  have hm := getD_ok (d := mk0) h.marks hi
  exact ⟨Mk.step_rng hm h.rng, set_ok h.marks (Mk.step_ok hM hm h.rng.ld), h.muts, h.det⟩
 ·split
  ·rename_i h1 h2
   have hm := getD_ok (d := mu0) h.muts (show who - W.markers.length < W.mutators.length by omega)
   exact ⟨Mu.step_rng hm h.rng, h.marks, set_ok h.muts (Mu.step_ok hM hm h.rng.ld), h.det⟩
  ·exact ⟨De.step_rng h.det h.rng, h.marks, h.muts, De.step_ok hM h.det⟩
theorem Wo.step_ok {M : MapM} (hM : M.Ok) {W : Wo} (h : W.Ok M) (who : Nat) (dr : Int) : (W.step M who dr).1.Ok M := by
 have h1 := Wo.steps_ok hM h who dr
 unfold Wo.step
 split
 ·exact h1
 ·exact ⟨h1.rng, h1.marks, h1.muts, h1.det⟩
theorem mth_mke (q : Nat) (w : World) : (method (Tryz.prog.types.size + Made.depth) 81 (ptr q) "Event").run Tryz.prog w = .ok (285, ptr q) w := by kernel_rfl
theorem mth_mue (q : Nat) (w : World) : (method (Tryz.prog.types.size + Made.depth) 83 (ptr q) "Event").run Tryz.prog w = .ok (286, ptr q) w := by kernel_rfl
theorem mth_dee (q : Nat) (w : World) : (method (Tryz.prog.types.size + Made.depth) 75 (ptr q) "Event").run Tryz.prog w = .ok (283, ptr q) w := by kernel_rfl
theorem Wo.steps_mk {M : MapM} {W : Wo} {i : Nat} {dr : Int} (h : i < W.markers.length) : W.steps M i dr = ({ W with l := ((W.markers.getD i mk0).step M W.l dr).2, markers := W.markers.set i ((W.markers.getD i mk0).step M W.l dr).1 }, ((W.markers.getD i mk0).step M W.l dr).1.event) := if_pos h
theorem Wo.steps_mu {M : MapM} {W : Wo} {j : Nat} {dr : Int} (h : j < W.mutators.length) : W.steps M (W.markers.length + j) dr = ({ W with l := ((W.mutators.getD j mu0).step M W.l).2, mutators := W.mutators.set j ((W.mutators.getD j mu0).step M W.l).1 }, ((W.mutators.getD j mu0).step M W.l).1.event) := by
 have e : W.markers.length + j - W.markers.length = j := by omega
 unfold Wo.steps
 rw [if_neg (by omega), if_pos (by omega), e]
theorem Wo.steps_de {M : MapM} {W : Wo} {dr : Int} : W.steps M (W.markers.length + W.mutators.length) dr = ({ W with l := (W.det.step M W.l dr).2, det := (W.det.step M W.l dr).1 }, (W.det.step M W.l dr).1.event) := by
 unfold Wo.steps
 rw [if_neg (by omega), if_neg (by omega)]
theorem Wo.step_none {M : MapM} {W : Wo} {who : Nat} {dr : Int} (h : (W.steps M who dr).2.kind = 0) : W.step M who dr = ((W.steps M who dr).1, ev0) := if_pos h
theorem Wo.step_some {M : MapM} {W : Wo} {who : Nat} {dr : Int} (h : ¬ (W.steps M who dr).2.kind = 0) : W.step M who dr = ({ (W.steps M who dr).1 with log := (W.steps M who dr).1.log ++ [{ (W.steps M who dr).2 with who := who }] }, { (W.steps M who dr).2 with who := who }) := if_neg h
theorem sep_mid (A B F G : Asr) : sep A (sep (sep B F) G) = sep B (sep F (sep A G)) := by
 rw [sep_assoc, ← sep_assoc A, sep_comm A B, sep_assoc, ← sep_assoc A, sep_comm A F, sep_assoc]
theorem f38_0 : fld 38 0 0 = true := by kernel_rfl
theorem f38_1 : fld 38 1 1 = true := by kernel_rfl
theorem f80_1 : fld 80 1 1 = true := by kernel_rfl
theorem f80_2 : fld 80 2 2 = true := by kernel_rfl
theorem f80_3 : fld 80 3 3 = true := by kernel_rfl
theorem f80_4 : fld 80 4 4 = true := by kernel_rfl
theorem g63 : fnB 63 = true := by kernel_rfl
theorem g64 : fnB 64 = true := by kernel_rfl
theorem g65 : fnB 65 = true := by kernel_rfl
theorem o73 : one 73 = true := by kernel_rfl
theorem o77 : one 77 = true := by kernel_rfl
theorem o78 : one 78 = true := by kernel_rfl
theorem o81 : one 81 = true := by kernel_rfl
theorem s77 : slcB 77 81 1 = true := by kernel_rfl
theorem s78 : slcB 78 83 1 = true := by kernel_rfl
theorem u29_dPtr : undIs 29 (dPtr) = true := by kernel_rfl
theorem u75_dNoIface : undIs 75 (dNoIface) = true := by kernel_rfl
theorem u77_dSlice : undIs 77 (dSlice) = true := by kernel_rfl
theorem u78_dSlice : undIs 78 (dSlice) = true := by kernel_rfl
theorem u81_dNoIface : undIs 81 (dNoIface) = true := by kernel_rfl
theorem u83_dNoIface : undIs 83 (dNoIface) = true := by kernel_rfl
set_option maxHeartbeats 1000000 in
theorem ct_Actors {C : Cx} {l : Wds} {Hx : List Bk} {R : Asr} (hl : Loc R) {qs us : List Nat} {mb cm ub cu db p : Nat} {rm ru : List Value} {lv : Value} (hq : qs.length ≤ 4) (hu : us.length ≤ 4) : Cv C 9 [ptr p] l (blks (woB C p mb qs.length cm ub us.length cu db lv :: mkB mb qs rm :: muB ub us ru :: Hx) R) (.int .i64 ((qs.length : Int) + us.length + 1)) l (blks (woB C p mb qs.length cm ub us.length cu db lv :: mkB mb qs rm :: muB ub us ru :: Hx) R) := by
 refine Ct.of (vs := [ptr p]) Tryz.func9 rfl Tryz.ntmps9 (by simp) (loc_blks hl _) ?_
 intro w0 D0
 refine T.conv (fun w h => Sy.opens (H2 := _ :: _ :: _ :: Hx) h hl) <| T.seq <| tx [0] nf Z Z <| xas Z Z Z <| X.nil <| T.seq <| T.seq <| tx [0,1] nf Z Z <| xmv Z Z Z <| xnp Z Z Z Z u29_dPtr <| X.nil <| T.no Z <| T.skip <| T.seq ?_
 refine T.any (ord := [0, 1, 2, 3, 4, 5, 6, 7, 8, 9, 10, 11, 12]) (lo := (fun _ => false)) (ef := (fun _ => false)) (by kernel_rfl) (fun _ h => h.drew) <| xmv Z Z Z <| xnc Z Z Z <| xfa Z Z Z f80_2 <| xld Z Z Z o77 .z Z <| xlen Z Z Z u77_dSlice <| xmv Z Z Z ?_
 refine xnc Z Z Z <| xfa Z Z Z f80_3 <| xld Z Z Z o78 .z Z <| xlen Z Z Z u78_dSlice ?_
 refine xarc (c := ((qs.length : Int) + us.length)) Z Z Z Z Z (wrap64i (show -9223372036854775808 ≤ ((qs.length : Int) + us.length) ∧ ((qs.length : Int) + us.length) ≤ 9223372036854775807 by omega)) ?_
 refine xarc (c := ((qs.length : Int) + us.length + 1)) Z Z Z Z Z (wrap64i (show -9223372036854775808 ≤ ((qs.length : Int) + us.length + 1) ∧ ((qs.length : Int) + us.length + 1) ≤ 9223372036854775807 by omega)) <| xas Z Z Z <| X.nil ?_
 refine T.ret1 Z (fun W D h => ?_)
 exact ⟨D, ⟨rfl, rfl, h⟩, fun _ hk => hk⟩
set_option maxHeartbeats 1000000 in
theorem ct_stepsA {C : Cx} {l : Wds} {Hx : List Bk} {F : Asr} (hF : Loc F) {qs us : List Nat} {mb cm ub cu db p : Nat} {rm ru : List Value} {lv : Value} {dr : Int} {i : Nat} {m : Mk} (hi : i < qs.length) (hm : m.Ok C.M) (hM : C.M.Ok) (hq : qs.length ≤ 4) (hu : us.length ≤ 4) (hr : ∀ a, u64R (ld l a)) : Cv C 29 [ptr p, .agg #[.int .i64 (((i : Nat) : Int)), .int .i64 dr]] l (blks (woB C p mb qs.length cm ub us.length cu db lv :: mkB mb qs rm :: muB ub us ru :: Hx) (sep (MkR C (qs.getD i 0) m) F)) (.iface 81 (ptr (qs.getD i 0))) ((m.step C.M l dr).2) (blks (woB C p mb qs.length cm ub us.length cu db lv :: mkB mb qs rm :: muB ub us ru :: Hx) (sep (MkR C (qs.getD i 0) (m.step C.M l dr).1) F)) := by
 have hl : Loc (sep (MkR C (qs.getD i 0) m) F) := loc_sep loc_MkR hF
 refine Ct.of (vs := [ptr p, .agg #[.int .i64 (((i : Nat) : Int)), .int .i64 dr]]) Tryz.func29 rfl Tryz.ntmps29 (by simp) (loc_blks hl _) ?_
 intro w0 D0
 refine T.conv (fun w h => Sy.opens (H2 := _ :: _ :: _ :: Hx) h hl) <| T.seq <| tx [0,1] (ct [0]) Z Z <| xbx Z Z Z Z (fun _ => pend0) (fun b0 => ?_)
 refine xas Z Z Z <| X.nil <| T.seq <| T.any (ord := [0, 1, 2, 3, 4, 5, 6, 7, 8]) (lo := (fun _ => false)) (ef := (fun _ => false)) (by kernel_rfl) (fun _ h => h.drew) <| xfa Z Z Z f38_0 <| xld Z Z Z o3 .z Z <| xmv Z Z Z <| xnc Z Z Z <| xfa Z Z Z f80_2 ?_
 refine xld Z Z Z o77 (.s .z) Z <| xlen Z Z Z u77_dSlice ?_
 refine xarc (c := ((i : Nat) : Int) - (qs.length : Int)) Z Z Z Z Z (wrap64i (show -9223372036854775808 ≤ ((i : Nat) : Int) - (qs.length : Int) ∧ ((i : Nat) : Int) - (qs.length : Int) ≤ 9223372036854775807 by omega)) <| xas Z Z Z <| X.nil <| T.seq ?_
 refine T.block <| T.seq <| tx [0,1,2] nf Z Z <| xmv Z Z Z <| xcm (c := true) Z Z Z Z Z (decide_eq_true (by omega)) <| xas Z Z Z <| X.nil <| T.yes Z <| T.seq ?_
 refine T.any (ord := [0, 1, 2, 3, 4, 5, 6, 7, 8, 9, 10, 11, 12, 13, 14]) (lo := (fun _ => false)) (ef := (fun i => [14].contains i)) (by kernel_rfl) (fun _ h => h.drew) <| xmv Z Z Z <| xnc Z Z Z <| xfa Z Z Z f80_2 <| xld Z Z Z o77 (.s .z) Z ?_
 refine xfa Z Z Z f38_0 <| xld Z Z Z o3 .z Z <| xix Z Z Z Z s77 ⟨Int.natCast_nonneg _, Int.ofNat_lt.2 hi⟩ <| xld Z Z Z o81 (.s (.s .z)) (nth_ptrs hi) <| xmv Z Z Z <| xnc Z Z Z <| xfa Z Z Z f80_1 <| xld Z Z Z o73 (.s .z) Z <| xfa Z Z Z f38_1 ?_
 refine xld Z Z Z o3 .z Z <| xce Z Z Z Z g63 (Cv.sepF (ct_mkStep hM hm hr) hF) (loc_sep loc_MkR hF) pend0 <| X.nil <| T.seq ?_
 refine T.any (ord := [0, 1, 2, 3, 4, 5, 6, 7, 8, 9]) (lo := (fun _ => false)) (ef := (fun _ => false)) (by kernel_rfl) (fun _ h => h.drew) <| xmv Z Z Z <| xnc Z Z Z <| xfa Z Z Z f80_2 <| xld Z Z Z o77 (.s .z) Z <| xfa Z Z Z f38_0 <| xld Z Z Z o3 .z Z ?_
 refine xix Z Z Z Z s77 ⟨Int.natCast_nonneg _, Int.ofNat_lt.2 hi⟩ <| xld Z Z Z o81 (.s (.s .z)) (nth_ptrs hi) <| xif Z Z Z u81_dNoIface <| xas Z Z Z <| X.nil <| T.rets ?_
 refine TE.blk_ret ?_
 refine TE.ret1 rfl (fun W D h => ?_)
 obtain ⟨D1, h1, h2⟩ := blks_tail h
 exact ⟨D1, ⟨rfl, rfl, h1⟩, h2⟩
set_option maxHeartbeats 1000000 in
theorem ct_stepsB {C : Cx} {l : Wds} {Hx : List Bk} {F : Asr} (hF : Loc F) {qs us : List Nat} {mb cm ub cu db p : Nat} {rm ru : List Value} {lv : Value} {dr : Int} {j : Nat} {who : Int} (hw : who = ((qs.length + j : Nat) : Int)) {m : Mu} (hj : j < us.length) (hm : m.Ok C.M) (hM : C.M.Ok) (hq : qs.length ≤ 4) (hu : us.length ≤ 4) (hr : ∀ a, u64R (ld l a)) : Cv C 29 [ptr p, .agg #[.int .i64 (who), .int .i64 dr]] l (blks (woB C p mb qs.length cm ub us.length cu db lv :: mkB mb qs rm :: muB ub us ru :: Hx) (sep (MuR C (us.getD j 0) m) F)) (.iface 83 (ptr (us.getD j 0))) ((m.step C.M l).2) (blks (woB C p mb qs.length cm ub us.length cu db lv :: mkB mb qs rm :: muB ub us ru :: Hx) (sep (MuR C (us.getD j 0) (m.step C.M l).1) F)) := by
 have hl : Loc (sep (MuR C (us.getD j 0) m) F) := loc_sep loc_MuR hF
 refine Ct.of (vs := [ptr p, .agg #[.int .i64 (who), .int .i64 dr]]) Tryz.func29 rfl Tryz.ntmps29 (by simp) (loc_blks hl _) ?_
 intro w0 D0
 refine T.conv (fun w h => Sy.opens (H2 := _ :: _ :: _ :: Hx) h hl) <| T.seq <| tx [0,1] (ct [0]) Z Z <| xbx Z Z Z Z (fun _ => pend0) (fun b0 => ?_)
 refine xas Z Z Z <| X.nil <| T.seq <| T.any (ord := [0, 1, 2, 3, 4, 5, 6, 7, 8]) (lo := (fun _ => false)) (ef := (fun _ => false)) (by kernel_rfl) (fun _ h => h.drew) <| xfa Z Z Z f38_0 <| xld Z Z Z o3 .z Z <| xmv Z Z Z <| xnc Z Z Z <| xfa Z Z Z f80_2 ?_
 refine xld Z Z Z o77 (.s .z) Z <| xlen Z Z Z u77_dSlice <| xarc (c := ((j : Nat) : Int)) Z Z Z Z Z (by subst hw; simp only [ari]; rw [IntWalk.i64_in _ (by omega)]; omega) <| xas Z Z Z <| X.nil <| T.seq <| T.block <| T.seq <| tx [0,1,2] nf Z Z <| xmv Z Z Z ?_
 refine xcm (c := false) Z Z Z Z Z (decide_eq_false (show ¬ ((j : Nat) : Int) < 0 by omega)) <| xas Z Z Z <| X.nil <| T.no Z <| T.seq <| tx [0,1,2,3,4,5,6,7] nf Z Z <| xmv Z Z Z <| xmv Z Z Z <| xnc Z Z Z <| xfa Z Z Z f80_3 <| xld Z Z Z o78 (.s .z) Z ?_
 refine xlen Z Z Z u78_dSlice <| xcm (c := true) Z Z Z Z Z (decide_eq_true (show ((j : Nat) : Int) < ((us.length : Nat) : Int) by omega)) <| xas Z Z Z <| X.nil <| T.yes Z <| T.seq ?_
 refine T.any (ord := [0, 1, 2, 3, 4, 5, 6, 7, 8, 9, 10, 11]) (lo := (fun _ => false)) (ef := (fun i => [11].contains i)) (by kernel_rfl) (fun _ h => h.drew) <| xmv Z Z Z <| xnc Z Z Z <| xfa Z Z Z f80_3 <| xld Z Z Z o78 (.s .z) Z <| xmv Z Z Z ?_
 refine xix Z Z Z Z s78 ⟨Int.natCast_nonneg _, Int.ofNat_lt.2 hj⟩ <| xld Z Z Z o83 (.s (.s (.s .z))) (nth_ptrs hj) <| xmv Z Z Z <| xnc Z Z Z <| xfa Z Z Z f80_1 <| xld Z Z Z o73 (.s .z) Z ?_
 refine xce Z Z Z Z g64 (Cv.sepF (ct_muStep hM hm hr) hF) (loc_sep loc_MuR hF) pend0 <| X.nil <| T.seq <| tx [0,1,2,3,4,5,6,7,8] nf Z Z <| xmv Z Z Z <| xnc Z Z Z <| xfa Z Z Z f80_3 <| xld Z Z Z o78 (.s .z) Z <| xmv Z Z Z ?_
 refine xix Z Z Z Z s78 ⟨Int.natCast_nonneg _, Int.ofNat_lt.2 hj⟩ <| xld Z Z Z o83 (.s (.s (.s .z))) (nth_ptrs hj) <| xif Z Z Z u83_dNoIface <| xas Z Z Z <| X.nil <| T.rets ?_
 refine TE.blk_ret ?_
 refine TE.ret1 rfl (fun W D h => ?_)
 obtain ⟨D1, h1, h2⟩ := blks_tail h
 exact ⟨D1, ⟨rfl, rfl, h1⟩, h2⟩
set_option maxHeartbeats 1000000 in
theorem ct_stepsC {C : Cx} {l : Wds} {Hx : List Bk} {F : Asr} (hF : Loc F) {qs us : List Nat} {mb cm ub cu db p : Nat} {rm ru : List Value} {lv : Value} {dr : Int} {who : Int} (hw : who = ((qs.length + us.length : Nat) : Int)) {x : De} (hp : 0 ≤ C.M.parts ∧ C.M.parts ≤ 100000) (hm : x.Ok C.M) (hM : C.M.Ok) (hq : qs.length ≤ 4) (hu : us.length ≤ 4) (hr : ∀ a, u64R (ld l a)) : Cv C 29 [ptr p, .agg #[.int .i64 (who), .int .i64 dr]] l (blks (woB C p mb qs.length cm ub us.length cu db lv :: mkB mb qs rm :: muB ub us ru :: Hx) (sep (DeR C db x) F)) (.iface 75 (ptr db)) ((x.step C.M l dr).2) (blks (woB C p mb qs.length cm ub us.length cu db lv :: mkB mb qs rm :: muB ub us ru :: Hx) (sep (DeR C db (x.step C.M l dr).1) F)) := by
 have hl : Loc (sep (DeR C db x) F) := loc_sep loc_DeR hF
 refine Ct.of (vs := [ptr p, .agg #[.int .i64 (who), .int .i64 dr]]) Tryz.func29 rfl Tryz.ntmps29 (by simp) (loc_blks hl _) ?_
 intro w0 D0
 refine T.conv (fun w h => Sy.opens (H2 := _ :: _ :: _ :: Hx) h hl) <| T.seq <| tx [0,1] (ct [0]) Z Z <| xbx Z Z Z Z (fun _ => pend0) (fun b0 => ?_)
 refine xas Z Z Z <| X.nil <| T.seq <| T.any (ord := [0, 1, 2, 3, 4, 5, 6, 7, 8]) (lo := (fun _ => false)) (ef := (fun _ => false)) (by kernel_rfl) (fun _ h => h.drew) <| xfa Z Z Z f38_0 <| xld Z Z Z o3 .z Z <| xmv Z Z Z <| xnc Z Z Z <| xfa Z Z Z f80_2 ?_
 refine xld Z Z Z o77 (.s .z) Z <| xlen Z Z Z u77_dSlice <| xarc (c := ((us.length : Nat) : Int)) Z Z Z Z Z (by subst hw; simp only [ari]; rw [IntWalk.i64_in _ (by omega)]; omega) <| xas Z Z Z <| X.nil <| T.seq <| T.block <| T.seq <| tx [0,1,2] nf Z Z ?_
 refine xmv Z Z Z <| xcm (c := false) Z Z Z Z Z (decide_eq_false (show ¬ ((us.length : Nat) : Int) < 0 by omega)) <| xas Z Z Z <| X.nil <| T.no Z <| T.seq <| tx [0,1,2,3,4,5,6,7] nf Z Z <| xmv Z Z Z <| xmv Z Z Z <| xnc Z Z Z <| xfa Z Z Z f80_3 ?_
 refine xld Z Z Z o78 (.s .z) Z <| xlen Z Z Z u78_dSlice <| xcm (c := false) Z Z Z Z Z (decide_eq_false (show ¬ ((us.length : Nat) : Int) < ((us.length : Nat) : Int) by omega)) <| xas Z Z Z <| X.nil <| T.no Z <| T.skip <| T.blk_end <| T.seq ?_
 refine T.any (ord := [0, 1, 2, 3, 4, 5, 6, 7, 8, 9, 10]) (lo := (fun _ => false)) (ef := (fun i => [10].contains i)) (by kernel_rfl) (fun _ h => h.drew) <| xmv Z Z Z <| xnc Z Z Z <| xfa Z Z Z f80_4 <| xld Z Z Z o75 (.s .z) Z <| xmv Z Z Z <| xnc Z Z Z ?_
 refine xfa Z Z Z f80_1 <| xld Z Z Z o73 (.s .z) Z <| xfa Z Z Z f38_1 <| xld Z Z Z o3 .z Z <| xce Z Z Z Z g65 (Cv.sepF (ct_deStep hM hp hm) hF) (loc_sep loc_DeR hF) pend0 <| X.nil <| T.seq <| tx [0,1,2,3,4,5] nf Z Z <| xmv Z Z Z <| xnc Z Z Z ?_
 refine xfa Z Z Z f80_4 <| xld Z Z Z o75 (.s .z) Z <| xif Z Z Z u75_dNoIface <| xas Z Z Z <| X.nil <| T.ret1 Z (fun W D h => ?_)
 obtain ⟨D1, h1, h2⟩ := blks_tail h
 exact ⟨D1, ⟨rfl, rfl, h1⟩, h2⟩
theorem f33_0 : fld 33 0 0 = true := by kernel_rfl
theorem f33_1 : fld 33 1 1 = true := by kernel_rfl
theorem f80_5 : fld 80 5 5 = true := by kernel_rfl
theorem g285 : fnB 285 = true := by kernel_rfl
theorem g29 : fnB 29 = true := by kernel_rfl
theorem g9 : fnB 9 = true := by kernel_rfl
theorem m38 : many 38 2 = true := by kernel_rfl
theorem o53 : one 53 = true := by kernel_rfl
set_option maxHeartbeats 1000000 in
theorem wo_stepA0 {C : Cx} {p : Nat} {W : Wo} {dr : Int} {i : Nat} (hi : i < W.markers.length) (hM : C.M.Ok) (hp : 0 ≤ C.M.parts ∧ C.M.parts ≤ 100000) (hW : W.Ok C.M) (hl4 : W.markers.length ≤ 4 ∧ W.mutators.length ≤ 4) (hll : W.log.length < 900000) (hlog : W.log = []) :
  Cv C 8 [ptr p, .agg #[.int .i64 (((i : Nat) : Int)), .int .i64 dr]] W.l (WoR C p W) (.agg (W.step C.M i dr).2.cells.toArray) (W.step C.M i dr).1.l (WoR C p (W.step C.M i dr).1) := by
 refine Ct.of (vs := [ptr p, .agg #[.int .i64 (((i : Nat) : Int)), .int .i64 dr]]) Tryz.func8 rfl Tryz.ntmps8 (by simp) loc_WoR ?_
 intro w0 D0
 refine T.ex (fun _ => loc_and (loc_blks (loc_sep loc_MksR (loc_sep loc_MusR loc_DeR)) _)) ?_
 rintro ⟨qs, us, mb, rm, cm, ub, ru, cu, db, lv, LB⟩
 refine T.and (fun _ => loc_blks (loc_sep loc_MksR (loc_sep loc_MusR loc_DeR)) _) ?_
 intro ha
 have hq0 : qs.length = W.markers.length := ha.q
 have hu0 : us.length = W.mutators.length := ha.u
 have hqm : qs.length + rm.length = cm := ha.m
 have hun : us.length + ru.length = cu := ha.n
 have hlg := ha.log
 have hq4 : qs.length ≤ 4 := by omega
 have hu4 : us.length ≤ 4 := by omega
 obtain ⟨rfl, h00, rfl⟩ := ha.log.resolve_right (fun ⟨_, _, _, _, h, _⟩ => h hlog)
 obtain ⟨F0, hF0, f1, f2⟩ := mks_at (C := C) (qs := qs) (ms := W.markers) hq0 hi ((W.markers.getD i mk0).step C.M W.l dr).1
 have foc : sep (MksR C qs W.markers) (sep (MusR C us W.mutators) (DeR C db W.det)) = sep (MkR C (qs.getD i 0) (W.markers.getD i mk0)) (sep F0 (sep (MusR C us W.mutators) (DeR C db W.det))) := by rw [f1, sep_assoc]
 have unf : sep (MkR C (qs.getD i 0) ((W.markers.getD i mk0).step C.M W.l dr).1) (sep F0 (sep (MusR C us W.mutators) (DeR C db W.det))) = sep (MksR C qs (W.markers.set i ((W.markers.getD i mk0).step C.M W.l dr).1)) (sep (MusR C us W.mutators) (DeR C db W.det)) := by rw [f2, sep_assoc]
 have hF : Loc (sep F0 (sep (MusR C us W.mutators) (DeR C db W.det))) := loc_sep hF0 (loc_sep loc_MusR loc_DeR)
 have hm := getD_ok (d := mk0) hW.marks hi
 generalize sep F0 (sep (MusR C us W.mutators) (DeR C db W.det)) = F at *
 have hiq : i < qs.length := by omega
 refine T.conv (fun w h => Sy.opens (H2 := [_, _, _]) h (loc_sep loc_MksR (loc_sep loc_MusR loc_DeR))) <| T.reb (H' := [_, _, _]) (R' := sep (MkR C (qs.getD i 0) (W.markers.getD i mk0)) F) (loc_sep loc_MkR hF) (by rw [foc]; exact Wk.refl _) <| T.seq ?_
 refine tx [0,1] (ct [0,1]) Z Z <| xbx Z Z Z Z (fun _ => pend0) (fun b0 => ?_)
 refine xal Z Z z33 (fun _ => pend0) (fun b1 => ?_)
 refine X.nil <| T.seq <| T.seq <| T.any (ord := [0, 1, 2, 3, 4, 5, 6, 7, 8, 9]) (lo := (fun _ => false)) (ef := (fun _ => false)) (by kernel_rfl) (fun _ h => h.drew) <| xfa Z Z Z f38_0 <| xld Z Z Z o3 (.s .z) Z ?_
 refine xcm (c := false) Z Z Z Z Z (decide_eq_false (show ¬ ((i : Nat) : Int) < 0 by omega)) <| xmv Z Z Z <| xfa Z Z Z f38_0 <| xld Z Z Z o3 (.s .z) Z <| xmv Z Z Z ?_
 refine xcr (H1 := [_, _]) (H2 := _ :: _) Z Z Z Z g9 Z (ct_Actors (loc_sep loc_MkR hF) hq4 hu4) (loc_sep loc_MkR hF) <| xcm (c := false) Z Z Z Z Z (decide_eq_false (show ¬ ((i : Nat) : Int) ≥ ((qs.length : Int) + us.length + 1) by omega)) <| xpk Z Z Z Z ?_
 refine X.nil <| T.no Z <| T.skip <| T.seq <| tx [0,1,2,3,4,5] (ct [2,3,4,5]) Z Z <| xmv Z Z Z <| xlda Z Z Z m38 (.s .z) Z ?_
 refine xcb (H1 := [_, _]) (H2 := _ :: _) (H2' := _ :: _) Z Z Z Z g29 Z (ct_stepsA (i := i) hF hiq hm hM hq4 hu4 hW.rng.ld) (loc_sep loc_MkR hF) Z pend0 <| xiv Z Z Z Z g285 (fun w => mth_mke _ w) (Cv.sepF mk_Event hF) (loc_sep loc_MkR hF) pend0 ?_
 refine xal Z Z z33 (fun _ => pend0) (fun b2 => ?_)
 refine xsta Z Z Z Z m33 Z Z .z (Nat.le_of_ble_eq_true Z) .z pend0 <| X.nil <| T.seq <| T.seq <| tx [0,1,2] nf Z Z <| xfa Z Z Z f33_0 <| xld Z Z Z o3 .z Z <| xcm Z Z Z Z Z Z <| X.nil <| T.cond Z ?_ ?_
 ·intro hb0
  refine T.seq <| tx [0,1] (ct [1]) Z Z <| xbd Z Z Z l33 z33 Z <| xsta Z Z Z Z m33 Z Z (.s .z) (Nat.le_of_ble_eq_true Z) (.s .z) pend0 <| X.nil <| T.retc Z Z m33 (.s .z) Z (fun W_ D h => ?_)
  have hk : ((W.markers.getD i mk0).step C.M W.l dr).1.event.kind = 0 := eq_of_beq hb0
  rw [Wo.step_none (by rw [Wo.steps_mk hi]; exact hk), Wo.steps_mk hi]
  obtain ⟨D1, h1, h2⟩ := Wk.drop [_, _, _] _ D W_ h
  rw [unf] at h1
  exact ⟨D1, ⟨rfl, rfl, ⟨⟨qs, us, mb, rm, cm, ub, ru, cu, db, _, _⟩, ⟨by rw [List.length_set]; exact hq0, hu0, hqm, hun, hlg⟩, h1⟩⟩, h2⟩
 ·intro hb0
  refine T.skip <| T.seq <| tx [0,1,2,3] (ct [3]) Z Z <| xfa Z Z Z f38_0 <| xld Z Z Z o3 (.s (.s .z)) Z <| xfa Z Z Z f33_1 <| xst Z Z Z Z o3 Z .z Z .z pend0 <| X.nil <| T.seq ?_
  refine T.any (ord := [0, 1, 2, 3, 4, 5, 6, 7, 8, 9, 10]) (lo := (fun i => [0, 1, 2, 3, 4].contains i)) (ef := (fun i => [6, 7, 10].contains i)) (by kernel_rfl) (fun _ h => h.drew) <| xmv Z Z Z <| xmv Z Z Z <| xnc Z Z Z <| xfa Z Z Z f80_5 ?_
  refine xld Z Z Z o53 (.s (.s (.s .z))) Z <| xlda Z Z Z m33 .z Z <| xbs Z Z Z s53 z33 (by decide) Z Z Z (fun _ => (pxld Z Z o53 (.s (.s (.s (.s .z)))) Z (pxfa Z Z f80_5 (pxnc Z Z (pendmv Z Z (pendmv Z Z pend0)))))) (fun b3 => ?_)
  refine xap0 (cs := Ev.cells { ((W.markers.getD i mk0).step C.M W.l dr).1.event with who := i }) (rest := []) Z Z Z s53 .z (by omega) Z (fun _ _ => (pxld Z Z o53 (.s (.s (.s (.s (.s .z))))) Z (pxfa Z Z f80_5 (pxnc Z Z (pendmv Z Z (pendmv Z Z pend0)))))) (fun q1 rs cm1 hcm => ?_)
  refine xnc Z Z Z <| xfa Z Z Z f80_5 <| xst Z Z Z Z o53 Z (.s (.s (.s (.s (.s .z))))) Z (.s (.s (.s (.s (.s .z))))) (pendsk (by kernel_rfl) (pendsk (by kernel_rfl) (pendsk (by kernel_rfl) (pendsk (by kernel_rfl) (pendsk (by kernel_rfl) pend0))))) ?_
  refine X.nil <| T.seq <| tx [0,1] (ct [1]) Z Z <| xlda Z Z Z m33 (.s (.s .z)) Z <| xsta Z Z Z Z m33 Z Z (.s (.s (.s .z))) (Nat.le_of_ble_eq_true Z) (.s (.s (.s .z))) pend0 <| X.nil <| T.retc Z Z m33 (.s (.s (.s .z))) Z (fun W_ D h => ?_)
  have hk : ¬ ((W.markers.getD i mk0).step C.M W.l dr).1.event.kind = 0 := ne_of_beq_false hb0
  rw [Wo.step_some (by rw [Wo.steps_mk hi]; exact hk), Wo.steps_mk hi]
  obtain ⟨D1, h1, h2⟩ := Wk.pick [5, 6, 7, 0] (by decide) D W_ h
  rw [unf] at h1
  exact ⟨D1, ⟨rfl, rfl, ⟨⟨qs, us, mb, rm, cm, ub, ru, cu, db, slv q1 1 cm1, [⟨q1, 33, Ev.cells { ((W.markers.getD i mk0).step C.M W.l dr).1.event with who := i } ++ rs⟩]⟩, ⟨by rw [List.length_set]; exact hq0, hu0, hqm, hun, .inr ⟨q1, rs, cm1, by rw [h00]; rfl, by simp, by rw [h00]; exact hcm.1, by rw [h00]; exact hcm.2, by rw [h00]; rfl⟩⟩, h1⟩⟩, h2⟩
set_option maxHeartbeats 1000000 in
theorem wo_stepA1 {C : Cx} {p : Nat} {W : Wo} {dr : Int} {i : Nat} (hi : i < W.markers.length) (hM : C.M.Ok) (hp : 0 ≤ C.M.parts ∧ C.M.parts ≤ 100000) (hW : W.Ok C.M) (hl4 : W.markers.length ≤ 4 ∧ W.mutators.length ≤ 4) (hll : W.log.length < 900000) (hlog : W.log ≠ []) :
  Cv C 8 [ptr p, .agg #[.int .i64 (((i : Nat) : Int)), .int .i64 dr]] W.l (WoR C p W) (.agg (W.step C.M i dr).2.cells.toArray) (W.step C.M i dr).1.l (WoR C p (W.step C.M i dr).1) := by
 refine Ct.of (vs := [ptr p, .agg #[.int .i64 (((i : Nat) : Int)), .int .i64 dr]]) Tryz.func8 rfl Tryz.ntmps8 (by simp) loc_WoR ?_
 intro w0 D0
 refine T.ex (fun _ => loc_and (loc_blks (loc_sep loc_MksR (loc_sep loc_MusR loc_DeR)) _)) ?_
 rintro ⟨qs, us, mb, rm, cm, ub, ru, cu, db, lv, LB⟩
 refine T.and (fun _ => loc_blks (loc_sep loc_MksR (loc_sep loc_MusR loc_DeR)) _) ?_
 intro ha
 have hq0 : qs.length = W.markers.length := ha.q
 have hu0 : us.length = W.mutators.length := ha.u
 have hqm : qs.length + rm.length = cm := ha.m
 have hun : us.length + ru.length = cu := ha.n
 have hlg := ha.log
 have hq4 : qs.length ≤ 4 := by omega
 have hu4 : us.length ≤ 4 := by omega
 obtain ⟨lb, lrest, lc, rfl, hne, hlc, hlr, rfl⟩ := ha.log.resolve_left (fun h => hlog h.2.1)
 obtain ⟨F0, hF0, f1, f2⟩ := mks_at (C := C) (qs := qs) (ms := W.markers) hq0 hi ((W.markers.getD i mk0).step C.M W.l dr).1
 have foc : sep (MksR C qs W.markers) (sep (MusR C us W.mutators) (DeR C db W.det)) = sep (MkR C (qs.getD i 0) (W.markers.getD i mk0)) (sep F0 (sep (MusR C us W.mutators) (DeR C db W.det))) := by rw [f1, sep_assoc]
 have unf : sep (MkR C (qs.getD i 0) ((W.markers.getD i mk0).step C.M W.l dr).1) (sep F0 (sep (MusR C us W.mutators) (DeR C db W.det))) = sep (MksR C qs (W.markers.set i ((W.markers.getD i mk0).step C.M W.l dr).1)) (sep (MusR C us W.mutators) (DeR C db W.det)) := by rw [f2, sep_assoc]
 have hF : Loc (sep F0 (sep (MusR C us W.mutators) (DeR C db W.det))) := loc_sep hF0 (loc_sep loc_MusR loc_DeR)
 have hm := getD_ok (d := mk0) hW.marks hi
 generalize sep F0 (sep (MusR C us W.mutators) (DeR C db W.det)) = F at *
 have hiq : i < qs.length := by omega
 refine T.conv (fun w h => Sy.opens (H2 := [_, _, _, _]) h (loc_sep loc_MksR (loc_sep loc_MusR loc_DeR))) <| T.reb (H' := [_, _, _, _]) (R' := sep (MkR C (qs.getD i 0) (W.markers.getD i mk0)) F) (loc_sep loc_MkR hF) (by rw [foc]; exact Wk.refl _) <| T.seq ?_
 refine tx [0,1] (ct [0,1]) Z Z <| xbx Z Z Z Z (fun _ => pend0) (fun b0 => ?_)
 refine xal Z Z z33 (fun _ => pend0) (fun b1 => ?_)
 refine X.nil <| T.seq <| T.seq <| T.any (ord := [0, 1, 2, 3, 4, 5, 6, 7, 8, 9]) (lo := (fun _ => false)) (ef := (fun _ => false)) (by kernel_rfl) (fun _ h => h.drew) <| xfa Z Z Z f38_0 <| xld Z Z Z o3 (.s .z) Z ?_
 refine xcm (c := false) Z Z Z Z Z (decide_eq_false (show ¬ ((i : Nat) : Int) < 0 by omega)) <| xmv Z Z Z <| xfa Z Z Z f38_0 <| xld Z Z Z o3 (.s .z) Z <| xmv Z Z Z ?_
 refine xcr (H1 := [_, _]) (H2 := _ :: _) Z Z Z Z g9 Z (ct_Actors (loc_sep loc_MkR hF) hq4 hu4) (loc_sep loc_MkR hF) <| xcm (c := false) Z Z Z Z Z (decide_eq_false (show ¬ ((i : Nat) : Int) ≥ ((qs.length : Int) + us.length + 1) by omega)) <| xpk Z Z Z Z ?_
 refine X.nil <| T.no Z <| T.skip <| T.seq <| tx [0,1,2,3,4,5] (ct [2,3,4,5]) Z Z <| xmv Z Z Z <| xlda Z Z Z m38 (.s .z) Z ?_
 refine xcb (H1 := [_, _]) (H2 := _ :: _) (H2' := _ :: _) Z Z Z Z g29 Z (ct_stepsA (i := i) hF hiq hm hM hq4 hu4 hW.rng.ld) (loc_sep loc_MkR hF) Z pend0 <| xiv Z Z Z Z g285 (fun w => mth_mke _ w) (Cv.sepF mk_Event hF) (loc_sep loc_MkR hF) pend0 ?_
 refine xal Z Z z33 (fun _ => pend0) (fun b2 => ?_)
 refine xsta Z Z Z Z m33 Z Z .z (Nat.le_of_ble_eq_true Z) .z pend0 <| X.nil <| T.seq <| T.seq <| tx [0,1,2] nf Z Z <| xfa Z Z Z f33_0 <| xld Z Z Z o3 .z Z <| xcm Z Z Z Z Z Z <| X.nil <| T.cond Z ?_ ?_
 ·intro hb0
  refine T.seq <| tx [0,1] (ct [1]) Z Z <| xbd Z Z Z l33 z33 Z <| xsta Z Z Z Z m33 Z Z (.s .z) (Nat.le_of_ble_eq_true Z) (.s .z) pend0 <| X.nil <| T.retc Z Z m33 (.s .z) Z (fun W_ D h => ?_)
  have hk : ((W.markers.getD i mk0).step C.M W.l dr).1.event.kind = 0 := eq_of_beq hb0
  rw [Wo.step_none (by rw [Wo.steps_mk hi]; exact hk), Wo.steps_mk hi]
  obtain ⟨D1, h1, h2⟩ := Wk.drop [_, _, _] _ D W_ h
  rw [unf] at h1
  exact ⟨D1, ⟨rfl, rfl, ⟨⟨qs, us, mb, rm, cm, ub, ru, cu, db, _, _⟩, ⟨by rw [List.length_set]; exact hq0, hu0, hqm, hun, hlg⟩, h1⟩⟩, h2⟩
 ·intro hb0
  refine T.skip <| T.seq <| tx [0,1,2,3] (ct [3]) Z Z <| xfa Z Z Z f38_0 <| xld Z Z Z o3 (.s (.s .z)) Z <| xfa Z Z Z f33_1 <| xst Z Z Z Z o3 Z .z Z .z pend0 <| X.nil <| T.seq ?_
  refine T.any (ord := [0, 1, 2, 3, 4, 5, 6, 7, 8, 9, 10]) (lo := (fun i => [0, 1, 2, 3, 4].contains i)) (ef := (fun i => [6, 7, 10].contains i)) (by kernel_rfl) (fun _ h => h.drew) <| xmv Z Z Z <| xmv Z Z Z <| xnc Z Z Z <| xfa Z Z Z f80_5 ?_
  refine xld Z Z Z o53 (.s (.s (.s .z))) Z <| xlda Z Z Z m33 .z Z <| xbs Z Z Z s53 z33 (by decide) Z Z Z (fun _ => (pxld Z Z o53 (.s (.s (.s (.s .z)))) Z (pxfa Z Z f80_5 (pxnc Z Z (pendmv Z Z (pendmv Z Z pend0)))))) (fun b3 => ?_)
  refine xapg (Hr := [_, _, _, _, _, _, _]) (news := Ev.cells { ((W.markers.getD i mk0).step C.M W.l dr).1.event with who := i }) (cs := evs W.log) (rest := lrest) (rest2 := []) (cn := evs (W.log ++ [{ ((W.markers.getD i mk0).step C.M W.l dr).1.event with who := i }])) (kn := (W.log ++ [{ ((W.markers.getD i mk0).step C.M W.l dr).1.event with who := i }]).length) Z Z Z s53 Z (evs_length _) hlr .z Z (by simp [isCell, Ev.cells]) ⟨by omega, by omega, by omega, by omega, hlc⟩ (evs_app W.log { ((W.markers.getD i mk0).step C.M W.l dr).1.event with who := i }) (by simp) (fun _ _ => (pxld Z Z o53 (.s (.s (.s (.s (.s .z))))) Z (pxfa Z Z f80_5 (pxnc Z Z (pendmv Z Z (pendmv Z Z pend0)))))) (fun q1 rs cm1 hcm => ?_)
  refine xnc Z Z Z <| xfa Z Z Z f80_5 <| xst Z Z Z Z o53 Z (.s (.s (.s (.s (.s .z))))) Z (.s (.s (.s (.s (.s .z))))) (pendsk (by kernel_rfl) (pendsk (by kernel_rfl) (pendsk (by kernel_rfl) (pendsk (by kernel_rfl) (pendsk (by kernel_rfl) pend0))))) ?_
  refine X.nil <| T.seq <| tx [0,1] (ct [1]) Z Z <| xlda Z Z Z m33 (.s (.s .z)) Z <| xsta Z Z Z Z m33 Z Z (.s (.s (.s .z))) (Nat.le_of_ble_eq_true Z) (.s (.s (.s .z))) pend0 <| X.nil <| T.retc Z Z m33 (.s (.s (.s .z))) Z (fun W_ D h => ?_)
  have hk : ¬ ((W.markers.getD i mk0).step C.M W.l dr).1.event.kind = 0 := ne_of_beq_false hb0
  rw [Wo.step_some (by rw [Wo.steps_mk hi]; exact hk), Wo.steps_mk hi]
  obtain ⟨D1, h1, h2⟩ := Wk.pick [5, 6, 7, 0] (by decide) D W_ h
  rw [unf] at h1
  exact ⟨D1, ⟨rfl, rfl, ⟨⟨qs, us, mb, rm, cm, ub, ru, cu, db, _, _⟩, ⟨by rw [List.length_set]; exact hq0, hu0, hqm, hun, .inr ⟨q1, rs, cm1, rfl, by simp, hcm.1, hcm.2, rfl⟩⟩, h1⟩⟩, h2⟩
end Go.Proofs.YtmpcfamcbaineaaGreat.Mo
