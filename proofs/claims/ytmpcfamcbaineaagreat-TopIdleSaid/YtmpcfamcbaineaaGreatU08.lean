/- Part 8 of the proof: contracts of the functions that the law reaches, and the plain law. No condition. -/
import Derived.Test.YtmpcfamcbaineaaGreatU07
namespace Go.Proofs.YtmpcfamcbaineaaGreat.Mo
open Go.RowKit Go.Proofs.YtmpcfamcbaineaaGreat.Mo
set_option linter.unusedVariables false
set_option linter.unusedSimpArgs false
theorem g286 : fnB 286 = true := by kernel_rfl
set_option maxHeartbeats 1000000 in
theorem wo_stepB0 {C : Cx} {p : Nat} {W : Wo} {dr : Int} {j : Nat} (hj : j < W.mutators.length) (hM : C.M.Ok) (hp : 0 ≤ C.M.parts ∧ C.M.parts ≤ 100000) (hW : W.Ok C.M) (hl4 : W.markers.length ≤ 4 ∧ W.mutators.length ≤ 4) (hll : W.log.length < 900000) (hlog : W.log = []) :
  Cv C 8 [ptr p, .agg #[.int .i64 (((W.markers.length + j : Nat) : Int)), .int .i64 dr]] W.l (WoR C p W) (.agg (W.step C.M (W.markers.length + j) dr).2.cells.toArray) (W.step C.M (W.markers.length + j) dr).1.l (WoR C p (W.step C.M (W.markers.length + j) dr).1) := by
 refine Ct.of (vs := [ptr p, .agg #[.int .i64 (((W.markers.length + j : Nat) : Int)), .int .i64 dr]]) Tryz.func8 rfl Tryz.ntmps8 (by simp) loc_WoR ?_
 intro w0 D0
 refine T.ex (fun _ => loc_and (loc_blks (loc_sep loc_MksR (loc_sep loc_MusR loc_DeR)) _)) ?_
 rintro ⟨qs, us, mb, rm, cm, ub, ru, cu, db, lv, LB⟩
 refine T.and (fun _ => loc_blks (loc_sep loc_MksR (loc_sep loc_MusR loc_DeR)) _) ?_
 intro ha
 have hq0 : qs.length = W.markers.length := ha.q
 have hu0 : us.length = W.mutators.length := ha.u
 have hqm : qs.length + rm.length = cm := ha.m
 have hun : us.length + ru.length = cu := ha.n
 have hlg := ha.log
 have hq4 : qs.length ≤ 4 := by omega
 have hu4 : us.length ≤ 4 := by omega
 obtain ⟨rfl, h00, rfl⟩ := ha.log.resolve_right (fun ⟨_, _, _, _, h, _⟩ => h hlog)
 obtain ⟨F0, hF0, f1, f2⟩ := mus_at (C := C) (qs := us) (ms := W.mutators) hu0 hj ((W.mutators.getD j mu0).step C.M W.l).1
 have foc : sep (MksR C qs W.markers) (sep (MusR C us W.mutators) (DeR C db W.det)) = sep (MuR C (us.getD j 0) (W.mutators.getD j mu0)) (sep F0 (sep (MksR C qs W.markers) (DeR C db W.det))) := by rw [f1]; exact sep_mid _ _ _ _
 have unf : sep (MuR C (us.getD j 0) ((W.mutators.getD j mu0).step C.M W.l).1) (sep F0 (sep (MksR C qs W.markers) (DeR C db W.det))) = sep (MksR C qs W.markers) (sep (MusR C us (W.mutators.set j ((W.mutators.getD j mu0).step C.M W.l).1)) (DeR C db W.det)) := by rw [f2]; exact (sep_mid _ _ _ _).symm
 have hF : Loc (sep F0 (sep (MksR C qs W.markers) (DeR C db W.det))) := loc_sep hF0 (loc_sep loc_MksR loc_DeR)
 have hm := getD_ok (d := mu0) hW.muts hj
 generalize sep F0 (sep (MksR C qs W.markers) (DeR C db W.det)) = F at *
 have hjq : j < us.length := by omega
 refine T.conv (fun w h => Sy.opens (H2 := [_, _, _]) h (loc_sep loc_MksR (loc_sep loc_MusR loc_DeR))) <| T.reb (H' := [_, _, _]) (R' := sep (MuR C (us.getD j 0) (W.mutators.getD j mu0)) F) (loc_sep loc_MuR hF) (by rw [foc]; exact Wk.refl _) <| T.seq ?_
 refine tx [0,1] (ct [0,1]) Z Z <| xbx Z Z Z Z (fun _ => pend0) (fun b0 => ?_)
 refine xal Z Z z33 (fun _ => pend0) (fun b1 => ?_)
 refine X.nil <| T.seq <| T.seq <| T.any (ord := [0, 1, 2, 3, 4, 5, 6, 7, 8, 9]) (lo := (fun _ => false)) (ef := (fun _ => false)) (by kernel_rfl) (fun _ h => h.drew) <| xfa Z Z Z f38_0 <| xld Z Z Z o3 (.s .z) Z ?_
 refine xcm (c := false) Z Z Z Z Z (decide_eq_false (show ¬ ((W.markers.length + j : Nat) : Int) < 0 by omega)) <| xmv Z Z Z <| xfa Z Z Z f38_0 <| xld Z Z Z o3 (.s .z) Z <| xmv Z Z Z ?_
 refine xcr (H1 := [_, _]) (H2 := _ :: _) Z Z Z Z g9 Z (ct_Actors (loc_sep loc_MuR hF) hq4 hu4) (loc_sep loc_MuR hF) ?_
 refine xcm (c := false) Z Z Z Z Z (decide_eq_false (show ¬ ((W.markers.length + j : Nat) : Int) ≥ ((qs.length : Int) + us.length + 1) by omega)) <| xpk Z Z Z Z <| X.nil <| T.no Z <| T.skip <| T.seq <| tx [0,1,2,3,4,5] (ct [2,3,4,5]) Z Z <| xmv Z Z Z ?_
 refine xlda Z Z Z m38 (.s .z) Z <| xcb (H1 := [_, _]) (H2 := _ :: _) (H2' := _ :: _) Z Z Z Z g29 Z (ct_stepsB (j := j) hF (by rw [hq0]) hjq hm hM hq4 hu4 hW.rng.ld) (loc_sep loc_MuR hF) Z pend0 ?_
 refine xiv Z Z Z Z g286 (fun w => mth_mue _ w) (Cv.sepF mu_Event hF) (loc_sep loc_MuR hF) pend0 <| xal Z Z z33 (fun _ => pend0) (fun b2 => ?_)
 refine xsta Z Z Z Z m33 Z Z .z (Nat.le_of_ble_eq_true Z) .z pend0 <| X.nil <| T.seq <| T.seq <| tx [0,1,2] nf Z Z <| xfa Z Z Z f33_0 <| xld Z Z Z o3 .z Z <| xcm Z Z Z Z Z Z <| X.nil <| T.cond Z ?_ ?_
 ·intro hb0
  refine T.seq <| tx [0,1] (ct [1]) Z Z <| xbd Z Z Z l33 z33 Z <| xsta Z Z Z Z m33 Z Z (.s .z) (Nat.le_of_ble_eq_true Z) (.s .z) pend0 <| X.nil <| T.retc Z Z m33 (.s .z) Z (fun W_ D h => ?_)
  have hk : ((W.mutators.getD j mu0).step C.M W.l).1.event.kind = 0 := eq_of_beq hb0
  rw [Wo.step_none (by rw [Wo.steps_mu hj]; exact hk), Wo.steps_mu hj]
  obtain ⟨D1, h1, h2⟩ := Wk.drop [_, _, _] _ D W_ h
  rw [unf] at h1
  exact ⟨D1, ⟨rfl, rfl, ⟨⟨qs, us, mb, rm, cm, ub, ru, cu, db, _, _⟩, ⟨hq0, by rw [List.length_set]; exact hu0, hqm, hun, hlg⟩, h1⟩⟩, h2⟩
 ·intro hb0
  refine T.skip <| T.seq <| tx [0,1,2,3] (ct [3]) Z Z <| xfa Z Z Z f38_0 <| xld Z Z Z o3 (.s (.s .z)) Z <| xfa Z Z Z f33_1 <| xst Z Z Z Z o3 Z .z Z .z pend0 <| X.nil <| T.seq ?_
  refine T.any (ord := [0, 1, 2, 3, 4, 5, 6, 7, 8, 9, 10]) (lo := (fun i => [0, 1, 2, 3, 4].contains i)) (ef := (fun i => [6, 7, 10].contains i)) (by kernel_rfl) (fun _ h => h.drew) <| xmv Z Z Z <| xmv Z Z Z <| xnc Z Z Z <| xfa Z Z Z f80_5 ?_
  refine xld Z Z Z o53 (.s (.s (.s .z))) Z <| xlda Z Z Z m33 .z Z <| xbs Z Z Z s53 z33 (by decide) Z Z Z (fun _ => (pxld Z Z o53 (.s (.s (.s (.s .z)))) Z (pxfa Z Z f80_5 (pxnc Z Z (pendmv Z Z (pendmv Z Z pend0)))))) (fun b3 => ?_)
  refine xap0 (cs := Ev.cells { ((W.mutators.getD j mu0).step C.M W.l).1.event with who := (W.markers.length + j) }) (rest := []) Z Z Z s53 .z (by omega) Z (fun _ _ => (pxld Z Z o53 (.s (.s (.s (.s (.s .z))))) Z (pxfa Z Z f80_5 (pxnc Z Z (pendmv Z Z (pendmv Z Z pend0)))))) (fun q1 rs cm1 hcm => ?_)
  refine xnc Z Z Z <| xfa Z Z Z f80_5 <| xst Z Z Z Z o53 Z (.s (.s (.s (.s (.s .z))))) Z (.s (.s (.s (.s (.s .z))))) (pendsk (by kernel_rfl) (pendsk (by kernel_rfl) (pendsk (by kernel_rfl) (pendsk (by kernel_rfl) (pendsk (by kernel_rfl) pend0))))) ?_
  refine X.nil <| T.seq <| tx [0,1] (ct [1]) Z Z <| xlda Z Z Z m33 (.s (.s .z)) Z <| xsta Z Z Z Z m33 Z Z (.s (.s (.s .z))) (Nat.le_of_ble_eq_true Z) (.s (.s (.s .z))) pend0 <| X.nil <| T.retc Z Z m33 (.s (.s (.s .z))) Z (fun W_ D h => ?_)
  have hk : ¬ ((W.mutators.getD j mu0).step C.M W.l).1.event.kind = 0 := ne_of_beq_false hb0
  rw [Wo.step_some (by rw [Wo.steps_mu hj]; exact hk), Wo.steps_mu hj]
  obtain ⟨D1, h1, h2⟩ := Wk.pick [5, 6, 7, 0] (by decide) D W_ h
  rw [unf] at h1
  exact ⟨D1, ⟨rfl, rfl, ⟨⟨qs, us, mb, rm, cm, ub, ru, cu, db, slv q1 1 cm1, [⟨q1, 33, Ev.cells { ((W.mutators.getD j mu0).step C.M W.l).1.event with who := (W.markers.length + j) } ++ rs⟩]⟩, ⟨hq0, by rw [List.length_set]; exact hu0, hqm, hun, .inr ⟨q1, rs, cm1, by rw [h00]; rfl, by simp, by rw [h00]; exact hcm.1, by rw [h00]; exact hcm.2, by rw [h00]; rfl⟩⟩, h1⟩⟩, h2⟩
set_option maxHeartbeats 1000000 in
theorem wo_stepB1 {C : Cx} {p : Nat} {W : Wo} {dr : Int} {j : Nat} (hj : j < W.mutators.length) (hM : C.M.Ok) (hp : 0 ≤ C.M.parts ∧ C.M.parts ≤ 100000) (hW : W.Ok C.M) (hl4 : W.markers.length ≤ 4 ∧ W.mutators.length ≤ 4) (hll : W.log.length < 900000) (hlog : W.log ≠ []) :
  Cv C 8 [ptr p, .agg #[.int .i64 (((W.markers.length + j : Nat) : Int)), .int .i64 dr]] W.l (WoR C p W) (.agg (W.step C.M (W.markers.length + j) dr).2.cells.toArray) (W.step C.M (W.markers.length + j) dr).1.l (WoR C p (W.step C.M (W.markers.length + j) dr).1) := by
 refine Ct.of (vs := [ptr p, .agg #[.int .i64 (((W.markers.length + j : Nat) : Int)), .int .i64 dr]]) Tryz.func8 rfl Tryz.ntmps8 (by simp) loc_WoR ?_
 intro w0 D0
 refine T.ex (fun _ => loc_and (loc_blks (loc_sep loc_MksR (loc_sep loc_MusR loc_DeR)) _)) ?_
 rintro ⟨qs, us, mb, rm, cm, ub, ru, cu, db, lv, LB⟩
 refine T.and (fun _ => loc_blks (loc_sep loc_MksR (loc_sep loc_MusR loc_DeR)) _) ?_
 intro ha
 have hq0 : qs.length = W.markers.length := ha.q
 have hu0 : us.length = W.mutators.length := ha.u
 have hqm : qs.length + rm.length = cm := ha.m
 have hun : us.length + ru.length = cu := ha.n
 have hlg := ha.log
 have hq4 : qs.length ≤ 4 := by omega
 have hu4 : us.length ≤ 4 := by omega
 obtain ⟨lb, lrest, lc, rfl, hne, hlc, hlr, rfl⟩ := ha.log.resolve_left (fun h => hlog h.2.1)
 obtain ⟨F0, hF0, f1, f2⟩ := mus_at (C := C) (qs := us) (ms := W.mutators) hu0 hj ((W.mutators.getD j mu0).step C.M W.l).1
 have foc : sep (MksR C qs W.markers) (sep (MusR C us W.mutators) (DeR C db W.det)) = sep (MuR C (us.getD j 0) (W.mutators.getD j mu0)) (sep F0 (sep (MksR C qs W.markers) (DeR C db W.det))) := by rw [f1]; exact sep_mid _ _ _ _
 have unf : sep (MuR C (us.getD j 0) ((W.mutators.getD j mu0).step C.M W.l).1) (sep F0 (sep (MksR C qs W.markers) (DeR C db W.det))) = sep (MksR C qs W.markers) (sep (MusR C us (W.mutators.set j ((W.mutators.getD j mu0).step C.M W.l).1)) (DeR C db W.det)) := by rw [f2]; exact (sep_mid _ _ _ _).symm
 have hF : Loc (sep F0 (sep (MksR C qs W.markers) (DeR C db W.det))) := loc_sep hF0 (loc_sep loc_MksR loc_DeR)
 have hm := getD_ok (d := mu0) hW.muts hj
 generalize sep F0 (sep (MksR C qs W.markers) (DeR C db W.det)) = F at *
 have hjq : j < us.length := by omega
 refine T.conv (fun w h => Sy.opens (H2 := [_, _, _, _]) h (loc_sep loc_MksR (loc_sep loc_MusR loc_DeR))) <| T.reb (H' := [_, _, _, _]) (R' := sep (MuR C (us.getD j 0) (W.mutators.getD j mu0)) F) (loc_sep loc_MuR hF) (by rw [foc]; exact Wk.refl _) <| T.seq ?_
 refine tx [0,1] (ct [0,1]) Z Z <| xbx Z Z Z Z (fun _ => pend0) (fun b0 => ?_)
 refine xal Z Z z33 (fun _ => pend0) (fun b1 => ?_)
 refine X.nil <| T.seq <| T.seq <| T.any (ord := [0, 1, 2, 3, 4, 5, 6, 7, 8, 9]) (lo := (fun _ => false)) (ef := (fun _ => false)) (by kernel_rfl) (fun _ h => h.drew) <| xfa Z Z Z f38_0 <| xld Z Z Z o3 (.s .z) Z ?_
 refine xcm (c := false) Z Z Z Z Z (decide_eq_false (show ¬ ((W.markers.length + j : Nat) : Int) < 0 by omega)) <| xmv Z Z Z <| xfa Z Z Z f38_0 <| xld Z Z Z o3 (.s .z) Z <| xmv Z Z Z ?_
 refine xcr (H1 := [_, _]) (H2 := _ :: _) Z Z Z Z g9 Z (ct_Actors (loc_sep loc_MuR hF) hq4 hu4) (loc_sep loc_MuR hF) ?_
 refine xcm (c := false) Z Z Z Z Z (decide_eq_false (show ¬ ((W.markers.length + j : Nat) : Int) ≥ ((qs.length : Int) + us.length + 1) by omega)) <| xpk Z Z Z Z <| X.nil <| T.no Z <| T.skip <| T.seq <| tx [0,1,2,3,4,5] (ct [2,3,4,5]) Z Z <| xmv Z Z Z ?_
 refine xlda Z Z Z m38 (.s .z) Z <| xcb (H1 := [_, _]) (H2 := _ :: _) (H2' := _ :: _) Z Z Z Z g29 Z (ct_stepsB (j := j) hF (by rw [hq0]) hjq hm hM hq4 hu4 hW.rng.ld) (loc_sep loc_MuR hF) Z pend0 ?_
 refine xiv Z Z Z Z g286 (fun w => mth_mue _ w) (Cv.sepF mu_Event hF) (loc_sep loc_MuR hF) pend0 <| xal Z Z z33 (fun _ => pend0) (fun b2 => ?_)
 refine xsta Z Z Z Z m33 Z Z .z (Nat.le_of_ble_eq_true Z) .z pend0 <| X.nil <| T.seq <| T.seq <| tx [0,1,2] nf Z Z <| xfa Z Z Z f33_0 <| xld Z Z Z o3 .z Z <| xcm Z Z Z Z Z Z <| X.nil <| T.cond Z ?_ ?_
 ·intro hb0
  refine T.seq <| tx [0,1] (ct [1]) Z Z <| xbd Z Z Z l33 z33 Z <| xsta Z Z Z Z m33 Z Z (.s .z) (Nat.le_of_ble_eq_true Z) (.s .z) pend0 <| X.nil <| T.retc Z Z m33 (.s .z) Z (fun W_ D h => ?_)
  have hk : ((W.mutators.getD j mu0).step C.M W.l).1.event.kind = 0 := eq_of_beq hb0
  rw [Wo.step_none (by rw [Wo.steps_mu hj]; exact hk), Wo.steps_mu hj]
  obtain ⟨D1, h1, h2⟩ := Wk.drop [_, _, _] _ D W_ h
  rw [unf] at h1
  exact ⟨D1, ⟨rfl, rfl, ⟨⟨qs, us, mb, rm, cm, ub, ru, cu, db, _, _⟩, ⟨hq0, by rw [List.length_set]; exact hu0, hqm, hun, hlg⟩, h1⟩⟩, h2⟩
 ·intro hb0
  refine T.skip <| T.seq <| tx [0,1,2,3] (ct [3]) Z Z <| xfa Z Z Z f38_0 <| xld Z Z Z o3 (.s (.s .z)) Z <| xfa Z Z Z f33_1 <| xst Z Z Z Z o3 Z .z Z .z pend0 <| X.nil <| T.seq ?_
  refine T.any (ord := [0, 1, 2, 3, 4, 5, 6, 7, 8, 9, 10]) (lo := (fun i => [0, 1, 2, 3, 4].contains i)) (ef := (fun i => [6, 7, 10].contains i)) (by kernel_rfl) (fun _ h => h.drew) <| xmv Z Z Z <| xmv Z Z Z <| xnc Z Z Z <| xfa Z Z Z f80_5 ?_
  refine xld Z Z Z o53 (.s (.s (.s .z))) Z <| xlda Z Z Z m33 .z Z <| xbs Z Z Z s53 z33 (by decide) Z Z Z (fun _ => (pxld Z Z o53 (.s (.s (.s (.s .z)))) Z (pxfa Z Z f80_5 (pxnc Z Z (pendmv Z Z (pendmv Z Z pend0)))))) (fun b3 => ?_)
  refine xapg (Hr := [_, _, _, _, _, _, _]) (news := Ev.cells { ((W.mutators.getD j mu0).step C.M W.l).1.event with who := (W.markers.length + j) }) (cs := evs W.log) (rest := lrest) (rest2 := []) (cn := evs (W.log ++ [{ ((W.mutators.getD j mu0).step C.M W.l).1.event with who := (W.markers.length + j) }])) (kn := (W.log ++ [{ ((W.mutators.getD j mu0).step C.M W.l).1.event with who := (W.markers.length + j) }]).length) Z Z Z s53 Z (evs_length _) hlr .z Z (by simp [isCell, Ev.cells]) ⟨by omega, by omega, by omega, by omega, hlc⟩ (evs_app W.log { ((W.mutators.getD j mu0).step C.M W.l).1.event with who := (W.markers.length + j) }) (by simp) (fun _ _ => (pxld Z Z o53 (.s (.s (.s (.s (.s .z))))) Z (pxfa Z Z f80_5 (pxnc Z Z (pendmv Z Z (pendmv Z Z pend0)))))) (fun q1 rs cm1 hcm => ?_)
  refine xnc Z Z Z <| xfa Z Z Z f80_5 <| xst Z Z Z Z o53 Z (.s (.s (.s (.s (.s .z))))) Z (.s (.s (.s (.s (.s .z))))) (pendsk (by kernel_rfl) (pendsk (by kernel_rfl) (pendsk (by kernel_rfl) (pendsk (by kernel_rfl) (pendsk (by kernel_rfl) pend0))))) ?_
  refine X.nil <| T.seq <| tx [0,1] (ct [1]) Z Z <| xlda Z Z Z m33 (.s (.s .z)) Z <| xsta Z Z Z Z m33 Z Z (.s (.s (.s .z))) (Nat.le_of_ble_eq_true Z) (.s (.s (.s .z))) pend0 <| X.nil <| T.retc Z Z m33 (.s (.s (.s .z))) Z (fun W_ D h => ?_)
  have hk : ¬ ((W.mutators.getD j mu0).step C.M W.l).1.event.kind = 0 := ne_of_beq_false hb0
  rw [Wo.step_some (by rw [Wo.steps_mu hj]; exact hk), Wo.steps_mu hj]
  obtain ⟨D1, h1, h2⟩ := Wk.pick [5, 6, 7, 0] (by decide) D W_ h
  rw [unf] at h1
  exact ⟨D1, ⟨rfl, rfl, ⟨⟨qs, us, mb, rm, cm, ub, ru, cu, db, _, _⟩, ⟨hq0, by rw [List.length_set]; exact hu0, hqm, hun, .inr ⟨q1, rs, cm1, rfl, by simp, hcm.1, hcm.2, rfl⟩⟩, h1⟩⟩, h2⟩
theorem g283 : fnB 283 = true := by kernel_rfl
set_option maxHeartbeats 1000000 in
theorem wo_stepC0 {C : Cx} {p : Nat} {W : Wo} {dr : Int}  (hM : C.M.Ok) (hp : 0 ≤ C.M.parts ∧ C.M.parts ≤ 100000) (hW : W.Ok C.M) (hl4 : W.markers.length ≤ 4 ∧ W.mutators.length ≤ 4) (hll : W.log.length < 900000) (hlog : W.log = []) :
  Cv C 8 [ptr p, .agg #[.int .i64 (((W.markers.length + W.mutators.length : Nat) : Int)), .int .i64 dr]] W.l (WoR C p W) (.agg (W.step C.M (W.markers.length + W.mutators.length) dr).2.cells.toArray) (W.step C.M (W.markers.length + W.mutators.length) dr).1.l (WoR C p (W.step C.M (W.markers.length + W.mutators.length) dr).1) := by
 refine Ct.of (vs := [ptr p, .agg #[.int .i64 (((W.markers.length + W.mutators.length : Nat) : Int)), .int .i64 dr]]) Tryz.func8 rfl Tryz.ntmps8 (by simp) loc_WoR ?_
 intro w0 D0
 refine T.ex (fun _ => loc_and (loc_blks (loc_sep loc_MksR (loc_sep loc_MusR loc_DeR)) _)) ?_
 rintro ⟨qs, us, mb, rm, cm, ub, ru, cu, db, lv, LB⟩
 refine T.and (fun _ => loc_blks (loc_sep loc_MksR (loc_sep loc_MusR loc_DeR)) _) ?_
 intro ha
 have hq0 : qs.length = W.markers.length := ha.q
 have hu0 : us.length = W.mutators.length := ha.u
 have hqm : qs.length + rm.length = cm := ha.m
 have hun : us.length + ru.length = cu := ha.n
 have hlg := ha.log
 have hq4 : qs.length ≤ 4 := by omega
 have hu4 : us.length ≤ 4 := by omega
 obtain ⟨rfl, h00, rfl⟩ := ha.log.resolve_right (fun ⟨_, _, _, _, h, _⟩ => h hlog)
 have foc : sep (MksR C qs W.markers) (sep (MusR C us W.mutators) (DeR C db W.det)) = sep (DeR C db W.det) (sep (MksR C qs W.markers) (MusR C us W.mutators)) := by rw [← sep_assoc, sep_comm]
 have unf : sep (DeR C db (W.det.step C.M W.l dr).1) (sep (MksR C qs W.markers) (MusR C us W.mutators)) = sep (MksR C qs W.markers) (sep (MusR C us W.mutators) (DeR C db (W.det.step C.M W.l dr).1)) := by rw [sep_comm, sep_assoc]
 have hF : Loc (sep (MksR C qs W.markers) (MusR C us W.mutators)) := loc_sep loc_MksR loc_MusR
 have hm := hW.det
 generalize sep (MksR C qs W.markers) (MusR C us W.mutators) = F at *
 refine T.conv (fun w h => Sy.opens (H2 := [_, _, _]) h (loc_sep loc_MksR (loc_sep loc_MusR loc_DeR))) <| T.reb (H' := [_, _, _]) (R' := sep (DeR C db W.det) F) (loc_sep loc_DeR hF) (by rw [foc]; exact Wk.refl _) <| T.seq <| tx [0,1] (ct [0,1]) Z Z ?_
 refine xbx Z Z Z Z (fun _ => pend0) (fun b0 => ?_)
 refine xal Z Z z33 (fun _ => pend0) (fun b1 => ?_)
 refine X.nil <| T.seq <| T.seq <| T.any (ord := [0, 1, 2, 3, 4, 5, 6, 7, 8, 9]) (lo := (fun _ => false)) (ef := (fun _ => false)) (by kernel_rfl) (fun _ h => h.drew) <| xfa Z Z Z f38_0 <| xld Z Z Z o3 (.s .z) Z ?_
 refine xcm (c := false) Z Z Z Z Z (decide_eq_false (show ¬ ((W.markers.length + W.mutators.length : Nat) : Int) < 0 by omega)) <| xmv Z Z Z <| xfa Z Z Z f38_0 <| xld Z Z Z o3 (.s .z) Z <| xmv Z Z Z ?_
 refine xcr (H1 := [_, _]) (H2 := _ :: _) Z Z Z Z g9 Z (ct_Actors (loc_sep loc_DeR hF) hq4 hu4) (loc_sep loc_DeR hF) ?_
 refine xcm (c := false) Z Z Z Z Z (decide_eq_false (show ¬ ((W.markers.length + W.mutators.length : Nat) : Int) ≥ ((qs.length : Int) + us.length + 1) by omega)) <| xpk Z Z Z Z <| X.nil <| T.no Z <| T.skip <| T.seq <| tx [0,1,2,3,4,5] (ct [2,3,4,5]) Z Z ?_
 refine xmv Z Z Z <| xlda Z Z Z m38 (.s .z) Z <| xcb (H1 := [_, _]) (H2 := _ :: _) (H2' := _ :: _) Z Z Z Z g29 Z (ct_stepsC hF (by rw [hq0, hu0]) hp hm hM hq4 hu4 hW.rng.ld) (loc_sep loc_DeR hF) Z pend0 ?_
 refine xiv Z Z Z Z g283 (fun w => mth_dee _ w) (Cv.sepF de_Event hF) (loc_sep loc_DeR hF) pend0 <| xal Z Z z33 (fun _ => pend0) (fun b2 => ?_)
 refine xsta Z Z Z Z m33 Z Z .z (Nat.le_of_ble_eq_true Z) .z pend0 <| X.nil <| T.seq <| T.seq <| tx [0,1,2] nf Z Z <| xfa Z Z Z f33_0 <| xld Z Z Z o3 .z Z <| xcm Z Z Z Z Z Z <| X.nil <| T.cond Z ?_ ?_
 ·intro hb0
  refine T.seq <| tx [0,1] (ct [1]) Z Z <| xbd Z Z Z l33 z33 Z <| xsta Z Z Z Z m33 Z Z (.s .z) (Nat.le_of_ble_eq_true Z) (.s .z) pend0 <| X.nil <| T.retc Z Z m33 (.s .z) Z (fun W_ D h => ?_)
  have hk : (W.det.step C.M W.l dr).1.event.kind = 0 := eq_of_beq hb0
  rw [Wo.step_none (by rw [Wo.steps_de]; exact hk), Wo.steps_de]
  obtain ⟨D1, h1, h2⟩ := Wk.drop [_, _, _] _ D W_ h
  rw [unf] at h1
  exact ⟨D1, ⟨rfl, rfl, ⟨⟨qs, us, mb, rm, cm, ub, ru, cu, db, _, _⟩, ⟨hq0, hu0, hqm, hun, hlg⟩, h1⟩⟩, h2⟩
 ·intro hb0
  refine T.skip <| T.seq <| tx [0,1,2,3] (ct [3]) Z Z <| xfa Z Z Z f38_0 <| xld Z Z Z o3 (.s (.s .z)) Z <| xfa Z Z Z f33_1 <| xst Z Z Z Z o3 Z .z Z .z pend0 <| X.nil <| T.seq ?_
  refine T.any (ord := [0, 1, 2, 3, 4, 5, 6, 7, 8, 9, 10]) (lo := (fun i => [0, 1, 2, 3, 4].contains i)) (ef := (fun i => [6, 7, 10].contains i)) (by kernel_rfl) (fun _ h => h.drew) <| xmv Z Z Z <| xmv Z Z Z <| xnc Z Z Z <| xfa Z Z Z f80_5 ?_
  refine xld Z Z Z o53 (.s (.s (.s .z))) Z <| xlda Z Z Z m33 .z Z <| xbs Z Z Z s53 z33 (by decide) Z Z Z (fun _ => (pxld Z Z o53 (.s (.s (.s (.s .z)))) Z (pxfa Z Z f80_5 (pxnc Z Z (pendmv Z Z (pendmv Z Z pend0)))))) (fun b3 => ?_)
  refine xap0 (cs := Ev.cells { (W.det.step C.M W.l dr).1.event with who := (W.markers.length + W.mutators.length) }) (rest := []) Z Z Z s53 .z (by omega) Z (fun _ _ => (pxld Z Z o53 (.s (.s (.s (.s (.s .z))))) Z (pxfa Z Z f80_5 (pxnc Z Z (pendmv Z Z (pendmv Z Z pend0)))))) (fun q1 rs cm1 hcm => ?_)
  refine xnc Z Z Z <| xfa Z Z Z f80_5 <| xst Z Z Z Z o53 Z (.s (.s (.s (.s (.s .z))))) Z (.s (.s (.s (.s (.s .z))))) (pendsk (by kernel_rfl) (pendsk (by kernel_rfl) (pendsk (by kernel_rfl) (pendsk (by kernel_rfl) (pendsk (by kernel_rfl) pend0))))) ?_
  refine X.nil <| T.seq <| tx [0,1] (ct [1]) Z Z <| xlda Z Z Z m33 (.s (.s .z)) Z <| xsta Z Z Z Z m33 Z Z (.s (.s (.s .z))) (Nat.le_of_ble_eq_true Z) (.s (.s (.s .z))) pend0 <| X.nil <| T.retc Z Z m33 (.s (.s (.s .z))) Z (fun W_ D h => ?_)
  have hk : ¬ (W.det.step C.M W.l dr).1.event.kind = 0 := ne_of_beq_false hb0
  rw [Wo.step_some (by rw [Wo.steps_de]; exact hk), Wo.steps_de]
  obtain ⟨D1, h1, h2⟩ := Wk.pick [5, 6, 7, 0] (by decide) D W_ h
  rw [unf] at h1
  exact ⟨D1, ⟨rfl, rfl, ⟨⟨qs, us, mb, rm, cm, ub, ru, cu, db, slv q1 1 cm1, [⟨q1, 33, Ev.cells { (W.det.step C.M W.l dr).1.event with who := (W.markers.length + W.mutators.length) } ++ rs⟩]⟩, ⟨hq0, hu0, hqm, hun, .inr ⟨q1, rs, cm1, by rw [h00]; rfl, by simp, by rw [h00]; exact hcm.1, by rw [h00]; exact hcm.2, by rw [h00]; rfl⟩⟩, h1⟩⟩, h2⟩
set_option maxHeartbeats 1000000 in
theorem wo_stepC1 {C : Cx} {p : Nat} {W : Wo} {dr : Int}  (hM : C.M.Ok) (hp : 0 ≤ C.M.parts ∧ C.M.parts ≤ 100000) (hW : W.Ok C.M) (hl4 : W.markers.length ≤ 4 ∧ W.mutators.length ≤ 4) (hll : W.log.length < 900000) (hlog : W.log ≠ []) :
  Cv C 8 [ptr p, .agg #[.int .i64 (((W.markers.length + W.mutators.length : Nat) : Int)), .int .i64 dr]] W.l (WoR C p W) (.agg (W.step C.M (W.markers.length + W.mutators.length) dr).2.cells.toArray) (W.step C.M (W.markers.length + W.mutators.length) dr).1.l (WoR C p (W.step C.M (W.markers.length + W.mutators.length) dr).1) := by
 refine Ct.of (vs := [ptr p, .agg #[.int .i64 (((W.markers.length + W.mutators.length : Nat) : Int)), .int .i64 dr]]) Tryz.func8 rfl Tryz.ntmps8 (by simp) loc_WoR ?_
 intro w0 D0
 refine T.ex (fun _ => loc_and (loc_blks (loc_sep loc_MksR (loc_sep loc_MusR loc_DeR)) _)) ?_
 rintro ⟨qs, us, mb, rm, cm, ub, ru, cu, db, lv, LB⟩
 refine T.and (fun _ => loc_blks (loc_sep loc_MksR (loc_sep loc_MusR loc_DeR)) _) ?_
 intro ha
 have hq0 : qs.length = W.markers.length := ha.q
 have hu0 : us.length = W.mutators.length := ha.u
 have hqm : qs.length + rm.length = cm := ha.m
 have hun : us.length + ru.length = cu := ha.n
 have hlg := ha.log
 have hq4 : qs.length ≤ 4 := by omega
 have hu4 : us.length ≤ 4 := by omega
 obtain ⟨lb, lrest, lc, rfl, hne, hlc, hlr, rfl⟩ := ha.log.resolve_left (fun h => hlog h.2.1)
 have foc : sep (MksR C qs W.markers) (sep (MusR C us W.mutators) (DeR C db W.det)) = sep (DeR C db W.det) (sep (MksR C qs W.markers) (MusR C us W.mutators)) := by rw [← sep_assoc, sep_comm]
 have unf : sep (DeR C db (W.det.step C.M W.l dr).1) (sep (MksR C qs W.markers) (MusR C us W.mutators)) = sep (MksR C qs W.markers) (sep (MusR C us W.mutators) (DeR C db (W.det.step C.M W.l dr).1)) := by rw [sep_comm, sep_assoc]
 have hF : Loc (sep (MksR C qs W.markers) (MusR C us W.mutators)) := loc_sep loc_MksR loc_MusR
 have hm := hW.det
 generalize sep (MksR C qs W.markers) (MusR C us W.mutators) = F at *
 refine T.conv (fun w h => Sy.opens (H2 := [_, _, _, _]) h (loc_sep loc_MksR (loc_sep loc_MusR loc_DeR))) <| T.reb (H' := [_, _, _, _]) (R' := sep (DeR C db W.det) F) (loc_sep loc_DeR hF) (by rw [foc]; exact Wk.refl _) <| T.seq <| tx [0,1] (ct [0,1]) Z Z ?_
 refine xbx Z Z Z Z (fun _ => pend0) (fun b0 => ?_)
 refine xal Z Z z33 (fun _ => pend0) (fun b1 => ?_)
 refine X.nil <| T.seq <| T.seq <| T.any (ord := [0, 1, 2, 3, 4, 5, 6, 7, 8, 9]) (lo := (fun _ => false)) (ef := (fun _ => false)) (by kernel_rfl) (fun _ h => h.drew) <| xfa Z Z Z f38_0 <| xld Z Z Z o3 (.s .z) Z ?_
 refine xcm (c := false) Z Z Z Z Z (decide_eq_false (show ¬ ((W.markers.length + W.mutators.length : Nat) : Int) < 0 by omega)) <| xmv Z Z Z <| xfa Z Z Z f38_0 <| xld Z Z Z o3 (.s .z) Z <| xmv Z Z Z ?_
 refine xcr (H1 := [_, _]) (H2 := _ :: _) Z Z Z Z g9 Z (ct_Actors (loc_sep loc_DeR hF) hq4 hu4) (loc_sep loc_DeR hF) ?_
 refine xcm (c := false) Z Z Z Z Z (decide_eq_false (show ¬ ((W.markers.length + W.mutators.length : Nat) : Int) ≥ ((qs.length : Int) + us.length + 1) by omega)) <| xpk Z Z Z Z <| X.nil <| T.no Z <| T.skip <| T.seq <| tx [0,1,2,3,4,5] (ct [2,3,4,5]) Z Z ?_
 refine xmv Z Z Z <| xlda Z Z Z m38 (.s .z) Z <| xcb (H1 := [_, _]) (H2 := _ :: _) (H2' := _ :: _) Z Z Z Z g29 Z (ct_stepsC hF (by rw [hq0, hu0]) hp hm hM hq4 hu4 hW.rng.ld) (loc_sep loc_DeR hF) Z pend0 ?_
 refine xiv Z Z Z Z g283 (fun w => mth_dee _ w) (Cv.sepF de_Event hF) (loc_sep loc_DeR hF) pend0 <| xal Z Z z33 (fun _ => pend0) (fun b2 => ?_)
 refine xsta Z Z Z Z m33 Z Z .z (Nat.le_of_ble_eq_true Z) .z pend0 <| X.nil <| T.seq <| T.seq <| tx [0,1,2] nf Z Z <| xfa Z Z Z f33_0 <| xld Z Z Z o3 .z Z <| xcm Z Z Z Z Z Z <| X.nil <| T.cond Z ?_ ?_
 ·intro hb0
  refine T.seq <| tx [0,1] (ct [1]) Z Z <| xbd Z Z Z l33 z33 Z <| xsta Z Z Z Z m33 Z Z (.s .z) (Nat.le_of_ble_eq_true Z) (.s .z) pend0 <| X.nil <| T.retc Z Z m33 (.s .z) Z (fun W_ D h => ?_)
  have hk : (W.det.step C.M W.l dr).1.event.kind = 0 := eq_of_beq hb0
  rw [Wo.step_none (by rw [Wo.steps_de]; exact hk), Wo.steps_de]
  obtain ⟨D1, h1, h2⟩ := Wk.drop [_, _, _] _ D W_ h
  rw [unf] at h1
  exact ⟨D1, ⟨rfl, rfl, ⟨⟨qs, us, mb, rm, cm, ub, ru, cu, db, _, _⟩, ⟨hq0, hu0, hqm, hun, hlg⟩, h1⟩⟩, h2⟩
 ·intro hb0
  refine T.skip <| T.seq <| tx [0,1,2,3] (ct [3]) Z Z <| xfa Z Z Z f38_0 <| xld Z Z Z o3 (.s (.s .z)) Z <| xfa Z Z Z f33_1 <| xst Z Z Z Z o3 Z .z Z .z pend0 <| X.nil <| T.seq ?_
  refine T.any (ord := [0, 1, 2, 3, 4, 5, 6, 7, 8, 9, 10]) (lo := (fun i => [0, 1, 2, 3, 4].contains i)) (ef := (fun i => [6, 7, 10].contains i)) (by kernel_rfl) (fun _ h => h.drew) <| xmv Z Z Z <| xmv Z Z Z <| xnc Z Z Z <| xfa Z Z Z f80_5 ?_
  refine xld Z Z Z o53 (.s (.s (.s .z))) Z <| xlda Z Z Z m33 .z Z <| xbs Z Z Z s53 z33 (by decide) Z Z Z (fun _ => (pxld Z Z o53 (.s (.s (.s (.s .z)))) Z (pxfa Z Z f80_5 (pxnc Z Z (pendmv Z Z (pendmv Z Z pend0)))))) (fun b3 => ?_)
  refine xapg (Hr := [_, _, _, _, _, _, _]) (news := Ev.cells { (W.det.step C.M W.l dr).1.event with who := (W.markers.length + W.mutators.length) }) (cs := evs W.log) (rest := lrest) (rest2 := []) (cn := evs (W.log ++ [{ (W.det.step C.M W.l dr).1.event with who := (W.markers.length + W.mutators.length) }])) (kn := (W.log ++ [{ (W.det.step C.M W.l dr).1.event with who := (W.markers.length + W.mutators.length) }]).length) Z Z Z s53 Z (evs_length _) hlr .z Z (by simp [isCell, Ev.cells]) ⟨by omega, by omega, by omega, by omega, hlc⟩ (evs_app W.log { (W.det.step C.M W.l dr).1.event with who := (W.markers.length + W.mutators.length) }) (by simp) (fun _ _ => (pxld Z Z o53 (.s (.s (.s (.s (.s .z))))) Z (pxfa Z Z f80_5 (pxnc Z Z (pendmv Z Z (pendmv Z Z pend0)))))) (fun q1 rs cm1 hcm => ?_)
  refine xnc Z Z Z <| xfa Z Z Z f80_5 <| xst Z Z Z Z o53 Z (.s (.s (.s (.s (.s .z))))) Z (.s (.s (.s (.s (.s .z))))) (pendsk (by kernel_rfl) (pendsk (by kernel_rfl) (pendsk (by kernel_rfl) (pendsk (by kernel_rfl) (pendsk (by kernel_rfl) pend0))))) ?_
  refine X.nil <| T.seq <| tx [0,1] (ct [1]) Z Z <| xlda Z Z Z m33 (.s (.s .z)) Z <| xsta Z Z Z Z m33 Z Z (.s (.s (.s .z))) (Nat.le_of_ble_eq_true Z) (.s (.s (.s .z))) pend0 <| X.nil <| T.retc Z Z m33 (.s (.s (.s .z))) Z (fun W_ D h => ?_)
  have hk : ¬ (W.det.step C.M W.l dr).1.event.kind = 0 := ne_of_beq_false hb0
  rw [Wo.step_some (by rw [Wo.steps_de]; exact hk), Wo.steps_de]
  obtain ⟨D1, h1, h2⟩ := Wk.pick [5, 6, 7, 0] (by decide) D W_ h
  rw [unf] at h1
  exact ⟨D1, ⟨rfl, rfl, ⟨⟨qs, us, mb, rm, cm, ub, ru, cu, db, _, _⟩, ⟨hq0, hu0, hqm, hun, .inr ⟨q1, rs, cm1, rfl, by simp, hcm.1, hcm.2, rfl⟩⟩, h1⟩⟩, h2⟩
theorem ct_woStep {C : Cx} {p : Nat} {W : Wo} {who : Nat} {dr : Int} (hw : who < W.actors) (hM : C.M.Ok) (hp : 0 ≤ C.M.parts ∧ C.M.parts ≤ 100000) (hW : W.Ok C.M) (hl4 : W.markers.length ≤ 4 ∧ W.mutators.length ≤ 4) (hll : W.log.length < 900000) :
    Cv C 8 [ptr p, .agg #[.int .i64 (who : Int), .int .i64 dr]] W.l (WoR C p W) (.agg (W.step C.M who dr).2.cells.toArray) (W.step C.M who dr).1.l (WoR C p (W.step C.M who dr).1) := by
  unfold Wo.actors at hw
  by_cases h1 : who < W.markers.length
  · by_cases hlog : W.log = []
    · exact wo_stepA0 h1 hM hp hW hl4 hll hlog
    · exact wo_stepA1 h1 hM hp hW hl4 hll hlog
  · by_cases h2 : who < W.markers.length + W.mutators.length
    · obtain ⟨j, rfl⟩ : ∃ j, who = W.markers.length + j := ⟨who - W.markers.length, by omega⟩
      have hj : j < W.mutators.length := by omega
      by_cases hlog : W.log = []
      · exact wo_stepB0 hj hM hp hW hl4 hll hlog
      · exact wo_stepB1 hj hM hp hW hl4 hll hlog
    · obtain rfl : who = W.markers.length + W.mutators.length := by omega
      by_cases hlog : W.log = []
      · exact wo_stepC0 hM hp hW hl4 hll hlog
      · exact wo_stepC1 hM hp hW hl4 hll hlog
section
variable {Q : Exit → Act → World → Prop} {n : Nat} {r : List Code} {S : World → Prop} {e : Env}
theorem T.pure {P : Prop} (h : P → T Q n r S e) : T Q n r (fun w => P ∧ S w) e := fun w a hS hF => h hS.1 w a hS.2 hF
end
def SlV (et n : Nat) (v : Value) (k : Nat) (cs : List Value) (B : List Bk) : Prop :=
  (v = .slice none 0 0 ∧ k = 0 ∧ cs = [] ∧ B = []) ∨ ∃ b rest m, v = slv b k m ∧ k ≤ m ∧ m ≤ maxLen ∧ cs.length + List.length rest = m * n ∧ cs.length = k * n ∧ B = [⟨b, et, cs ++ rest⟩]
theorem SlV.nil {et n : Nat} : SlV et n (.slice none 0 0) 0 [] [] := .inl ⟨rfl, rfl, rfl, rfl⟩
theorem SlV.len {et n : Nat} {v : Value} {k : Nat} {cs : List Value} {B : List Bk} (h : SlV et n v k cs B) : ∃ p m, v = .slice p k m := by
  rcases h with ⟨rfl, rfl, -, -⟩ | ⟨b, rest, m, rfl, -⟩
  · exact ⟨_, _, rfl⟩
  · exact ⟨_, _, rfl⟩
theorem SlV.cell {et n : Nat} {v : Value} {k : Nat} {cs : List Value} {B : List Bk} (h : SlV et n v k cs B) : isCell v = true := by
  obtain ⟨p, m, rfl⟩ := h.len
  rfl
theorem own_blk {w : World} {b et n k m : Nat} {cs rest : List Value} (h : (⟨b, et, cs ++ rest⟩ : Bk).is w) (hk : k ≤ m) (hm : m ≤ maxLen) (hl : cs.length + rest.length = m * n) (hc : cs.length = k * n) : w.ownsRow 0 et n (slv b k m) k cs := by
  refine ⟨hc, .inr ⟨b, m, (cs ++ rest).toArray, rfl, Nat.zero_le _, h, hk, hm, by simp [hl], ?_⟩⟩
  simp only [List.toList_toArray]
  rw [← hc]
  exact List.take_left
theorem blks_rotl {H : List Bk} {x : Bk} {R : Asr} {D : Dom} {w : World} (h : blks (x :: H) R D w) : ∃ D', blks (H ++ [x]) R D' w ∧ ∀ k, D' k → D k := by
  obtain ⟨h1, h2, DR, h3, h4, h5⟩ := blks_all h
  have hm : ∀ y ∈ H ++ [x], y ∈ x :: H := fun y hy => by
    rcases List.mem_append.1 hy with hy | hy
    · simp [hy]
    · rw [List.mem_singleton.1 hy]; simp
  have hp : (H ++ [x]).Pairwise (fun a b => a.b ≠ b.b) := by
    rw [List.pairwise_append]
    obtain ⟨g1, g2⟩ := List.pairwise_cons.1 h1
    exact ⟨g2, by simp, fun y hy z hz => by rw [List.mem_singleton.1 hz]; exact fun e => g1 y hy e.symm⟩
  obtain ⟨D', g1, g2⟩ := blks_mk h3 hp (fun y hy => ⟨(h2 y (hm y hy)).1, h4 y (hm y hy)⟩)
  refine ⟨D', g1, fun k hk => ?_⟩
  rcases g2 k hk with h6 | ⟨y, hy, rfl⟩
  · exact h5 k h6
  · exact (h2 y (hm y hy)).2
section
variable {C : Cx} {w0 : World} {D0 : Dom} {l l' : Wds} {H H' Hr H1 H2 : List Bk} {R R' : Asr}
variable {ops : Array Oper} {lo ef : Nat → Bool} {K : (World → Prop) → Env → Prop} {i : Nat} {rr : List Nat} {U : List (Nat × Value)} {e : Env} {d : Option Nat} {ty : Nat} {ps : String} {af : Array Edge} {gd : Option (Nat × Bool)} {x y z : Operand} {v u : Value}
theorem run_ms {t et n : Nat} {j k : IntKind} {u : Value} (hn : n ≤ 1000000) (ht : slcB t et 1 = true) (hz : zer et = some [u]) (w : World) : (Instr.makeSlice t (.int j (n : Int)) (.int k (n : Int))).run Tryz.prog w = .ok (slv w.heap.size n n) (w.alloc (.cells (List.replicate n u).toArray et)) := by
  obtain ⟨inf, z, hu, hin, hz1, hs, hb, hzs⟩ := slcB_of ht
  obtain ⟨inf', z', hi', hz', hc'⟩ := zer_of hz
  rw [hin] at hi'
  cases hi'
  rw [hz1] at hz'
  cases hz'
  have hr := run_make (P := Tryz.prog) w t et inf z hu hin hz1 j k (n : Int) (n : Int) (by omega) (Int.le_refl _) (by
    have : inf.bytes * n ≤ 1000 * 1000000 := Nat.mul_le_mul hb hn
    omega) (by omega)
  have hcells : madeCells z.cells ((n : Int).toNat * inf.size) = (List.replicate n u).toArray := by
    have hz0 : z.cells = #[u] := by rw [← hc']
    rw [hs, hz0]
    apply Array.ext'
    apply List.ext_getElem?
    intro q
    simp [madeCells, List.getElem?_replicate]
    by_cases hq : q < n
    · simp [hq, Nat.mod_one]
    · simp [hq]
  rw [hcells] at hr
  exact hr
set_option maxRecDepth 20000 in
theorem xms {t et : Nat} {j k : IntKind} {n : Nat} {N : Int} (hn : n ≤ 1000000) (hN : N = (n : Int)) (ho : ops[i]? = some ⟨d, .makeSlice t x y, ty, ps, af, none⟩) (hef : ef i = true) (hx : evo e x = some (.int j N)) (hy : evo e y = some (.int k N)) (ht : slcB t et 1 = true) (hz : zer et = some [u])
    (hp : ∀ b, Pend ops i U (Sy C w0 D0 l (⟨b, et, List.replicate n u⟩ :: H) R) e) (h : ∀ b, X Tryz.prog ops lo ef K rr (Sy C w0 D0 l (⟨b, et, List.replicate n u⟩ :: H) R) U (pute d (slv b n n) e)) : X Tryz.prog ops lo ef K (i :: rr) (Sy C w0 D0 l H R) U e :=
  x_eff (K' := fun v w' => ∃ b, v = slv b n n ∧ Sy C w0 D0 l (⟨b, et, List.replicate n u⟩ :: H) R w') ho hef rfl (fun w hS => by
    have h2 : (execOp (ev e) ⟨d, .makeSlice t x y, ty, ps, af, none⟩).run Tryz.prog w = .ok (.value (slv w.heap.size n n)) (w.alloc (.cells (List.replicate n u).toArray et)) := exv (m := Instr.makeSlice t (ev e x) (ev e y)) rfl (by rw [ev_of hx, ev_of hy, hN]; exact run_ms hn ht hz w)
    have h3 : ∃ b : Nat, (slv w.heap.size n n = slv b n n) ∧ Sy C w0 D0 l (⟨b, et, List.replicate n u⟩ :: H) R (w.alloc (.cells (List.replicate n u).toArray et)) := ⟨w.heap.size, rfl, hS.alloc et _⟩
    unfold eff
    rw [h2]
    exact h3) (fun v w' ⟨b, h1, h2⟩ => ⟨_, h2, hp b, by rw [h1]; exact h b⟩)
theorem u64s_set (ws : List Int) (a : Nat) (v : Int) : setc (u64s ws) a (.int .u64 v) = u64s (ws.set a v) := by
  rw [setc_eq]
  simp [u64s, List.map_set]
theorem nth_u64 {ws : List Int} {a : Nat} (h : a < ws.length) : nth (u64s ws) a = some (.int .u64 (ws.getD a 0)) := by
  rw [nth_eq]
  simp [u64s, h]
theorem u64s_rep {n : Nat} : List.replicate n (Value.int .u64 0) = u64s (List.replicate n 0) := by simp [u64s]
theorem nth_u64' {ws : List Int} {a : Int} (h : a.toNat < ws.length) : nth (u64s ws) (0 + a.toNat * 1) = some (.int .u64 (ws.getD a.toNat 0)) := by
  rw [show 0 + a.toNat * 1 = a.toNat by omega]
  exact nth_u64 h
theorem upd_mid : ∀ (H1 : List Bk) {H2 : List Bk} {b t : Nat} {cs : List Value} (f : List Value → List Value), Upd (H1 ++ ⟨b, t, cs⟩ :: H2) b f (H1 ++ ⟨b, t, f cs⟩ :: H2)
  | [], _, _, _, _, _ => .z
  | x :: H1, _, _, _, _, f => .s (upd_mid H1 f)
theorem in_mid : ∀ (H1 : List Bk) {H2 : List Bk} {b t : Nat} {cs : List Value}, In b cs (H1 ++ ⟨b, t, cs⟩ :: H2)
  | [], _, _, _, _ => .z
  | x :: H1, _, _, _, _ => .s (in_mid H1)
end
section
variable {ops : Array Oper} {lo ef : Nat → Bool} {K : (World → Prop) → Env → Prop} {i : Nat} {rr : List Nat} {S : World → Prop} {U : List (Nat × Value)} {e : Env} {d : Option Nat} {ty : Nat} {ps : String} {af : Array Edge} {gd : Option (Nat × Bool)} {x y z : Operand} {v : Value}
theorem xpkt (ho : ops[i]? = some ⟨d, .pick z x y, ty, ps, af, gd⟩) (hef0 : (ef i, wantedE ops ⟨d, .pick z x y, ty, ps, af, gd⟩ e) = (false, true)) (hz : evo e z = some (.bool true)) (hx : evo e x = some v)
    (h : X Tryz.prog ops lo ef K rr S (bif lo i then (i, v) :: U else U) (pute d v e)) : X Tryz.prog ops lo ef K (i :: rr) S U e := have ⟨hef, hw⟩ := tri2 hef0;
  xpk ho hef0 hz (by rw [if_pos rfl]; exact ev_of hx) h
theorem xpkf (ho : ops[i]? = some ⟨d, .pick z x y, ty, ps, af, gd⟩) (hef0 : (ef i, wantedE ops ⟨d, .pick z x y, ty, ps, af, gd⟩ e) = (false, true)) (hz : evo e z = some (.bool false)) (hy : evo e y = some v)
    (h : X Tryz.prog ops lo ef K rr S (bif lo i then (i, v) :: U else U) (pute d v e)) : X Tryz.prog ops lo ef K (i :: rr) S U e := have ⟨hef, hw⟩ := tri2 hef0;
  xpk ho hef0 hz (by rw [if_neg Bool.false_ne_true]; exact ev_of hy) h
theorem xnott {t : Nat} (ho : ops[i]? = some ⟨d, .unOp .not t x, ty, ps, af, gd⟩) (hef0 : (ef i, wantedE ops ⟨d, .unOp .not t x, ty, ps, af, gd⟩ e) = (false, true)) (hx : evo e x = some (.bool true))
    (h : X Tryz.prog ops lo ef K rr S (bif lo i then (i, .bool false) :: U else U) (pute d (.bool false) e)) : X Tryz.prog ops lo ef K (i :: rr) S U e := have ⟨hef, hw⟩ := tri2 hef0; xnot ho hef0 hx h
theorem xnotf {t : Nat} (ho : ops[i]? = some ⟨d, .unOp .not t x, ty, ps, af, gd⟩) (hef0 : (ef i, wantedE ops ⟨d, .unOp .not t x, ty, ps, af, gd⟩ e) = (false, true)) (hx : evo e x = some (.bool false))
    (h : X Tryz.prog ops lo ef K rr S (bif lo i then (i, .bool true) :: U else U) (pute d (.bool true) e)) : X Tryz.prog ops lo ef K (i :: rr) S U e := have ⟨hef, hw⟩ := tri2 hef0; xnot ho hef0 hx h
end
end Go.Proofs.YtmpcfamcbaineaaGreat.Mo
namespace Go.Proofs.YtmpcfamcbaineaaGreat.Mo.Mp
open Go.RowKit Go.Proofs.YtmpcfamcbaineaaGreat.Mo
set_option linter.unusedVariables false
set_option linter.unusedSimpArgs false
structure Cx where
  u : Unit
structure Mem (w : World) (C : Cx) (l : Wds) : Prop where
structure Amb (C : Cx) (w : World) (D : Dom) : Prop where
  lt : ∀ k, D k → k < w.heap.size
def Cx.with (C : Cx) (D : Dom) : Dom := D
def Ct (C : Cx) (f : Nat) (args : Array Value) (l : Wds) (R : Asr) (Q : Value → Wds → Asr) : Prop :=
  ∀ w D, Amb C w D → Mem w C l → R D w → Calls Tryz.prog f args w fun e w' => ∃ v l' D', e = .returned v ∧ Mem w' C l' ∧ Q v l' D' w' ∧
    Chg (C.with D) w w' ∧ ∀ k, D' k → k < w'.heap.size ∧ (D k ∨ w.heap.size ≤ k)
structure Sy (C : Cx) (w0 : World) (D0 : Dom) (l : Wds) (H : List Bk) (R : Asr) (w : World) : Prop where
  amb : Amb C w0 D0
  chg : Chg (C.with D0) w0 w
  mem : Mem w C l
  loc : Loc R
  rep : ∃ D, blks H R D w ∧ ∀ k, D k → k < w.heap.size ∧ (D0 k ∨ w0.heap.size ≤ k)
section
variable {C : Cx} {w0 : World} {D0 : Dom} {l : Wds} {H : List Bk} {R : Asr} {w : World}
theorem Sy.drew (h : Sy C w0 D0 l H R w) : Sy C w0 D0 l H R w.drew := by
  obtain ⟨D, h1, h2⟩ := h.rep
  exact ⟨h.amb, h.chg.drew, ⟨⟩, h.loc, D, loc_blks h.loc H D w _ h1 (fun _ _ => rfl), h2⟩
theorem Sy.cell (h : Sy C w0 D0 l H R w) {b : Nat} {cs : List Value} (hi : In b cs H) {o : Nat} {v : Value} (hv : nth cs o = some v) : w.cell? ⟨b, o, none⟩ = some v ∧ w.frozen? ⟨b, o, none⟩ = false := by
  obtain ⟨D, h1, h2⟩ := h.rep
  obtain ⟨t, hm⟩ := hi.mem
  have h3 := (blks_mem h1 hm).1
  unfold Bk.is at h3
  rw [nth_eq] at hv
  constructor
  · simp [World.cell?, h3, hv]
  · simp [World.frozen?, h3]
theorem Sy.set {H' : List Bk} (h : Sy C w0 D0 l H R w) {b o : Nat} {v : Value} (hu : Upd H b (fun cs => setc cs o v) H') : Sy C w0 D0 l H' R (w.setCell ⟨b, o, none⟩ v) := by
  obtain ⟨D, h1, h2⟩ := h.rep
  obtain ⟨x, hx, rfl⟩ := upd_in hu
  have hx' := blks_mem h1 hx
  have hD := (h2 _ hx'.2).2
  have hch : Chg (C.with D0) w0 (w.setCell ⟨x.b, o, none⟩ v) := h.chg.setCell v hD
  refine ⟨h.amb, hch, ⟨⟩, h.loc, D, blks_upd h.loc h1 hu (fun t cs hc => ?_) (fun k hk _ => heap_setCell_ne hk), fun k hk => ⟨?_, (h2 k hk).2⟩⟩
  · rw [setCell_same hc, setc_eq]
    simp
  · have := (h2 k hk).1
    simpa [World.setCell] using this
theorem Sy.alloc (h : Sy C w0 D0 l H R w) (t : Nat) (cs : List Value) : Sy C w0 D0 l (⟨w.heap.size, t, cs⟩ :: H) R (w.alloc (.cells cs.toArray t)) := by
  obtain ⟨D, h1, h2⟩ := h.rep
  have hb : Below w.heap.size w (w.alloc (.cells cs.toArray t)) := below_alloc (Below.refl _ _) _
  have hch := h.chg.alloc (.cells cs.toArray t)
  refine ⟨h.amb, hch, ⟨⟩, h.loc, fun k => k = w.heap.size ∨ D k, ⟨?_, D, loc_blks h.loc H D w _ h1 (fun k hk => hb.block k (h2 k hk).1), fun hk => ?_, fun k => Iff.rfl⟩, fun k hk => ?_⟩
  · show (w.heap.push _)[w.heap.size]? = _
    simp
  · exact absurd (h2 _ hk).1 (Nat.lt_irrefl _)
  · have hs := h.chg.size
    rcases hk with rfl | hk
    · refine ⟨?_, .inr hs⟩
      show _ < (w.heap.push _).size
      simp
    · have := h2 k hk
      refine ⟨?_, this.2⟩
      have := this.1
      show _ < (w.heap.push _).size
      simp
      omega
theorem blks_split {H : List Bk} {D : Dom} (h : blks H R D w) : ∃ D1, R D1 w ∧ (∀ k, D1 k → D k) ∧ (∀ x ∈ H, ¬ D1 x.b) ∧
    ∀ (D2 : Dom) (w' : World) (R' : Asr), R' D2 w' → (∀ k, D2 k → D1 k ∨ ¬ D k) → (∀ x ∈ H, x.is w → x.is w') → ∃ D', blks H R' D' w' ∧ ∀ k, D' k → D2 k ∨ (D k ∧ ¬ D1 k) := by
  induction H generalizing D with
  | nil => exact ⟨D, h, fun _ hk => hk, by simp, fun D2 w' R' h2 _ _ => ⟨D2, h2, fun k hk => .inl hk⟩⟩
  | cons x H ih =>
    obtain ⟨h1, DH, h2, h3, h4⟩ := h
    obtain ⟨D1, g1, g2, g3, g4⟩ := ih h2
    refine ⟨D1, g1, fun k hk => (h4 k).2 (.inr (g2 k hk)), fun y hy => ?_, fun D2 w' R' k1 k2 k3 => ?_⟩
    · rcases List.mem_cons.1 hy with rfl | hy
      · exact fun hd => h3 (g2 _ hd)
      · exact g3 y hy
    · obtain ⟨D', m1, m2⟩ := g4 D2 w' R' k1 (fun k hk => (k2 k hk).imp id (fun hn hd => hn ((h4 k).2 (.inr hd)))) (fun y hy => k3 y (List.mem_cons_of_mem _ hy))
      refine ⟨fun k => k = x.b ∨ D' k, ⟨k3 x (List.mem_cons_self ..) h1, D', m1, fun hx => ?_, fun k => Iff.rfl⟩, fun k hk => ?_⟩
      · rcases m2 _ hx with m2 | ⟨m2, -⟩
        · rcases k2 _ m2 with k2 | k2
          · exact h3 (g2 _ k2)
          · exact k2 ((h4 _).2 (.inl rfl))
        · exact h3 m2
      · rcases hk with rfl | hk
        · exact .inr ⟨(h4 _).2 (.inl rfl), fun hd => h3 (g2 _ hd)⟩
        · rcases m2 k hk with m2 | ⟨m2, m3⟩
          · exact .inl m2
          · exact .inr ⟨(h4 k).2 (.inr m2), m3⟩
theorem Sy.call {f : Nat} {args : Array Value} {Q : Value → Wds → Asr} (h : Sy C w0 D0 l H R w) (hc : Ct C f args l R Q) (hl : ∀ v l', Loc (Q v l')) :
    Calls Tryz.prog f args w fun e w' => ∃ v, e = .returned v ∧ ∃ l', (∃ D w, Q v l' D w) ∧ Sy C w0 D0 l' H (Q v l') w' := by
  obtain ⟨D, h1, h2⟩ := h.rep
  obtain ⟨D1, g1, g2, g3, g4⟩ := blks_split h1
  have hsz := h.chg.size
  have hamb : Amb C w D1 := ⟨fun k hk => (h2 k (g2 k hk)).1⟩
  refine (hc w D1 hamb h.mem g1).mono ?_
  rintro e w' ⟨v, l', D', rfl, hm, hQ, hch, hD'⟩
  obtain ⟨DD, m1, m2⟩ := g4 D' w' (Q v l') hQ (fun k hk => (hD' k hk).2.imp id (fun hk hd => by have := (h2 k hd).1; omega)) (fun x hx hxw => by
    have hxD := (blks_mem h1 hx).2
    have hlt := (h2 _ hxD)
    refine (hch.block x.b hlt.1 ?_).trans hxw
    intro h5
    exact g3 x hx h5)
  refine ⟨v, rfl, l', ⟨D', w', hQ⟩, h.amb, h.chg.after hch (fun k hk h5 => ?_), hm, hl v l', DD, m1, fun k hk => ?_⟩
  · rcases (h2 k (g2 k h5)).2 with h6 | h6
    · exact h6
    · omega
  · rcases m2 k hk with m2 | ⟨m2, m3⟩
    · have := hD' k m2
      refine ⟨this.1, ?_⟩
      rcases this.2 with h6 | h6
      · exact (h2 k (g2 k h6)).2
      · exact .inr (by omega)
    · have := h2 k m2
      have := hch.size
      exact ⟨by omega, (h2 k m2).2⟩
end
section
variable {C : Cx} {w0 : World} {D0 : Dom} {l : Wds} {H H' : List Bk} {R : Asr} {w : World}
end
section
variable {C : Cx} {w0 : World} {D0 : Dom} {l : Wds} {H : List Bk} {R : Asr}
theorem Sy.opens {H2 : List Bk} {w : World} (h : Sy C w0 D0 l [] (blks H2 R) w) (hl : Loc R) : Sy C w0 D0 l H2 R w := ⟨h.amb, h.chg, h.mem, hl, h.rep⟩
theorem Sy.unfold {H1 H2 : List Bk} {w : World} (h : Sy C w0 D0 l H1 (blks H2 R) w) (hl : Loc R) : Sy C w0 D0 l (H1 ++ H2) R w := ⟨h.amb, h.chg, h.mem, hl, by rw [blks_app]; exact h.rep⟩
theorem Sy.fold {H1 H2 : List Bk} {w : World} (h : Sy C w0 D0 l (H1 ++ H2) R w) : Sy C w0 D0 l H1 (blks H2 R) w := ⟨h.amb, h.chg, h.mem, loc_blks h.loc H2, by rw [← blks_app]; exact h.rep⟩
theorem Sy.exR {α : Sort _} {R : α → Asr} {w : World} (h : Sy C w0 D0 l H (fun D w => ∃ a, R a D w) w) (hl : ∀ a, Loc (R a)) : ∃ a, Sy C w0 D0 l H (R a) w := by
  obtain ⟨D, h1, h2⟩ := h.rep
  have hb : ∀ (H : List Bk) (D : Dom), blks H (fun D w => ∃ a, R a D w) D w → ∃ a, blks H (R a) D w := by
    intro H
    induction H with
    | nil => exact fun D h => h
    | cons x H ih =>
      rintro D ⟨g1, D1, g2, g3, g4⟩
      obtain ⟨a, ha⟩ := ih D1 g2
      exact ⟨a, g1, D1, ha, g3, g4⟩
  obtain ⟨a, ha⟩ := hb H D h1
  exact ⟨a, h.amb, h.chg, h.mem, hl a, D, ha, h2⟩
theorem Sy.andR {p : Prop} {R : Asr} {w : World} (h : Sy C w0 D0 l H (fun D w => p ∧ R D w) w) (hl : Loc R) : p ∧ Sy C w0 D0 l H R w := by
  obtain ⟨D, h1, h2⟩ := h.rep
  have hb : ∀ (H : List Bk) (D : Dom), blks H (fun D w => p ∧ R D w) D w → p ∧ blks H R D w := by
    intro H
    induction H with
    | nil => exact fun D h => h
    | cons x H ih =>
      rintro D ⟨g1, D1, g2, g3, g4⟩
      obtain ⟨hp, ha⟩ := ih D1 g2
      exact ⟨hp, g1, D1, ha, g3, g4⟩
  obtain ⟨hp, ha⟩ := hb H D h1
  exact ⟨hp, h.amb, h.chg, h.mem, hl, D, ha, h2⟩
end
section
variable {Q : Exit → Act → World → Prop} {n : Nat} {r : List Code} {S : World → Prop} {e : Env}
end
def Fin (C : Cx) (w0 : World) (D0 : Dom) (Q : Value → Wds → Asr) : Ending → World → Prop := fun e w' => ∃ v l' D', e = .returned v ∧ Mem w' C l' ∧ Q v l' D' w' ∧ Chg (C.with D0) w0 w' ∧ ∀ k, D' k → k < w'.heap.size ∧ (D0 k ∨ w0.heap.size ≤ k)
theorem Ct.of {C : Cx} {f n : Nat} {fn : Func} {c : Code} {vs : List Value} {l : Wds} {R : Asr} {Q : Value → Wds → Asr} (hf : Tryz.prog.funcs[f]? = some fn) (hb : fn.body = some c) (hnt : fn.ntmps = n) (hn : vs.length ≤ n) (hl : Loc R)
    (h : ∀ w0 D0, T (bodyPost Tryz.prog fn (Fin C w0 D0 Q)) n [c] (Sy C w0 D0 l [] R) (mkE 0 vs)) :
    Ct C f vs.toArray l R Q := fun w D ha hm hR => by
  subst hnt
  refine calls_of_wp hf hb ?_
  have := h w D w _ ⟨ha, Chg.refl _ _, hm, hl, D, hR, fun k hk => ⟨ha.lt k hk, .inl hk⟩⟩ (fits_init vs fn.ntmps hn)
  refine wp_mono this ?_
  intro ex a' w' hq
  cases ex <;> exact hq
section
variable {C : Cx} {w0 : World} {D0 : Dom} {l : Wds} {H : List Bk} {R : Asr} {fn : Func} {n : Nat} {e : Env} {r : List Code} {Q : Value → Wds → Asr}
theorem Sy.fin {w : World} {v : Value} (h : Sy C w0 D0 l H R w) (hq : ∀ D, blks H R D w → ∃ D', Q v l D' w ∧ ∀ k, D' k → D k) : Fin C w0 D0 Q (.returned v) w := by
  obtain ⟨D, h1, h2⟩ := h.rep
  obtain ⟨D', h3, h4⟩ := hq D h1
  exact ⟨v, l, D', rfl, h.mem, h3, h.chg, fun k hk => h2 k (h4 k hk)⟩
theorem T.ret0 (hr : fn.results = #[]) (hq : ∀ w D, blks H R D w → ∃ D', Q (.tuple #[]) l D' w ∧ ∀ k, D' k → D k) : T (bodyPost Tryz.prog fn (Fin C w0 D0 Q)) n (.ret :: r) (Sy C w0 D0 l H R) e :=
  T.ret fun w a hS hF => ⟨hF.defers, _, results_none hr _ _ _, hS.fin (hq w)⟩
theorem T.end0 (hr : fn.results = #[]) (hq : ∀ w D, blks H R D w → ∃ D', Q (.tuple #[]) l D' w ∧ ∀ k, D' k → D k) : T (bodyPost Tryz.prog fn (Fin C w0 D0 Q)) n [] (Sy C w0 D0 l H R) e :=
  T.done fun w a hS hF => ⟨hF.defers, _, results_none hr _ _ _, hS.fin (hq w)⟩
theorem T.ret1 {t : Nat} (hr : fn.results = #[.tmp t]) (hq : ∀ w D, blks H R D w → ∃ D', Q (lk e t) l D' w ∧ ∀ k, D' k → D k) : T (bodyPost Tryz.prog fn (Fin C w0 D0 Q)) n (.ret :: r) (Sy C w0 D0 l H R) e :=
  T.ret fun w a hS hF => ⟨hF.defers, _, results_tmp hr _ _ _, by rw [hF.at_ t]; exact hS.fin (hq w)⟩
theorem T.ret2 {t u : Nat} (hr : fn.results = #[.tmp t, .tmp u]) (hq : ∀ w D, blks H R D w → ∃ D', Q (.tuple #[lk e t, lk e u]) l D' w ∧ ∀ k, D' k → D k) : T (bodyPost Tryz.prog fn (Fin C w0 D0 Q)) n (.ret :: r) (Sy C w0 D0 l H R) e :=
  T.ret fun w a hS hF => ⟨hF.defers, _, results_tmp2 hr _ _ _, by rw [hF.at_ t, hF.at_ u]; exact hS.fin (hq w)⟩
end
section
variable {ops : Array Oper} {lo ef : Nat → Bool} {K : (World → Prop) → Env → Prop} {i : Nat} {r : List Nat} {S : World → Prop} {U : List (Nat × Value)} {e : Env} {o : Oper} {v : Value}
variable {d : Option Nat} {ty : Nat} {ps : String} {af : Array Edge} {gd : Option (Nat × Bool)} {x y : Operand}
end
section
variable {C : Cx} {w0 : World} {D0 : Dom} {l : Wds} {H H' : List Bk} {R : Asr}
theorem Sy.uniq {w : World} (h : Sy C w0 D0 l H R w) {b : Nat} {cs cs' : List Value} (h1 : In b cs H) (h2 : In b cs' H) : cs = cs' := by
  obtain ⟨D, g1, -⟩ := h.rep
  obtain ⟨t, m1⟩ := h1.mem
  obtain ⟨t', m2⟩ := h2.mem
  have e1 := (blks_mem g1 m1).1
  have e2 := (blks_mem g1 m2).1
  unfold Bk.is at e1 e2
  rw [e1] at e2
  have := Option.some.inj e2
  simp only [Obj.cells.injEq] at this
  simpa using this.1
theorem Sy.sets : ∀ (vs : List Value) (o : Nat) {w : World} {H H' : List Bk} {b : Nat} {cs : List Value}, Sy C w0 D0 l H R w → Upd H b (fun cs => setcs cs o vs) H' → In b cs H → o + vs.length ≤ cs.length → (∀ v ∈ vs, isCell v = true) →
    ∃ w', (storeCells ⟨b, 0, none⟩ vs o).run Tryz.prog w = .ok () w' ∧ Sy C w0 D0 l H' R w'
  | [], o, w, H, H', b, cs, h, hu, hi, hlen, hv => by
    refine ⟨w, rfl, ?_⟩
    have : H' = H := by
      clear h hi hlen hv
      generalize hk : (fun cs => setcs cs o []) = k at hu
      induction hu with
      | z => subst hk; rfl
      | s _ ih => rw [ih hk]
    rw [this]
    exact h
  | v :: vs, o, w, H, H', b, cs, h, hu, hi, hlen, hv => by
    obtain ⟨H1, hu1, hu2⟩ := Upd.comp (f := fun cs => setc cs o v) (g := fun cs => setcs cs (o + 1) vs) hu
    obtain ⟨cs1, h1, h2⟩ := upd_get hu1
    have := h.uniq hi h1
    subst this
    simp only [List.length_cons] at hlen
    obtain ⟨u, hu'⟩ := nth_lt cs o (by omega)
    obtain ⟨c1, c2⟩ := h.cell hi hu'
    have hs := run_store (hv v (by simp)) c1 c2
    obtain ⟨w', g1, g2⟩ := Sy.sets vs (o + 1) (h.set hu1) hu2 h2 (by rw [setc_length]; omega) (fun x hx => hv x (by simp [hx]))
    refine ⟨w', ?_, g2⟩
    have ha : (⟨b, 0, none⟩ : Addr).add o = ⟨b, o, none⟩ := by
      unfold Addr.add
      split
      · rename_i h0; rw [h0]
      · simp
    unfold storeCells
    rw [Sem.run_bind, ha, hs]
    exact g1
end
section
variable {C : Cx} {w0 : World} {D0 : Dom} {l : Wds} {H H' : List Bk} {R : Asr}
variable {ops : Array Oper} {lo ef : Nat → Bool} {K : (World → Prop) → Env → Prop} {i : Nat} {r : List Nat} {S : World → Prop} {U : List (Nat × Value)} {e : Env} {o : Oper} {v u : Value} {d : Option Nat} {ty : Nat} {ps : String} {af : Array Edge} {gd : Option (Nat × Bool)} {x y z : Operand}
theorem xld {t b off : Nat} {cs : List Value} (ho : ops[i]? = some ⟨d, .load t x, ty, ps, af, gd⟩) (hef0 : (ef i, wantedE ops ⟨d, .load t x, ty, ps, af, gd⟩ e) = (false, true)) (hx : evo e x = some (.pointer (some ⟨b, off, none⟩))) (h1 : one t = true) (hi : In b cs H) (hv : nth cs off = some v)
    (h : X Tryz.prog ops lo ef K r (Sy C w0 D0 l H R) (bif lo i then (i, v) :: U else U) (pute d v e)) : X Tryz.prog ops lo ef K (i :: r) (Sy C w0 D0 l H R) U e := have ⟨hef, hw⟩ := tri2 hef0;
  x_val ho hef hw (fun w hS => by
    exact exv (m := Instr.loadAt t (ev e x)) rfl (by rw [ev_of hx]; exact run_loadVar_one h1 (hS.cell hi hv).1)) h
theorem xlda {t b off n : Nat} {cs : List Value} (ho : ops[i]? = some ⟨d, .load t x, ty, ps, af, gd⟩) (hef0 : (ef i, wantedE ops ⟨d, .load t x, ty, ps, af, gd⟩ e) = (false, true)) (hx : evo e x = some (.pointer (some ⟨b, off, none⟩))) (h1 : many t n = true) (hi : In b cs H) (hn : (slc cs off n).length = n)
    (h : X Tryz.prog ops lo ef K r (Sy C w0 D0 l H R) (bif lo i then (i, .agg (slc cs off n).toArray) :: U else U) (pute d (.agg (slc cs off n).toArray) e)) : X Tryz.prog ops lo ef K (i :: r) (Sy C w0 D0 l H R) U e := have ⟨hef, hw⟩ := tri2 hef0;
  x_val ho hef hw (fun w hS => by
    have := run_loadVar_many h1 (w := w) (b := b) (off := off) (slc cs off n) hn (fun j v hj => by
      refine (hS.cell hi ?_).1
      unfold slc at hj
      rw [List.getElem?_take] at hj
      split at hj
      · rw [nth_eq, ← hj, List.getElem?_drop]
      · cases hj)
    exact exv (m := Instr.loadAt t (ev e x)) rfl (by rw [ev_of hx]; exact this)) h
theorem xst {t b off : Nat} {cs : List Value} (ho : ops[i]? = some ⟨none, .store t x y, ty, ps, af, none⟩) (hef : ef i = true) (hx : evo e x = some (.pointer (some ⟨b, off, none⟩))) (hy : evo e y = some v) (h1 : one t = true) (hv : isCell v = true) (hi : In b cs H) (hv0 : nth cs off = some u)
    (hu : Upd H b (fun cs => setc cs off v) H') (hp : Pend ops i U (Sy C w0 D0 l H' R) e) (h : X Tryz.prog ops lo ef K r (Sy C w0 D0 l H' R) U e) : X Tryz.prog ops lo ef K (i :: r) (Sy C w0 D0 l H R) U e :=
  x_eff (K' := fun _ w' => Sy C w0 D0 l H' R w') ho hef rfl (fun w hS => by
    obtain ⟨c1, c2⟩ := hS.cell hi hv0
    exact eff_skip (exu (m := Instr.storeAt t (ev e x) (ev e y)) rfl (by rw [ev_of hx, ev_of hy]; exact run_storeVar_one h1 hv c1 c2)) (hS.set hu)) (fun _ w' hk => ⟨_, hk, hp, h⟩)
theorem xsta {t b off n : Nat} {cs vs : List Value} (ho : ops[i]? = some ⟨none, .store t x y, ty, ps, af, none⟩) (hef : ef i = true) (hx : evo e x = some (.pointer (some ⟨b, off, none⟩))) (hy : evo e y = some (.agg vs.toArray)) (h1 : many t n = true) (hn : vs.length = n) (hv : vs.all isCell = true) (hi : In b cs H) (hlen : off + n ≤ cs.length)
    (hu : Upd H b (fun cs => setcs cs off vs) H') (hp : Pend ops i U (Sy C w0 D0 l H' R) e) (h : X Tryz.prog ops lo ef K r (Sy C w0 D0 l H' R) U e) : X Tryz.prog ops lo ef K (i :: r) (Sy C w0 D0 l H R) U e :=
  x_eff (K' := fun _ w' => Sy C w0 D0 l H' R w') ho hef rfl (fun w hS => by
    obtain ⟨w', g1, g2⟩ := hS.sets vs off hu hi (by omega) (fun v hm => List.all_eq_true.1 hv v hm)
    have g3 : (storeVar t ⟨b, off, none⟩ (.agg vs.toArray)).run Tryz.prog w = .ok () w' := by
      unfold storeVar
      rw [Sem.run_bind, (run_isAgg_many h1 w).2]
      have : (Value.agg vs.toArray).cells = vs.toArray := rfl
      subst hn
      simp only [Result.andThen_ok, this, List.size_toArray, ne_eq, not_true_eq_false, if_false]
      show (storeCells ⟨b, off, none⟩ vs 0).run Tryz.prog w = _
      rw [storeCells_at]
      exact g1
    exact eff_skip (exu (m := Instr.storeAt t (ev e x) (ev e y)) rfl (by rw [ev_of hx, ev_of hy]; exact g3)) g2) (fun _ w' hk => ⟨_, hk, hp, h⟩)
theorem xbx {t : Nat} {cs : List Value} (ho : ops[i]? = some ⟨d, .box t x, ty, ps, af, none⟩) (hef : ef i = true) (hx : evo e x = some v) (hcs : v.cells = cs.toArray)
    (hp : ∀ b, Pend ops i U (Sy C w0 D0 l (⟨b, t, cs⟩ :: H) R) e) (h : ∀ b, X Tryz.prog ops lo ef K r (Sy C w0 D0 l (⟨b, t, cs⟩ :: H) R) U (pute d (.pointer (some ⟨b, 0, none⟩)) e)) : X Tryz.prog ops lo ef K (i :: r) (Sy C w0 D0 l H R) U e :=
  x_eff (K' := fun v w' => ∃ b, v = .pointer (some ⟨b, 0, none⟩) ∧ Sy C w0 D0 l (⟨b, t, cs⟩ :: H) R w') ho hef rfl (fun w hS => by
    refine eff_val (exv (m := Instr.box t (ev e x)) rfl (w' := w.alloc (.cells cs.toArray t)) (v := .pointer (some ⟨w.heap.size, 0, none⟩)) ?_) ⟨_, rfl, hS.alloc t cs⟩
    rw [ev_of hx]
    show Sem.run Tryz.prog (newVar t v >>= _) w = _
    unfold newVar newRow
    rw [hcs]
    rfl) (fun v w' ⟨b, hb, hk⟩ => ⟨_, hk, hp b, by rw [hb]; exact h b⟩)
theorem xal {t : Nat} {cs : List Value} (ho : ops[i]? = some ⟨d, .alloc t, ty, ps, af, none⟩) (hef : ef i = true) (hz : zer t = some cs)
    (hp : ∀ b, Pend ops i U (Sy C w0 D0 l (⟨b, t, cs⟩ :: H) R) e) (h : ∀ b, X Tryz.prog ops lo ef K r (Sy C w0 D0 l (⟨b, t, cs⟩ :: H) R) U (pute d (.pointer (some ⟨b, 0, none⟩)) e)) : X Tryz.prog ops lo ef K (i :: r) (Sy C w0 D0 l H R) U e :=
  x_eff (K' := fun v w' => ∃ b, v = .pointer (some ⟨b, 0, none⟩) ∧ Sy C w0 D0 l (⟨b, t, cs⟩ :: H) R w') ho hef rfl (fun w hS => by
    have h1 := run_alloc hz w
    have h2 : (execOp (ev e) ⟨d, .alloc t, ty, ps, af, none⟩).run Tryz.prog w = .ok (.value (.pointer (some ⟨w.heap.size, 0, none⟩))) (w.alloc (.cells cs.toArray t)) := exv exec_alloc h1
    have h3 : ∃ b : Nat, (Value.pointer (some ⟨w.heap.size, 0, none⟩) = Value.pointer (some ⟨b, 0, none⟩)) ∧ Sy C w0 D0 l (⟨b, t, cs⟩ :: H) R (w.alloc (.cells cs.toArray t)) := ⟨w.heap.size, rfl, hS.alloc t cs⟩
    unfold eff
    rw [h2]
    exact h3) (fun v w' ⟨b, hb, hk⟩ => ⟨_, hk, hp b, by rw [hb]; exact h b⟩)
end
section
variable {C : Cx} {w0 : World} {D0 : Dom} {l : Wds} {H H' : List Bk} {R : Asr}
variable {ops : Array Oper} {lo ef : Nat → Bool} {K : (World → Prop) → Env → Prop} {i : Nat} {r : List Nat} {S : World → Prop} {U : List (Nat × Value)} {e : Env} {o : Oper} {v u : Value} {d : Option Nat} {ty : Nat} {ps : String} {af : Array Edge} {gd : Option (Nat × Bool)} {x y z : Operand}
end
def Cv (C : Cx) (f : Nat) (args : List Value) (l : Wds) (R : Asr) (v : Value) (l' : Wds) (R' : Asr) : Prop := Ct C f args.toArray l R fun u m D w => u = v ∧ m = l' ∧ R' D w
theorem Amb.sub {C : Cx} {w : World} {D D1 : Dom} (h : Amb C w D) (hs : ∀ k, D1 k → D k) : Amb C w D1 := ⟨fun k hk => h.lt k (hs k hk)⟩
theorem Cv.get {C : Cx} {l : Wds} {R : Asr} {f : Nat} {args : List Value} {v : Value} (h : ∀ w D, R D w → Calls Tryz.prog f args.toArray w fun e w' => e = .returned v ∧ w' = w) : Cv C f args l R v l R := fun w D ha hm hR =>
  (h w D hR).mono fun e w' ⟨he, hw⟩ => by
    subst he hw
    exact ⟨v, l, D, rfl, hm, ⟨rfl, rfl, hR⟩, Chg.refl _ _, fun k hk => ⟨ha.lt k hk, .inl hk⟩⟩
def Cn (C : Cx) (f : Nat) (args : List Value) (l : Wds) (R : Asr) (l' : Wds) (R' : Nat → Asr) : Prop := Ct C f args.toArray l R fun u m D w => ∃ q, u = .pointer (some ⟨q, 0, none⟩) ∧ m = l' ∧ R' q D w
section
variable {C : Cx} {w0 : World} {D0 : Dom} {l l' : Wds} {H H' : List Bk} {R R' : Asr}
theorem Sy.conv {w : World} (h : Sy C w0 D0 l H R w) (hl : Loc R') (hc : ∀ D w, R D w → R' D w) : Sy C w0 D0 l H R' w := by
  obtain ⟨D, h1, h2⟩ := h.rep
  have hb : ∀ (H : List Bk) (D : Dom), blks H R D w → blks H R' D w := by
    intro H
    induction H with
    | nil => exact fun D h => hc D w h
    | cons x H ih => exact fun D ⟨g1, D1, g2, g3, g4⟩ => ⟨g1, D1, ih D1 g2, g3, g4⟩
  exact ⟨h.amb, h.chg, h.mem, hl, D, hb H D h1, h2⟩
theorem Sy.callv {w : World} {f : Nat} {args : List Value} {v : Value} (h : Sy C w0 D0 l H R w) (hc : Cv C f args l R v l' R') (hl : Loc R') : Calls Tryz.prog f args.toArray w fun e w' => e = .returned v ∧ Sy C w0 D0 l' H R' w' := by
  refine (h.call hc (fun u m => ?_)).mono ?_
  · intro D w w' ⟨h1, h2, h3⟩ hk
    exact ⟨h1, h2, hl D w w' h3 hk⟩
  · rintro e w' ⟨u, rfl, m, ⟨D, w'', rfl, rfl, -⟩, hS⟩
    exact ⟨rfl, hS.conv hl (fun D w h => h.2.2)⟩
theorem Sy.calln {w : World} {f : Nat} {args : List Value} {R' : Nat → Asr} (h : Sy C w0 D0 l H R w) (hc : Cn C f args l R l' R') (hl : ∀ q, Loc (R' q)) : Calls Tryz.prog f args.toArray w fun e w' => ∃ q, e = .returned (.pointer (some ⟨q, 0, none⟩)) ∧ Sy C w0 D0 l' H (R' q) w' := by
  refine (h.call hc (fun u m => ?_)).mono ?_
  · intro D w w' ⟨q, h1, h2, h3⟩ hk
    exact ⟨q, h1, h2, hl q D w w' h3 hk⟩
  · rintro e w' ⟨u, rfl, m, ⟨D, w'', q, rfl, rfl, -⟩, hS⟩
    refine ⟨q, rfl, hS.conv (hl q) ?_⟩
    rintro D w ⟨q', h1, -, h3⟩
    have : q' = q := by simpa using h1.symm
    subst this
    exact h3
theorem Sy.drop {w : World} (h : Sy C w0 D0 l H R w) : Sy C w0 D0 l H emp w := by
  obtain ⟨D, h1, h2⟩ := h.rep
  obtain ⟨D', h3, h4⟩ := blks_drop h1
  exact ⟨h.amb, h.chg, h.mem, loc_emp, D', h3, fun k hk => h2 k (h4 k hk)⟩
variable {ops : Array Oper} {lo ef : Nat → Bool} {K : (World → Prop) → Env → Prop} {i : Nat} {r : List Nat} {S : World → Prop} {U : List (Nat × Value)} {e : Env} {o : Oper} {v u : Value} {d : Option Nat} {ty : Nat} {ps : String} {af : Array Edge} {gd : Option (Nat × Bool)} {x y z : Operand}
theorem xcq {f : Operand} {a : Array Operand} {tys : Array Nat} {g : Nat} {first captured args : List Value} (ho : ops[i]? = some ⟨d, .call ⟨.value f, a, tys⟩, ty, ps, af, gd⟩) (hef0 : (ef i, wantedE ops ⟨d, .call ⟨.value f, a, tys⟩, ty, ps, af, gd⟩ e) = (false, true)) (hf : evo e f = some (.func (.func g) first.toArray captured.toArray)) (ha : evos e a.toList = some args) (hg : fnB g = true)
    (hc : Cv C g (first ++ args ++ captured) l R v l R) (hl : Loc R)
    (h : X Tryz.prog ops lo ef K r (Sy C w0 D0 l H R) (bif lo i then (i, v) :: U else U) (pute d v e)) : X Tryz.prog ops lo ef K (i :: r) (Sy C w0 D0 l H R) U e := have ⟨hef, hw⟩ := tri2 hef0;
  x_still ho hef hw (fun w hS => eff_call hf ha hg ((hS.callv hc hl).mono fun e w' ⟨h1, h2⟩ => ⟨v, h1, rfl, h2⟩)) h
theorem xce {f : Operand} {a : Array Operand} {tys : Array Nat} {g : Nat} {first captured args : List Value} (ho : ops[i]? = some ⟨d, .call ⟨.value f, a, tys⟩, ty, ps, af, none⟩) (hef : ef i = true) (hf : evo e f = some (.func (.func g) first.toArray captured.toArray)) (ha : evos e a.toList = some args) (hg : fnB g = true)
    (hc : Cv C g (first ++ args ++ captured) l R v l' R') (hl : Loc R') (hp : Pend ops i U (Sy C w0 D0 l' H R') e)
    (h : X Tryz.prog ops lo ef K r (Sy C w0 D0 l' H R') U (pute d v e)) : X Tryz.prog ops lo ef K (i :: r) (Sy C w0 D0 l H R) U e :=
  x_eff (K' := fun u w' => u = v ∧ Sy C w0 D0 l' H R' w') ho hef rfl (fun w hS => eff_call hf ha hg ((hS.callv hc hl).mono fun e w' ⟨h1, h2⟩ => ⟨v, h1, rfl, h2⟩)) (fun u w' ⟨h1, h2⟩ => ⟨_, h2, hp, by rw [h1]; exact h⟩)
theorem xcn {f : Operand} {a : Array Operand} {tys : Array Nat} {g : Nat} {first captured args : List Value} {R' : Nat → Asr} (ho : ops[i]? = some ⟨d, .call ⟨.value f, a, tys⟩, ty, ps, af, none⟩) (hef : ef i = true) (hf : evo e f = some (.func (.func g) first.toArray captured.toArray)) (ha : evos e a.toList = some args) (hg : fnB g = true)
    (hc : Cn C g (first ++ args ++ captured) l emp l' R') (hl : ∀ q, Loc (R' q)) (hp : ∀ q, Pend ops i U (Sy C w0 D0 l' H (R' q)) e)
    (h : ∀ q, X Tryz.prog ops lo ef K r (Sy C w0 D0 l' H (R' q)) U (pute d (.pointer (some ⟨q, 0, none⟩)) e)) : X Tryz.prog ops lo ef K (i :: r) (Sy C w0 D0 l H R) U e :=
  x_eff (K' := fun u w' => ∃ q, u = .pointer (some ⟨q, 0, none⟩) ∧ Sy C w0 D0 l' H (R' q) w') ho hef rfl (fun w hS => eff_call hf ha hg ((hS.drop.calln hc hl).mono fun e w' ⟨q, h1, h2⟩ => ⟨_, h1, q, rfl, h2⟩)) (fun u w' ⟨q, h1, h2⟩ => ⟨_, h2, hp q, by rw [h1]; exact h q⟩)
end
section
variable {ops : Array Oper} {lo ef : Nat → Bool} {K : (World → Prop) → Env → Prop} {i : Nat} {r : List Nat} {S : World → Prop} {U : List (Nat × Value)} {e : Env} {o : Oper} {v u : Value} {d : Option Nat} {ty : Nat} {ps : String} {af : Array Edge} {gd : Option (Nat × Bool)} {x y z : Operand}
end
section
variable {ops : Array Oper} {lo ef : Nat → Bool} {K : (World → Prop) → Env → Prop} {i : Nat} {r : List Nat} {S : World → Prop} {U : List (Nat × Value)} {e : Env} {o : Oper} {v u : Value} {d : Option Nat} {ty : Nat} {ps : String} {af : Array Edge} {gd : Option (Nat × Bool)} {x y z : Operand}
end
section
variable {Q : Exit → Act → World → Prop} {n : Nat} {r : List Code} {S : World → Prop} {e : Env} {C : Cx} {w0 : World} {D0 : Dom} {l l' : Wds} {H H' H1 H2 H2' : List Bk} {R R' : Asr}
variable {ops : Array Oper} {lo ef : Nat → Bool} {K : (World → Prop) → Env → Prop} {i : Nat} {rr : List Nat} {U : List (Nat × Value)} {v u : Value} {d : Option Nat} {ty : Nat} {ps : String} {af : Array Edge} {gd : Option (Nat × Bool)} {x y z : Operand}
theorem xcb {f : Operand} {a : Array Operand} {tys : Array Nat} {g : Nat} {first captured args : List Value} (ho : ops[i]? = some ⟨d, .call ⟨.value f, a, tys⟩, ty, ps, af, none⟩) (hef : ef i = true) (hf : evo e f = some (.func (.func g) first.toArray captured.toArray)) (ha : evos e a.toList = some args) (hg : fnB g = true) (hH : H1 ++ H2 = H)
    (hc : Cv C g (first ++ args ++ captured) l (blks H2 R) v l' (blks H2' R')) (hl : Loc R') (hH' : H1 ++ H2' = H') (hp : Pend ops i U (Sy C w0 D0 l' H' R') e)
    (h : X Tryz.prog ops lo ef K rr (Sy C w0 D0 l' H' R') U (pute d v e)) : X Tryz.prog ops lo ef K (i :: rr) (Sy C w0 D0 l H R) U e :=
  x_eff (K' := fun u w' => u = v ∧ Sy C w0 D0 l' H' R' w') ho hef rfl (fun w hS => by
    subst hH hH'
    exact eff_call hf ha hg ((hS.fold.callv hc (loc_blks hl H2')).mono fun e w' ⟨h1, h2⟩ => ⟨v, h1, rfl, h2.unfold hl⟩)) (fun u w' ⟨h1, h2⟩ => ⟨_, h2, hp, by rw [h1]; exact h⟩)
theorem xcr {f : Operand} {a : Array Operand} {tys : Array Nat} {g : Nat} {first captured args : List Value} (ho : ops[i]? = some ⟨d, .call ⟨.value f, a, tys⟩, ty, ps, af, gd⟩) (hef0 : (ef i, wantedE ops ⟨d, .call ⟨.value f, a, tys⟩, ty, ps, af, gd⟩ e) = (false, true)) (hf : evo e f = some (.func (.func g) first.toArray captured.toArray)) (ha : evos e a.toList = some args) (hg : fnB g = true) (hH : H1 ++ H2 = H)
    (hc : Cv C g (first ++ args ++ captured) l (blks H2 R) v l (blks H2 R)) (hl : Loc R)
    (h : X Tryz.prog ops lo ef K rr (Sy C w0 D0 l H R) (bif lo i then (i, v) :: U else U) (pute d v e)) : X Tryz.prog ops lo ef K (i :: rr) (Sy C w0 D0 l H R) U e := have ⟨hef, hw⟩ := tri2 hef0;
  x_still ho hef hw (fun w hS => by
    subst hH
    exact eff_call hf ha hg ((hS.fold.callv hc (loc_blks hl H2)).mono fun e w' ⟨h1, h2⟩ => ⟨v, h1, rfl, h2.unfold hl⟩)) h
end
section
variable {C : Cx} {w0 : World} {D0 : Dom} {l : Wds} {H : List Bk} {R : Asr} {fn : Func} {n : Nat} {e : Env} {r : List Code} {Q : Value → Wds → Asr} {a t b off k u v : Nat} {cs : List Value}
end
section
variable {C : Cx} {w0 : World} {D0 : Dom} {l : Wds} {H : List Bk} {R : Asr}
variable {ops : Array Oper} {lo ef : Nat → Bool} {K : (World → Prop) → Env → Prop} {i : Nat} {r : List Nat} {U : List (Nat × Value)} {e : Env} {v : Value} {d : Option Nat} {ty : Nat} {ps : String} {af : Array Edge} {gd : Option (Nat × Bool)} {x : Operand}
end
section
variable {ops : Array Oper} {lo ef : Nat → Bool} {K : (World → Prop) → Env → Prop} {i : Nat} {r : List Nat} {S : World → Prop} {U : List (Nat × Value)} {e : Env} {d : Option Nat} {ty : Nat} {ps : String} {af : Array Edge} {gd : Option (Nat × Bool)} {x : Operand}
end
section
variable {C : Cx} {w0 : World} {D0 : Dom} {l l' : Wds} {H H' H1 H2 H2' : List Bk} {R R' : Asr}
variable {ops : Array Oper} {lo ef : Nat → Bool} {K : (World → Prop) → Env → Prop} {i : Nat} {r : List Nat} {S : World → Prop} {U : List (Nat × Value)} {e : Env} {v : Value} {d : Option Nat} {ty : Nat} {ps : String} {af : Array Edge} {gd : Option (Nat × Bool)} {x y z : Operand}
end
section
variable {C : Cx} {w0 : World} {D0 : Dom} {l l' : Wds} {H H' H1 H2 H2' : List Bk} {R R' : Asr}
variable {ops : Array Oper} {lo ef : Nat → Bool} {K : (World → Prop) → Env → Prop} {i : Nat} {r : List Nat} {S : World → Prop} {U : List (Nat × Value)} {e : Env} {v : Value} {d : Option Nat} {ty : Nat} {ps : String} {af : Array Edge} {gd : Option (Nat × Bool)} {x y z : Operand}
theorem xbs {t et n len : Nat} {parts : Array (Nat × Operand)} {zs0 zs : List Value} {pv : List (Nat × Value)} {cs : List Value} (ho : ops[i]? = some ⟨d, .buildSlice t len parts, ty, ps, af, none⟩) (hef : ef i = true) (hp : evop e parts.toList = some pv) (ht : slcB t et n = true) (hz : zer et = some zs0) (hn : 0 < len * n ∧ len * n ≤ 1000) (hzs : (List.range (len * n)).map (fun k => zs0.toArray[k % zs0.length]!) = zs) (hok : okParts (rows n len 0) zs.length pv = true) (hcs : bldv (rows n len 0) zs pv = cs)
    (hpd : ∀ b, Pend ops i U (Sy C w0 D0 l (⟨b, et, cs⟩ :: H) R) e) (h : ∀ b, X Tryz.prog ops lo ef K r (Sy C w0 D0 l (⟨b, et, cs⟩ :: H) R) U (pute d (.slice (some ⟨b, 0, none⟩) len len) e)) : X Tryz.prog ops lo ef K (i :: r) (Sy C w0 D0 l H R) U e := by
  subst hcs
  exact x_eff (K' := fun v w' => ∃ b, v = .slice (some ⟨b, 0, none⟩) len len ∧ Sy C w0 D0 l (⟨b, et, bldv (rows n len 0) zs pv⟩ :: H) R w') ho hef rfl (fun w hS => by
    have h1 : (parts.map fun (p : Nat × Operand) => (p.1, ev e p.2)) = pv.toArray := by
      cases parts with
      | mk l =>
        rw [← evop_of hp]
        simp
    have h2 := run_bsl (w := w) ht hz hn hzs hok
    rw [← h1] at h2
    have h3 : (execOp (ev e) ⟨d, .buildSlice t len parts, ty, ps, af, none⟩).run Tryz.prog w = .ok (.value (.slice (some ⟨w.heap.size, 0, none⟩) len len)) (w.alloc (.cells (bldv (rows n len 0) zs pv).toArray et)) := exv exec_bsl h2
    have h4 : ∃ b : Nat, (Value.slice (some ⟨w.heap.size, 0, none⟩) len len = Value.slice (some ⟨b, 0, none⟩) len len) ∧ Sy C w0 D0 l (⟨b, et, bldv (rows n len 0) zs pv⟩ :: H) R (w.alloc (.cells (bldv (rows n len 0) zs pv).toArray et)) := ⟨w.heap.size, rfl, hS.alloc et _⟩
    unfold eff
    rw [h3]
    exact h4) (fun v w' ⟨b, hb, hk⟩ => ⟨_, hk, hpd b, by rw [hb]; exact h b⟩)
end
section
variable {C : Cx} {w0 : World} {D0 : Dom} {l l' : Wds} {H H' H1 H2 H2' : List Bk} {R R' : Asr}
variable {ops : Array Oper} {lo ef : Nat → Bool} {K : (World → Prop) → Env → Prop} {i : Nat} {r : List Nat} {S : World → Prop} {U : List (Nat × Value)} {e : Env} {v : Value} {d : Option Nat} {ty : Nat} {ps : String} {af : Array Edge} {gd : Option (Nat × Bool)} {x y z : Operand}
end
section
variable {C : Cx} {w0 : World} {D0 : Dom} {l l' : Wds} {H H' H1 H2 H2' : List Bk} {R R' : Asr}
variable {ops : Array Oper} {i : Nat} {S : World → Prop} {U : List (Nat × Value)} {e : Env} {v : Value} {d : Option Nat} {ty : Nat} {ps : String} {af : Array Edge} {gd : Option (Nat × Bool)} {x y z : Operand} {k' : IntKind}
theorem pxld {jj : Nat} {t b off : Nat} {cs : List Value} (ho0 : (ops[i]?, wantedE ops ⟨d, .load t x, ty, ps, af, gd⟩ e) = (some ⟨d, .load t x, ty, ps, af, gd⟩, true)) (hx : evo e x = some (.pointer (some ⟨b, off, none⟩))) (h1 : one t = true) (hi : In b cs H) (hv : nth cs off = some v)
    (h : Pend ops jj U (Sy C w0 D0 l H R) e) : Pend ops jj ((i, v) :: U) (Sy C w0 D0 l H R) e := have ⟨ho, hw⟩ := tri2 ho0;
  pendv ho hw (fun w hS => by
    exact exv (m := Instr.loadAt t (ev e x)) rfl (by rw [ev_of hx]; exact run_loadVar_one h1 (hS.cell hi hv).1)) h
theorem pxcq {jj : Nat} {f : Operand} {a : Array Operand} {tys : Array Nat} {g : Nat} {first captured args : List Value} (ho0 : (ops[i]?, wantedE ops ⟨d, .call ⟨.value f, a, tys⟩, ty, ps, af, gd⟩ e) = (some ⟨d, .call ⟨.value f, a, tys⟩, ty, ps, af, gd⟩, true)) (hf : evo e f = some (.func (.func g) first.toArray captured.toArray)) (ha : evos e a.toList = some args) (hg : fnB g = true)
    (hc : Cv C g (first ++ args ++ captured) l R v l R) (hl : Loc R)
    (h : Pend ops jj U (Sy C w0 D0 l H R) e) : Pend ops jj ((i, v) :: U) (Sy C w0 D0 l H R) e := have ⟨ho, hw⟩ := tri2 ho0;
  pend_still ho hw (fun w hS => eff_call hf ha hg ((hS.callv hc hl).mono fun e w' ⟨h1, h2⟩ => ⟨v, h1, rfl, h2⟩)) h
end
section
variable {Q : Exit → Act → World → Prop} {n : Nat} {r r' : List Code} {S : World → Prop} {e : Env} {id id' : Nat} {c : Code}
section
variable {σ : Type} {S' : σ → World → Prop} {Kn : σ → Env} {μ : σ → Nat} {m : Nat}
end
end
section
variable {C : Cx} {w0 : World} {D0 : Dom} {l : Wds} {H : List Bk} {R : Asr} {fn : Func} {n : Nat} {e : Env} {Q : Value → Wds → Asr} {a t b off k u v : Nat} {cs : List Value}
theorem TE.ret1 {t : Nat} (hr : fn.results = #[.tmp t]) (hq : ∀ w D, blks H R D w → ∃ D', Q (lk e t) l D' w ∧ ∀ k, D' k → D k) : TE (bodyPost Tryz.prog fn (Fin C w0 D0 Q)) n .ret (Sy C w0 D0 l H R) e :=
  fun w a hS hF => ⟨hF.defers, _, results_tmp hr _ _ _, by rw [hF.at_ t]; exact hS.fin (hq w)⟩
end
section
variable {ops : Array Oper} {lo ef : Nat → Bool} {K : (World → Prop) → Env → Prop} {i : Nat} {r : List Nat} {S : World → Prop} {U : List (Nat × Value)} {e : Env} {v : Value} {d : Option Nat} {ty : Nat} {ps : String} {af : Array Edge} {gd : Option (Nat × Bool)} {x y : Operand}
end
section
variable {C : Cx} {w0 : World} {D0 : Dom} {l l' : Wds} {H H' Hr : List Bk} {R R' : Asr}
theorem Sy.rot {w : World} {x : Bk} (h : Sy C w0 D0 l (H ++ [x]) R w) : Sy C w0 D0 l (x :: H) R w := by
  obtain ⟨D, h1, h2⟩ := h.rep
  obtain ⟨D', h3, h4⟩ := blks_rot h1
  exact ⟨h.amb, h.chg, h.mem, h.loc, D', h3, fun k hk => h2 k (h4 k hk)⟩
theorem Sy.front {w : World} {x : Bk} (h : Sy C w0 D0 l (H ++ [x]) R w) : Sy C w0 D0 l H R w := by
  obtain ⟨D, h1, h2⟩ := h.rep
  obtain ⟨D', h3, h4⟩ := blks_front h1
  exact ⟨h.amb, h.chg, h.mem, h.loc, D', h3, fun k hk => h2 k (h4 k hk)⟩
variable {ops : Array Oper} {lo ef : Nat → Bool} {K : (World → Prop) → Env → Prop} {i : Nat} {r : List Nat} {S : World → Prop} {U : List (Nat × Value)} {e : Env} {v : Value} {d : Option Nat} {ty : Nat} {ps : String} {af : Array Edge}
theorem run_ap {t et n b k c b2 k2 c2 ty : Nat} {cs rest news rest2 : List Value} {w : World} (hS : Sy C w0 D0 l (Hr ++ [⟨b, et, cs ++ rest⟩]) R w) (ht : slcB t et n = true) (hcs : cs.length = k * n) (hc : cs.length + rest.length = c * n) (hi : In b2 (news ++ rest2) Hr) (hn : news.length = k2 * n) (hcell : ∀ v ∈ news, isCell v = true) (hk : 0 < k2 ∧ k + k2 ≤ 1000000 ∧ 0 < n ∧ n ≤ 100 ∧ k ≤ c) :
    ∃ q rs m w', (Builtin.append_ #[t, t] ty #[.slice (some ⟨b, 0, none⟩) k c, .slice (some ⟨b2, 0, none⟩) k2 c2]).run Tryz.prog w = .ok (.slice (some ⟨q, 0, none⟩) (k + k2) m) w' ∧ k + k2 ≤ m ∧ (cs ++ news).length + rs.length = m * n ∧ Sy C w0 D0 l (⟨q, et, cs ++ news ++ rs⟩ :: Hr) R w' := by
  obtain ⟨inf, z, hu, hin, hz, hs, hb, hzs⟩ := slcB_of ht
  have hnews : ∀ (w : World) (hS : Sy C w0 D0 l (Hr ++ [⟨b, et, cs ++ rest⟩]) R w) (j : Nat) (v : Value), news[j]? = some v → w.cell? ((⟨b2, 0, none⟩ : Addr).add j) = some v := fun w hS j v hj => by
    rw [addr_add, Nat.zero_add]
    exact (hS.cell (in_app hi) (nth_app_l (by rw [nth_eq]; exact hj))).1
  by_cases hle : k + k2 ≤ c
  · have hr : news.length ≤ rest.length := by
      have h1 : (k + k2) * n ≤ c * n := Nat.mul_le_mul_right _ hle
      rw [Nat.add_mul] at h1
      omega
    have hf := run_firstCells_some (P := Tryz.prog) w inf.size k2 ⟨b2, 0, none⟩ k2 c2 news (by rw [hs]; exact hn) (hnews w hS)
    rw [hs] at hf
    obtain ⟨w', g1, g2⟩ := Sy.sets news (k * n) hS (upd_last Hr b et (cs ++ rest) (fun cs => setcs cs (k * n) news) (fun _ _ => trivial)) (in_last Hr b et (cs ++ rest)) (by simp only [List.length_append]; omega) hcell
    refine ⟨b, rest.drop news.length, c, w', ?_, hle, ?_, ?_⟩
    · have g3 : (storeCells ((⟨b, 0, none⟩ : Addr).add (k * n)) news).run Tryz.prog w = .ok () w' := by
        rw [addr_add, storeCells_at]
        simpa using g1
      simp [Builtin.append_, run_underlying hu, sizeOf, typeInfo, hin, hz, Builtin.lenOf, hle, hf, hs, g3]
    · simp only [List.length_append, List.length_drop]
      omega
    · have e1 := setcs_app news cs rest hr
      rw [hcs] at e1
      have g4 := g2.rot
      simp only [e1] at g4
      exact g4
  · have hS2 := hS.drew
    have h48 : Builtin.nextslicecap (k + k2) c * inf.bytes ≤ 281474976710656 := by
      have h1 := nextslicecap_le (need := k + k2) (old := c) (by omega)
      have h2 : Builtin.nextslicecap (k + k2) c * inf.bytes ≤ 2 * (k + k2) * 1000 := Nat.mul_le_mul h1 hb
      omega
    have hr := run_append_grow (P := Tryz.prog) (w := w) t ty et inf z hu hin hz ⟨b, 0, none⟩ k c cs (by rw [hs]; exact hcs) (fun j v hj => by
      rw [addr_add, Nat.zero_add]
      exact (hS.cell (in_last Hr b et (cs ++ rest)) (nth_app_l (by rw [nth_eq]; exact hj))).1) ⟨b2, 0, none⟩ k2 c2 news (by rw [hs]; exact hn) (hnews w hS) (by omega) (by omega) h48
    have hge := grownCap_ge w (k + k2) c et
    refine ⟨w.heap.size, (Builtin.zeroCells z.cells (grownCap w (k + k2) c et - (k + k2))).toList, _, _, hr, hge, ?_, ?_⟩
    · have := zc_len (n := n) hzs hge
      simp only [List.length_append]
      rw [Nat.add_mul] at this
      omega
    · have := (hS2.front).alloc et (cs ++ news ++ (Builtin.zeroCells z.cells (grownCap w (k + k2) c et - (k + k2))).toList)
      have e1 : (cs ++ news ++ (Builtin.zeroCells z.cells (grownCap w (k + k2) c et - (k + k2))).toList).toArray = cs.toArray ++ news.toArray ++ Builtin.zeroCells z.cells (grownCap w (k + k2) c et - (k + k2)) := by
        apply Array.ext'
        simp
      rw [e1] at this
      exact this
end
section
variable {C : Cx} {w0 : World} {D0 : Dom} {l l' : Wds} {H H' Hr : List Bk} {R R' : Asr}
variable {ops : Array Oper} {lo ef : Nat → Bool} {K : (World → Prop) → Env → Prop} {i : Nat} {r : List Nat} {S : World → Prop} {U : List (Nat × Value)} {e : Env} {v : Value} {d : Option Nat} {ty : Nat} {ps : String} {af : Array Edge}
end
section
variable {C : Cx} {w0 : World} {D0 : Dom} {l l' : Wds} {H H' H2 : List Bk} {R R' : Asr}
variable {ops : Array Oper} {lo ef : Nat → Bool} {K : (World → Prop) → Env → Prop} {i : Nat} {rr : List Nat} {S : World → Prop} {U : List (Nat × Value)} {e : Env} {v : Value} {d : Option Nat} {ty : Nat} {ps : String} {af : Array Edge}
end
theorem Ct.sepF {C : Cx} {f : Nat} {args : Array Value} {l : Wds} {R F : Asr} {Q : Value → Wds → Asr} (h : Ct C f args l R Q) (hF : Loc F) : Ct C f args l (sep R F) fun v l' => sep (Q v l') F := by
  rintro w D ha hm ⟨D1, D2, h1, h2, h3, h4⟩
  refine (h w D1 (ha.sub fun k hk => (h4 k).2 (.inl hk)) hm h1).mono ?_
  rintro e w' ⟨v, l', D', rfl, hm', hQ, hc, hD'⟩
  have hF' : F D2 w' := hF D2 w w' h2 (fun k hk => hc.block k (ha.lt k ((h4 k).2 (.inr hk))) (by
    exact fun h5 => h3 k h5 hk))
  refine ⟨v, l', fun k => D' k ∨ D2 k, rfl, hm', ⟨D', D2, hQ, hF', fun k hk h5 => ?_, fun k => Iff.rfl⟩, hc.mono ?_, fun k hk => ?_⟩
  · rcases (hD' k hk).2 with h6 | h6
    · exact h3 k h6 h5
    · have := ha.lt k ((h4 k).2 (.inr h5)); omega
  · exact fun k h5 => (h4 k).2 (.inl h5)
  · rcases hk with hk | hk
    · exact ⟨(hD' k hk).1, (hD' k hk).2.imp (fun h5 => (h4 k).2 (.inl h5)) id⟩
    · have h5 := (h4 k).2 (.inr hk)
      exact ⟨Nat.lt_of_lt_of_le (ha.lt k h5) hc.size, .inl h5⟩
theorem Ct.mono {C : Cx} {f : Nat} {args : Array Value} {l : Wds} {R : Asr} {Q Q' : Value → Wds → Asr} (h : Ct C f args l R Q) (hq : ∀ v m D w, Q v m D w → ∃ D', Q' v m D' w ∧ ∀ k, D' k → D k) : Ct C f args l R Q' := fun w D ha hm hR =>
  (h w D ha hm hR).mono fun e w' ⟨v, l', D', he, hm', hQ, hc, hD⟩ => by
    obtain ⟨D2, h1, h2⟩ := hq v l' D' w' hQ
    exact ⟨v, l', D2, he, hm', h1, hc, fun k hk => hD k (h2 k hk)⟩
theorem Cv.sepF {C : Cx} {f : Nat} {args : List Value} {l l' : Wds} {R R' F : Asr} {v : Value} (h : Cv C f args l R v l' R') (hF : Loc F) : Cv C f args l (sep R F) v l' (sep R' F) :=
  (Ct.sepF h hF).mono fun u m D w ⟨D1, D2, ⟨h1, h2, h3⟩, h4, h5, h6⟩ => ⟨D, ⟨h1, h2, D1, D2, h3, h4, h5, h6⟩, fun _ hk => hk⟩
section
variable {C : Cx} {w0 : World} {D0 : Dom} {l l' : Wds} {H H' H1 H2 : List Bk} {R R' : Asr}
theorem Sy.reb {w : World} (h : Sy C w0 D0 l H R w) (hl : Loc R') (hk : Wk (blks H R) (blks H' R')) : Sy C w0 D0 l H' R' w := by
  obtain ⟨D, h1, h2⟩ := h.rep
  obtain ⟨D', h3, h4⟩ := hk D w h1
  exact ⟨h.amb, h.chg, h.mem, hl, D', h3, fun k hk => h2 k (h4 k hk)⟩
variable {Q : Exit → Act → World → Prop} {n : Nat} {r : List Code} {e : Env}
theorem T.reb (hl : Loc R') (hk : Wk (blks H R) (blks H' R')) (h : T Q n r (Sy C w0 D0 l H' R') e) : T Q n r (Sy C w0 D0 l H R) e := T.conv (fun w hS => hS.reb hl hk) h
end
section
variable {C : Cx} {w0 : World} {D0 : Dom} {l l' : Wds} {H H' H1 H2 H2' : List Bk} {R R' : Asr}
variable {ops : Array Oper} {lo ef : Nat → Bool} {K : (World → Prop) → Env → Prop} {i : Nat} {rr : List Nat} {U : List (Nat × Value)} {e : Env} {d : Option Nat} {ty : Nat} {ps : String} {af : Array Edge} {x y z : Operand}
end
def Ce {α : Type} (C : Cx) (f : Nat) (args : List Value) (l : Wds) (R : Asr) (v : α → Value) (l' : Wds) (P : α → Prop) (R' : α → Asr) : Prop := Ct C f args.toArray l R fun u m D w => ∃ a, u = v a ∧ P a ∧ m = l' ∧ R' a D w
theorem Ce.sepF {α : Type} {C : Cx} {f : Nat} {args : List Value} {l l' : Wds} {R F : Asr} {v : α → Value} {P : α → Prop} {R' : α → Asr} (h : Ce C f args l R v l' P R') (hF : Loc F) : Ce C f args l (sep R F) v l' P (fun a => sep (R' a) F) :=
  (Ct.sepF h hF).mono fun u m D w ⟨D1, D2, ⟨a, h1, h2, h3, h4⟩, h5, h6, h7⟩ => ⟨D, ⟨a, h1, h2, h3, D1, D2, h4, h5, h6, h7⟩, fun _ hk => hk⟩
theorem Ce.wk {α : Type} {C : Cx} {f : Nat} {args : List Value} {l l' : Wds} {R R1 : Asr} {v : α → Value} {P : α → Prop} {R' R2 : α → Asr} (h : Ce C f args l R v l' P R') (h1 : Wk R1 R) (h2 : ∀ a, Wk (R' a) (R2 a)) : Ce C f args l R1 v l' P R2 := fun w D ha hm hR => by
  obtain ⟨D1, g1, g2⟩ := h1 D w hR
  refine (h w D1 (ha.sub g2) hm g1).mono ?_
  rintro e w' ⟨u, m, D', he, hm', ⟨a, h3, h4, h5, h6⟩, hc, hD⟩
  obtain ⟨D2, g3, g4⟩ := h2 a D' w' h6
  exact ⟨u, m, D2, he, hm', ⟨a, h3, h4, h5, g3⟩, hc.mono (fun k hk => g2 k hk), fun k hk => (hD k (g4 k hk)).imp id (Or.imp (g2 k) id)⟩
section
variable {C : Cx} {w0 : World} {D0 : Dom} {l l' : Wds} {H H' H1 H2 H2' : List Bk} {R R' : Asr}
theorem Sy.calle {α : Type} {w : World} {f : Nat} {args : List Value} {v : α → Value} {P : α → Prop} {R' : α → Asr} (h : Sy C w0 D0 l H R w) (hc : Ce C f args l R v l' P R') (hl : ∀ a, Loc (R' a)) : Calls Tryz.prog f args.toArray w fun e w' => ∃ a, e = .returned (v a) ∧ P a ∧ Sy C w0 D0 l' H (R' a) w' := by
  refine (h.call hc (fun u m => exR3 hl)).mono ?_
  rintro e w' ⟨u, rfl, m, ⟨D, w'', a0, h1, h2, rfl, -⟩, hS⟩
  obtain ⟨a, hS⟩ := hS.exR (fun a => loc_and (loc_and (loc_and (hl a))))
  obtain ⟨h3, hS⟩ := hS.andR (loc_and (loc_and (hl a)))
  obtain ⟨h4, hS⟩ := hS.andR (loc_and (hl a))
  obtain ⟨-, hS⟩ := hS.andR (hl a)
  exact ⟨a, by rw [h3], h4, hS⟩
variable {ops : Array Oper} {lo ef : Nat → Bool} {K : (World → Prop) → Env → Prop} {i : Nat} {rr : List Nat} {S : World → Prop} {U : List (Nat × Value)} {e : Env} {d : Option Nat} {ty : Nat} {ps : String} {af : Array Edge} {gd : Option (Nat × Bool)} {x y z : Operand} {v : Value}
theorem xcnw {f : Operand} {a : Array Operand} {tys : Array Nat} {g : Nat} {first captured args : List Value} {R' : Nat → Asr} (ho : ops[i]? = some ⟨d, .call ⟨.value f, a, tys⟩, ty, ps, af, none⟩) (hef : ef i = true) (hf : evo e f = some (.func (.func g) first.toArray captured.toArray)) (ha : evos e a.toList = some args) (hg : fnB g = true)
    (hc : Cn C g (first ++ args ++ captured) l R l' R') (hl : ∀ q, Loc (R' q)) (hp : ∀ q, Pend ops i U (Sy C w0 D0 l' H (R' q)) e)
    (h : ∀ q, X Tryz.prog ops lo ef K rr (Sy C w0 D0 l' H (R' q)) U (pute d (.pointer (some ⟨q, 0, none⟩)) e)) : X Tryz.prog ops lo ef K (i :: rr) (Sy C w0 D0 l H R) U e :=
  x_eff (K' := fun u w' => ∃ q, u = .pointer (some ⟨q, 0, none⟩) ∧ Sy C w0 D0 l' H (R' q) w') ho hef rfl (fun w hS => eff_call hf ha hg ((hS.calln hc hl).mono fun e w' ⟨q, h1, h2⟩ => ⟨_, h1, q, rfl, h2⟩)) (fun u w' ⟨q, h1, h2⟩ => ⟨_, h2, hp q, by rw [h1]; exact h q⟩)
theorem xcx {α : Type} {f : Operand} {a : Array Operand} {tys : Array Nat} {g : Nat} {first captured args : List Value} {v : α → Value} {P : α → Prop} {B : α → List Bk} {Rz : α → Asr} (ho : ops[i]? = some ⟨d, .call ⟨.value f, a, tys⟩, ty, ps, af, none⟩) (hef : ef i = true) (hf : evo e f = some (.func (.func g) first.toArray captured.toArray)) (ha : evos e a.toList = some args) (hg : fnB g = true) (hH : H1 ++ H2 = H)
    (hc : Ce C g (first ++ args ++ captured) l (blks H2 R) v l' P (fun a => blks (B a) (Rz a))) (hl : ∀ a, Loc (Rz a)) (hp : ∀ a, P a → Pend ops i U (Sy C w0 D0 l' (H1 ++ B a) (Rz a)) e)
    (h : ∀ a, P a → X Tryz.prog ops lo ef K rr (Sy C w0 D0 l' (H1 ++ B a) (Rz a)) U (pute d (v a) e)) : X Tryz.prog ops lo ef K (i :: rr) (Sy C w0 D0 l H R) U e :=
  x_eff (K' := fun u w' => ∃ a, u = v a ∧ P a ∧ Sy C w0 D0 l' (H1 ++ B a) (Rz a) w') ho hef rfl (fun w hS => by
    subst hH
    exact eff_call hf ha hg ((hS.fold.calle hc (fun a => loc_blks (hl a) _)).mono fun e w' ⟨a, h1, h2, h3⟩ => ⟨_, h1, a, rfl, h2, h3.unfold (hl a)⟩)) (fun u w' ⟨a, h1, h2, h3⟩ => ⟨_, h3, hp a h2, by rw [h1]; exact h a h2⟩)
theorem xbs0 {t et n : Nat} (ho : ops[i]? = some ⟨d, .buildSlice t 0 #[], ty, ps, af, none⟩) (hef : ef i = true) (ht : slcB t et n = true) (hp : ∀ q, Pend ops i U (Sy C w0 D0 l (⟨q, et, []⟩ :: H) R) e)
    (h : ∀ q, X Tryz.prog ops lo ef K rr (Sy C w0 D0 l (⟨q, et, []⟩ :: H) R) U (pute d (.slice (some ⟨q, 0, none⟩) 0 0) e)) : X Tryz.prog ops lo ef K (i :: rr) (Sy C w0 D0 l H R) U e :=
  x_eff (K' := fun v w' => ∃ q, v = .slice (some ⟨q, 0, none⟩) 0 0 ∧ Sy C w0 D0 l (⟨q, et, []⟩ :: H) R w') ho hef rfl (fun w hS => by
    have h1 := run_bs0 ht w
    have h2 : (execOp (ev e) ⟨d, .buildSlice t 0 #[], ty, ps, af, none⟩).run Tryz.prog w = .ok (.value (.slice (some ⟨w.heap.size, 0, none⟩) 0 0)) (w.alloc (.cells #[] et)) := exv exec_bs0 h1
    have h3 : ∃ q : Nat, (Value.slice (some ⟨w.heap.size, 0, none⟩) 0 0 = Value.slice (some ⟨q, 0, none⟩) 0 0) ∧ Sy C w0 D0 l (⟨q, et, []⟩ :: H) R (w.alloc (.cells #[] et)) := ⟨w.heap.size, rfl, hS.alloc et []⟩
    unfold eff
    rw [h2]
    exact h3) (fun v w' ⟨q, h1, h2⟩ => ⟨_, h2, hp q, by rw [h1]; exact h q⟩)
theorem xapz {a : Array Operand} {t et n q0 b k c : Nat} {cs rest : List Value} (ho : ops[i]? = some ⟨d, .call ⟨.builtin .append, a, #[t, t]⟩, ty, ps, af, none⟩) (hef : ef i = true) (ha : evos e a.toList = some [.slice (some ⟨q0, 0, none⟩) 0 0, .slice (some ⟨b, 0, none⟩) k c]) (ht : slcB t et n = true) (hi : In b (cs ++ rest) H) (hk : 0 < k ∧ k ≤ 1000000) (hcs : cs.length = k * n)
    (hp : ∀ q rs, Pend ops i U (Sy C w0 D0 l (⟨q, et, cs ++ rs⟩ :: H) R) e) (h : ∀ q rs m, (k ≤ m ∧ cs.length + rs.length = m * n) ∧ m ≤ maxLen → X Tryz.prog ops lo ef K rr (Sy C w0 D0 l (⟨q, et, cs ++ rs⟩ :: H) R) U (pute d (.slice (some ⟨q, 0, none⟩) k m) e)) : X Tryz.prog ops lo ef K (i :: rr) (Sy C w0 D0 l H R) U e :=
  x_eff (K' := fun v w' => ∃ q rs m, v = .slice (some ⟨q, 0, none⟩) k m ∧ ((k ≤ m ∧ cs.length + rs.length = m * n) ∧ m ≤ maxLen) ∧ Sy C w0 D0 l (⟨q, et, cs ++ rs⟩ :: H) R w') ho hef rfl (fun w hS => by
    obtain ⟨inf, z, hu, hin, hz, hs, hb, hzs⟩ := slcB_of ht
    have h48 : Builtin.nextslicecap (0 + k) 0 * inf.bytes ≤ 281474976710656 := by
      have h1 := nextslicecap_le (need := 0 + k) (old := 0) (by omega)
      have h2 : Builtin.nextslicecap (0 + k) 0 * inf.bytes ≤ 2 * (0 + k) * 1000 := Nat.mul_le_mul h1 hb
      omega
    have hr := run_append_grow (P := Tryz.prog) (w := w) t ty et inf z hu hin hz ⟨q0, 0, none⟩ 0 0 [] (by simp) (fun j v hj => by simp at hj) ⟨b, 0, none⟩ k c cs (by rw [hs]; exact hcs) (fun j v hj => by
      rw [addr_add, Nat.zero_add]
      exact (hS.cell hi (nth_app_l (by rw [nth_eq]; exact hj))).1) (by omega) (by omega) h48
    have hge := grownCap_ge w (0 + k) 0 et
    rw [Nat.zero_add] at hr hge
    have hr' := run_builtin (d := d) (ps := ps) (af := af) (gd := none) (b := .append) (ty := ty) (tys := #[t, t]) ha (by
      simp only [builtin, Sem.run_bind]
      rw [hr]
      rfl)
    refine eff_val hr' ⟨w.heap.size, (Builtin.zeroCells z.cells (grownCap w k 0 et - k)).toList, _, rfl, ⟨⟨hge, ?_⟩, grownCap_le_maxLen w k 0 et (by unfold maxLen; omega)⟩, ?_⟩
    · rw [hcs]
      exact zc_len hzs hge
    · have := hS.drew.alloc et (cs ++ (Builtin.zeroCells z.cells (grownCap w k 0 et - k)).toList)
      have e1 : (cs ++ (Builtin.zeroCells z.cells (grownCap w k 0 et - k)).toList).toArray = ([] : List Value).toArray ++ cs.toArray ++ Builtin.zeroCells z.cells (grownCap w k 0 et - k) := by
        apply Array.ext'
        simp
      rw [e1] at this
      exact this) (fun v w' ⟨q, rs, m, hv, hm, hk⟩ => ⟨_, hk, hp q rs, by rw [hv]; exact h q rs m hm⟩)
end
section
variable {C : Cx} {w0 : World} {D0 : Dom} {l l' : Wds} {H H' H1 H2 H2' : List Bk} {R R' : Asr}
variable {ops : Array Oper} {lo ef : Nat → Bool} {K : (World → Prop) → Env → Prop} {i : Nat} {rr : List Nat} {S : World → Prop} {U : List (Nat × Value)} {e : Env} {d : Option Nat} {ty : Nat} {ps : String} {af : Array Edge} {gd : Option (Nat × Bool)} {x y z : Operand} {v : Value}
end
section
variable {Q : Exit → Act → World → Prop} {n : Nat} {r : List Code} {S : World → Prop} {e : Env}
end
section
variable {C : Cx} {w0 : World} {D0 : Dom} {l l' : Wds} {H H' Hr H1 H2 : List Bk} {R R' : Asr}
variable {ops : Array Oper} {lo ef : Nat → Bool} {K : (World → Prop) → Env → Prop} {i : Nat} {rr : List Nat} {U : List (Nat × Value)} {e : Env} {d : Option Nat} {ty : Nat} {ps : String} {af : Array Edge} {gd : Option (Nat × Bool)} {x y z : Operand} {v u : Value}
theorem run_apM {t et n b k c b2 k2 c2 ty : Nat} {cs rest news rest2 : List Value} {w : World} (hS : Sy C w0 D0 l (Hr ++ [⟨b, et, cs ++ rest⟩]) R w) (ht : slcB t et n = true) (hcs : cs.length = k * n) (hc : cs.length + rest.length = c * n) (hi : In b2 (news ++ rest2) Hr) (hn : news.length = k2 * n) (hcell : ∀ v ∈ news, isCell v = true) (hk : 0 < k2 ∧ k + k2 ≤ 1000000 ∧ 0 < n ∧ n ≤ 100 ∧ k ≤ c) :
    ∃ q rs m w', (Builtin.append_ #[t, t] ty #[.slice (some ⟨b, 0, none⟩) k c, .slice (some ⟨b2, 0, none⟩) k2 c2]).run Tryz.prog w = .ok (.slice (some ⟨q, 0, none⟩) (k + k2) m) w' ∧ k + k2 ≤ m ∧ (cs ++ news).length + rs.length = m * n ∧ Sy C w0 D0 l (⟨q, et, cs ++ news ++ rs⟩ :: Hr) R w' ∧ (c ≤ maxLen → m ≤ maxLen) := by
  obtain ⟨inf, z, hu, hin, hz, hs, hb, hzs⟩ := slcB_of ht
  have hnews : ∀ (w : World) (hS : Sy C w0 D0 l (Hr ++ [⟨b, et, cs ++ rest⟩]) R w) (j : Nat) (v : Value), news[j]? = some v → w.cell? ((⟨b2, 0, none⟩ : Addr).add j) = some v := fun w hS j v hj => by
    rw [addr_add, Nat.zero_add]
    exact (hS.cell (in_app hi) (nth_app_l (by rw [nth_eq]; exact hj))).1
  by_cases hle : k + k2 ≤ c
  · have hr : news.length ≤ rest.length := by
      have h1 : (k + k2) * n ≤ c * n := Nat.mul_le_mul_right _ hle
      rw [Nat.add_mul] at h1
      omega
    have hf := run_firstCells_some (P := Tryz.prog) w inf.size k2 ⟨b2, 0, none⟩ k2 c2 news (by rw [hs]; exact hn) (hnews w hS)
    rw [hs] at hf
    obtain ⟨w', g1, g2⟩ := Sy.sets news (k * n) hS (upd_last Hr b et (cs ++ rest) (fun cs => setcs cs (k * n) news) (fun _ _ => trivial)) (in_last Hr b et (cs ++ rest)) (by simp only [List.length_append]; omega) hcell
    refine ⟨b, rest.drop news.length, c, w', ?_, hle, ?_, ?_, id⟩
    · have g3 : (storeCells ((⟨b, 0, none⟩ : Addr).add (k * n)) news).run Tryz.prog w = .ok () w' := by
        rw [addr_add, storeCells_at]
        simpa using g1
      simp [Builtin.append_, run_underlying hu, sizeOf, typeInfo, hin, hz, Builtin.lenOf, hle, hf, hs, g3]
    · simp only [List.length_append, List.length_drop]
      omega
    · have e1 := setcs_app news cs rest hr
      rw [hcs] at e1
      have g4 := g2.rot
      simp only [e1] at g4
      exact g4
  · have hS2 := hS.drew
    have h48 : Builtin.nextslicecap (k + k2) c * inf.bytes ≤ 281474976710656 := by
      have h1 := nextslicecap_le (need := k + k2) (old := c) (by omega)
      have h2 : Builtin.nextslicecap (k + k2) c * inf.bytes ≤ 2 * (k + k2) * 1000 := Nat.mul_le_mul h1 hb
      omega
    have hr := run_append_grow (P := Tryz.prog) (w := w) t ty et inf z hu hin hz ⟨b, 0, none⟩ k c cs (by rw [hs]; exact hcs) (fun j v hj => by
      rw [addr_add, Nat.zero_add]
      exact (hS.cell (in_last Hr b et (cs ++ rest)) (nth_app_l (by rw [nth_eq]; exact hj))).1) ⟨b2, 0, none⟩ k2 c2 news (by rw [hs]; exact hn) (hnews w hS) (by omega) (by omega) h48
    have hge := grownCap_ge w (k + k2) c et
    refine ⟨w.heap.size, (Builtin.zeroCells z.cells (grownCap w (k + k2) c et - (k + k2))).toList, _, _, hr, hge, ?_, ?_, fun _ => grownCap_le_maxLen w (k + k2) c et (by unfold maxLen; omega)⟩
    · have := zc_len (n := n) hzs hge
      simp only [List.length_append]
      rw [Nat.add_mul] at this
      omega
    · have := (hS2.front).alloc et (cs ++ news ++ (Builtin.zeroCells z.cells (grownCap w (k + k2) c et - (k + k2))).toList)
      have e1 : (cs ++ news ++ (Builtin.zeroCells z.cells (grownCap w (k + k2) c et - (k + k2))).toList).toArray = cs.toArray ++ news.toArray ++ Builtin.zeroCells z.cells (grownCap w (k + k2) c et - (k + k2)) := by
        apply Array.ext'
        simp
      rw [e1] at this
      exact this
theorem run_apv {t et n k b2 k2 c2 ty : Nat} {v : Value} {cs news rest2 : List Value} {B : List Bk} {w : World} (hv : SlV et n v k cs B) (hS : Sy C w0 D0 l (Hr ++ B) R w) (ht : slcB t et n = true) (hi : In b2 (news ++ rest2) Hr) (hn : news.length = k2 * n) (hcell : ∀ v ∈ news, isCell v = true) (hk : 0 < k2 ∧ k + k2 ≤ 1000000 ∧ 0 < n ∧ n ≤ 100) :
    ∃ v' B' w', (Builtin.append_ #[t, t] ty #[v, .slice (some ⟨b2, 0, none⟩) k2 c2]).run Tryz.prog w = .ok v' w' ∧ SlV et n v' (k + k2) (cs ++ news) B' ∧ Sy C w0 D0 l (Hr ++ B') R w' := by
  rcases hv with ⟨rfl, rfl, rfl, rfl⟩ | ⟨b, rest, m, rfl, h1, h2, h3, h4, rfl⟩
  · rw [List.append_nil] at hS
    obtain ⟨inf, z, hu, hin, hz, hs, hb, hzs⟩ := slcB_of ht
    have hc := run_append_nil (P := Tryz.prog) (w := w) t ty et inf z hu hin hz ⟨b2, 0, none⟩ k2 c2 news (by rw [hs]; exact hn) (fun j v hj => by
      rw [addr_add, Nat.zero_add]
      exact (hS.cell hi (nth_app_l (by rw [nth_eq]; exact hj))).1) hk.1 (by omega) (by
        have : k2 * inf.bytes ≤ 1000000 * 1000 := Nat.mul_le_mul (by omega) hb
        omega)
    have hge := grownCap_ge w k2 0 et
    have hS2 := hS.drew.alloc et (news ++ (Builtin.zeroCells z.cells (grownCap w k2 0 et - k2)).toList)
    have e1 : (news ++ (Builtin.zeroCells z.cells (grownCap w k2 0 et - k2)).toList).toArray = news.toArray ++ Builtin.zeroCells z.cells (grownCap w k2 0 et - k2) := by
      apply Array.ext'
      simp
    rw [e1] at hS2
    refine ⟨_, [⟨w.heap.size, et, news ++ (Builtin.zeroCells z.cells (grownCap w k2 0 et - k2)).toList⟩], _, hc, .inr ⟨w.heap.size, (Builtin.zeroCells z.cells (grownCap w k2 0 et - k2)).toList, grownCap w k2 0 et, by rw [Nat.zero_add], by omega, grownCap_le_maxLen w k2 0 et (by unfold maxLen; omega), ?_, by rw [List.nil_append, Nat.zero_add]; exact hn, rfl⟩, ?_⟩
    · rw [List.nil_append, hn]
      exact zc_len hzs hge
    · obtain ⟨D, g1, g2⟩ := hS2.rep
      obtain ⟨D', g3, g4⟩ := blks_rotl g1
      exact ⟨hS2.amb, hS2.chg, hS2.mem, hS2.loc, D', g3, fun k hk => g2 k (g4 k hk)⟩
  · obtain ⟨q, rs, m', w', g1, g2, g3, g4, g5⟩ := run_apM (ty := ty) (c2 := c2) hS ht h4 h3 hi hn hcell ⟨hk.1, hk.2.1, hk.2.2.1, hk.2.2.2, h1⟩
    refine ⟨_, [⟨q, et, cs ++ news ++ rs⟩], w', g1, .inr ⟨q, rs, m', rfl, g2, g5 h2, g3, by rw [List.length_append, h4, hn, Nat.add_mul], rfl⟩, ?_⟩
    obtain ⟨D, m1, m2⟩ := g4.rep
    obtain ⟨D', m3, m4⟩ := blks_rotl m1
    exact ⟨g4.amb, g4.chg, g4.mem, g4.loc, D', m3, fun k hk => m2 k (m4 k hk)⟩
set_option maxRecDepth 20000 in
theorem xapv {a : Array Operand} {t et n k b2 k2 c2 kn : Nat} {cs news rest2 cn : List Value} {B : List Bk} (hv : SlV et n v k cs B) (ho : ops[i]? = some ⟨d, .call ⟨.builtin .append, a, #[t, t]⟩, ty, ps, af, none⟩) (hef : ef i = true) (ha : evos e a.toList = some [v, .slice (some ⟨b2, 0, none⟩) k2 c2]) (ht : slcB t et n = true) (hH : Hr ++ B = H)
    (hi : In b2 (news ++ rest2) Hr) (hn : news.length = k2 * n) (hcell : ∀ v ∈ news, isCell v = true) (hk : 0 < k2 ∧ k + k2 ≤ 1000000 ∧ 0 < n ∧ n ≤ 100) (hcn : cs ++ news = cn) (hkn : k + k2 = kn)
    (hp : ∀ B', Pend ops i U (Sy C w0 D0 l (Hr ++ B') R) e) (h : ∀ v' B', SlV et n v' kn cn B' → X Tryz.prog ops lo ef K rr (Sy C w0 D0 l (Hr ++ B') R) U (pute d v' e)) : X Tryz.prog ops lo ef K (i :: rr) (Sy C w0 D0 l H R) U e := by
  subst hcn hkn hH
  exact x_eff (K' := fun v' w' => ∃ B', SlV et n v' (k + k2) (cs ++ news) B' ∧ Sy C w0 D0 l (Hr ++ B') R w') ho hef rfl (fun w hS => by
    obtain ⟨v', B', w', h1, h2, h3⟩ := run_apv (ty := ty) (c2 := c2) hv hS ht hi hn hcell hk
    have hr := run_builtin (d := d) (ps := ps) (af := af) (gd := none) (b := .append) (ty := ty) (tys := #[t, t]) ha (v := v') (w := w) (w' := w') (by
      simp only [builtin, Sem.run_bind]
      rw [h1]
      rfl)
    exact eff_val hr ⟨B', h2, h3⟩) (fun v' w' ⟨B', h2, h3⟩ => ⟨_, h3, hp B', h v' B' h2⟩)
theorem xlenv {a : Array Operand} {t et n k : Nat} {cs : List Value} {B : List Bk} (hv : SlV et n v k cs B) (ho : ops[i]? = some ⟨d, .call ⟨.builtin .len, a, #[t]⟩, ty, ps, af, gd⟩) (hef0 : (ef i, wantedE ops ⟨d, .call ⟨.builtin .len, a, #[t]⟩, ty, ps, af, gd⟩ e) = (false, true)) (ha : evos e a.toList = some [v]) (ht : undIs t dSlice = true)
    (h : X Tryz.prog ops lo ef K rr (Sy C w0 D0 l H R) (bif lo i then (i, .int .i64 k) :: U else U) (pute d (.int .i64 k) e)) : X Tryz.prog ops lo ef K (i :: rr) (Sy C w0 D0 l H R) U e := by
  have ⟨hef, hw⟩ := tri2 hef0
  obtain ⟨p, m, rfl⟩ := hv.len
  exact xlen ho hef0 ha ht h
set_option maxRecDepth 20000 in
theorem xms {t et : Nat} {j k : IntKind} {n : Nat} {N : Int} (hn : n ≤ 1000000) (hN : N = (n : Int)) (ho : ops[i]? = some ⟨d, .makeSlice t x y, ty, ps, af, none⟩) (hef : ef i = true) (hx : evo e x = some (.int j N)) (hy : evo e y = some (.int k N)) (ht : slcB t et 1 = true) (hz : zer et = some [u])
    (hp : ∀ b, Pend ops i U (Sy C w0 D0 l (⟨b, et, List.replicate n u⟩ :: H) R) e) (h : ∀ b, X Tryz.prog ops lo ef K rr (Sy C w0 D0 l (⟨b, et, List.replicate n u⟩ :: H) R) U (pute d (slv b n n) e)) : X Tryz.prog ops lo ef K (i :: rr) (Sy C w0 D0 l H R) U e :=
  x_eff (K' := fun v w' => ∃ b, v = slv b n n ∧ Sy C w0 D0 l (⟨b, et, List.replicate n u⟩ :: H) R w') ho hef rfl (fun w hS => by
    have h2 : (execOp (ev e) ⟨d, .makeSlice t x y, ty, ps, af, none⟩).run Tryz.prog w = .ok (.value (slv w.heap.size n n)) (w.alloc (.cells (List.replicate n u).toArray et)) := exv (m := Instr.makeSlice t (ev e x) (ev e y)) rfl (by rw [ev_of hx, ev_of hy, hN]; exact run_ms hn ht hz w)
    have h3 : ∃ b : Nat, (slv w.heap.size n n = slv b n n) ∧ Sy C w0 D0 l (⟨b, et, List.replicate n u⟩ :: H) R (w.alloc (.cells (List.replicate n u).toArray et)) := ⟨w.heap.size, rfl, hS.alloc et _⟩
    unfold eff
    rw [h2]
    exact h3) (fun v w' ⟨b, h1, h2⟩ => ⟨_, h2, hp b, by rw [h1]; exact h b⟩)
theorem xstw {t g a a' : Nat} {ws : List Int} {v v' : Int} (haa : a' = a) (hvv : v' = v) (ho : ops[i]? = some ⟨none, .store t x y, ty, ps, af, none⟩) (hef : ef i = true) (hx : evo e x = some (.pointer (some ⟨g, a', none⟩))) (hy : evo e y = some (.int .u64 v')) (h1 : one t = true) (hH : H1 ++ ⟨g, 90, u64s ws⟩ :: H2 = H) (ha : a < ws.length)
    (hp : Pend ops i U (Sy C w0 D0 l (H1 ++ ⟨g, 90, u64s (ws.set a v)⟩ :: H2) R) e) (h : X Tryz.prog ops lo ef K rr (Sy C w0 D0 l (H1 ++ ⟨g, 90, u64s (ws.set a v)⟩ :: H2) R) U e) : X Tryz.prog ops lo ef K (i :: rr) (Sy C w0 D0 l H R) U e := by
  subst hH haa hvv
  have hu := upd_mid (H2 := H2) (b := g) (t := 90) (cs := u64s ws) H1 (fun cs => setc cs a' (.int .u64 v'))
  simp only [u64s_set] at hu
  exact xst ho hef hx hy h1 rfl (in_mid H1) (nth_u64 ha) hu hp h
end
section
variable {ops : Array Oper} {lo ef : Nat → Bool} {K : (World → Prop) → Env → Prop} {i : Nat} {rr : List Nat} {S : World → Prop} {U : List (Nat × Value)} {e : Env} {d : Option Nat} {ty : Nat} {ps : String} {af : Array Edge} {gd : Option (Nat × Bool)} {x y z : Operand} {v : Value}
end
end Go.Proofs.YtmpcfamcbaineaaGreat.Mo.Mp
namespace Go.Proofs.YtmpcfamcbaineaaGreat.Mo
open Go.RowKit Go.Proofs.YtmpcfamcbaineaaGreat.Mo
set_option linter.unusedVariables false
set_option linter.unusedSimpArgs false
def Cfg.cells (c : Cfg) : List Value := [.int .i64 c.k0, .int .i64 c.k1, .int .i64 c.k2, .int .i64 c.k3, .int .i64 c.k4, .int .i64 c.markers, .int .i64 c.mutators, .int .i64 c.deque, .int .i64 c.chunk, .int .i64 c.buffer, .int .i64 c.roots, .int .i64 c.sweep]
theorem g21 : fnB 21 = true := by kernel_rfl
theorem g22 : fnB 22 = true := by kernel_rfl
end Go.Proofs.YtmpcfamcbaineaaGreat.Mo
namespace Go.Proofs.YtmpcfamcbaineaaGreat.Mo.Mp
open Go.RowKit Go.Proofs.YtmpcfamcbaineaaGreat.Mo
set_option linter.unusedVariables false
set_option linter.unusedSimpArgs false
set_option maxHeartbeats 20000000 in
theorem ct_bound {C : Cx} {l : Wds} {n : Int} (h0 : 0 ≤ n ∧ n ≤ 12) : Cv C 49 [.int .i64 n] l emp (.int .i64 n) l emp := by
 refine Ct.of (vs := [.int .i64 n]) Tryz.func49 rfl Tryz.ntmps49 (by simp) loc_emp ?_
 intro w0 D0
 refine T.seq <| tx [0] nf Z Z <| xas Z Z Z <| X.nil <| T.seq <| tx [0,1,2,3] nf Z Z <| xmv Z Z Z <| xmax Z Z Z <| xmin Z Z Z <| xas Z Z Z <| X.nil <| T.ret1 Z (fun W D h => ?_)
 rw [show min (max n 0) 12 = n by omega]
 exact ⟨D, ⟨rfl, rfl, h⟩, fun _ hk => hk⟩
set_option maxHeartbeats 20000000 in
theorem ct_sis {C : Cx} {l : Wds} {k : Int} (hk : 0 ≤ k ∧ k < 5) : Cv C 79 [.int .i64 k] l emp (.bool true) l emp := by
 refine Ct.of (vs := [.int .i64 k]) Tryz.func79 rfl Tryz.ntmps79 (by simp) loc_emp ?_
 intro w0 D0
 refine T.seq <| tx [0] nf Z Z <| xas Z Z Z <| X.nil <| T.seq <| tx [0,1,2,3,4,5,6] nf Z Z <| xmv Z Z Z <| xcm (c := true) Z Z Z Z Z (decide_eq_true hk.1) <| xmv Z Z Z <| xmv Z Z Z <| xcm (c := true) Z Z Z Z Z (decide_eq_true hk.2) <| xpk Z Z Z Z ?_
 refine xas Z Z Z <| X.nil <| T.ret1 Z (fun W D h => ?_)
 exact ⟨D, ⟨rfl, rfl, h⟩, fun _ hk => hk⟩
set_option maxHeartbeats 20000000 in
theorem ct_Slots {C : Cx} {l : Wds} {k : Int} (hk : 0 ≤ k ∧ k < 5) : Cv C 50 [.int .i64 k] l emp (.int .i64 (slotsOf k)) l emp := by
 refine Ct.of (vs := [.int .i64 k]) Tryz.func50 rfl Tryz.ntmps50 (by simp) loc_emp ?_
 intro w0 D0
 refine T.seq <| tx [0] nf Z Z <| xas Z Z Z <| X.nil <| T.seq <| T.seq <| tx [0,1,2] nf Z Z <| xmv Z Z Z <| xcq Z Z Z Z g79 (ct_sis hk) loc_emp <| xnot Z Z Z <| X.nil <| T.no Z <| T.skip <| T.seq <| tx [0,1,2] nf Z Z <| xmv Z Z Z ?_
 refine xbo Z Z Z Z gd_shl (run_shl hk) <| xas Z Z Z <| X.nil <| T.ret1 Z (fun W D h => ?_)
 exact ⟨D, ⟨rfl, rfl, h⟩, fun _ hk => hk⟩
set_option maxHeartbeats 20000000 in
theorem ct_inT {C : Cx} {l : Wds} {n a b : Int} (h : a ≤ n ∧ n ≤ b) : Cv C 21 [.int .i64 n, .int .i64 a, .int .i64 b] l emp (.bool true) l emp := by
 refine Ct.of (vs := [.int .i64 n, .int .i64 a, .int .i64 b]) Tryz.func21 rfl Tryz.ntmps21 (by simp) loc_emp ?_
 intro w0 D0
 refine T.seq <| tx [0] nf Z Z <| xas Z Z Z <| X.nil <| T.seq <| tx [0,1,2,3,4,5,6,7,8] nf Z Z <| xmv Z Z Z <| xmv Z Z Z <| xcm (c := true) Z Z Z Z Z (decide_eq_true h.1) <| xmv Z Z Z <| xmv Z Z Z <| xmv Z Z Z ?_
 refine xcm (c := true) Z Z Z Z Z (decide_eq_true h.2) <| xpk Z Z Z Z <| xas Z Z Z <| X.nil <| T.ret1 Z (fun W D h => ?_)
 exact ⟨D, ⟨rfl, rfl, h⟩, fun _ hk => hk⟩
set_option maxHeartbeats 20000000 in
theorem ct_inF {C : Cx} {l : Wds} {n a b : Int} (h : ¬ (a ≤ n ∧ n ≤ b)) : Cv C 21 [.int .i64 n, .int .i64 a, .int .i64 b] l emp (.bool false) l emp := by
 refine Ct.of (vs := [.int .i64 n, .int .i64 a, .int .i64 b]) Tryz.func21 rfl Tryz.ntmps21 (by simp) loc_emp ?_
 intro w0 D0
 refine T.seq <| tx [0] nf Z Z <| xas Z Z Z <| X.nil <| T.seq ?_
 by_cases hq : a ≤ n
 ·skip
  refine tx [0,1,2,3,4,5,6,7,8] nf Z Z <| xmv Z Z Z <| xmv Z Z Z <| xcm (c := true) Z Z Z Z Z (decide_eq_true hq) <| xmv Z Z Z <| xmv Z Z Z <| xmv Z Z Z <| xcm (c := false) Z Z Z Z Z (decide_eq_false (show ¬ n ≤ b by omega)) <| xpk Z Z Z Z <| xas Z Z Z ?_
  refine X.nil <| T.ret1 Z (fun W D h => ?_)
  exact ⟨D, ⟨rfl, rfl, h⟩, fun _ hk => hk⟩
 ·skip
  refine tx [0,1,2,3,4,5,6,7,8] nf Z Z <| xmv Z Z Z <| xmv Z Z Z <| xcm (c := false) Z Z Z Z Z (decide_eq_false (show ¬ n ≥ a by omega)) <| xmv Z Z Z <| x_skip Z Z Z <| x_skip Z Z Z <| x_skip Z Z Z <| xpk Z Z Z Z <| xas Z Z Z <| X.nil ?_
  refine T.ret1 Z (fun W D h => ?_)
  exact ⟨D, ⟨rfl, rfl, h⟩, fun _ hk => hk⟩
set_option maxHeartbeats 20000000 in
theorem ct_Nodes {C : Cx} {l : Wds} {c : Cfg} (hs : c.Sm) : Cv C 22 [.agg #[.int .i64 c.k0, .int .i64 c.k1, .int .i64 c.k2, .int .i64 c.k3, .int .i64 c.k4]] l emp (.int .i64 c.nodes) l emp := by
 obtain ⟨h0, h1, h2, h3, h4⟩ := hs
 refine Ct.of (vs := [.agg #[.int .i64 c.k0, .int .i64 c.k1, .int .i64 c.k2, .int .i64 c.k3, .int .i64 c.k4]]) Tryz.func22 rfl Tryz.ntmps22 (by simp) loc_emp ?_
 intro w0 D0
 refine T.seq <| tx [0,1] (ct [0]) Z Z <| xbx Z Z Z Z (fun _ => pend0) (fun b0 => ?_)
 refine xas Z Z Z <| X.nil <| T.seq <| tx [0] nf Z Z <| xas Z Z Z <| X.nil <| T.seq <| T.seq <| tx [0,1] nf Z Z <| xlda Z Z Z m22 .z Z <| xmv Z Z Z <| X.nil <| T.block <| T.unroll 6 <| T.seq <| tx [0] nf Z Z <| xcm (c := true) Z Z Z Z Z (by decide) ?_
 refine X.nil <| T.seq <| T.yes Z <| T.skip <| T.seq <| T.block <| T.seq <| tx [0,1] nf Z Z <| xid Z Z Z Z a22 o3 (by decide) Z <| xas Z Z Z <| X.nil <| tx [0,1,2,3,4] nf Z Z <| xmv Z Z Z <| xmv Z Z Z <| xcq Z Z Z Z g49 (ct_bound (by assumption)) loc_emp ?_
 refine xarc Z Z Z Z Z (IntWalk.i64_in _ (by simp only [ari]; omega)) <| xas Z Z Z <| X.nil <| T.blk_end <| tx [0,1] nf Z Z <| xarc (c := 1) Z Z Z Z Z (by decide) <| xmv Z Z Z <| X.nil <| T.un_end <| T.seq <| tx [0] nf Z Z ?_
 refine xcm (c := true) Z Z Z Z Z (by decide) <| X.nil <| T.seq <| T.yes Z <| T.skip <| T.seq <| T.block <| T.seq <| tx [0,1] nf Z Z <| xid Z Z Z Z a22 o3 (by decide) Z <| xas Z Z Z <| X.nil <| tx [0,1,2,3,4] nf Z Z <| xmv Z Z Z <| xmv Z Z Z ?_
 refine xcq Z Z Z Z g49 (ct_bound (by assumption)) loc_emp <| xarc Z Z Z Z Z (IntWalk.i64_in _ (by simp only [ari]; omega)) <| xas Z Z Z <| X.nil <| T.blk_end <| tx [0,1] nf Z Z <| xarc (c := 2) Z Z Z Z Z (by decide) <| xmv Z Z Z <| X.nil <| T.un_end ?_
 refine T.seq <| tx [0] nf Z Z <| xcm (c := true) Z Z Z Z Z (by decide) <| X.nil <| T.seq <| T.yes Z <| T.skip <| T.seq <| T.block <| T.seq <| tx [0,1] nf Z Z <| xid Z Z Z Z a22 o3 (by decide) Z <| xas Z Z Z <| X.nil <| tx [0,1,2,3,4] nf Z Z <| xmv Z Z Z ?_
 refine xmv Z Z Z <| xcq Z Z Z Z g49 (ct_bound (by assumption)) loc_emp <| xarc Z Z Z Z Z (IntWalk.i64_in _ (by simp only [ari]; omega)) <| xas Z Z Z <| X.nil <| T.blk_end <| tx [0,1] nf Z Z <| xarc (c := 3) Z Z Z Z Z (by decide) <| xmv Z Z Z <| X.nil ?_
 refine T.un_end <| T.seq <| tx [0] nf Z Z <| xcm (c := true) Z Z Z Z Z (by decide) <| X.nil <| T.seq <| T.yes Z <| T.skip <| T.seq <| T.block <| T.seq <| tx [0,1] nf Z Z <| xid Z Z Z Z a22 o3 (by decide) Z <| xas Z Z Z <| X.nil <| tx [0,1,2,3,4] nf Z Z ?_
 refine xmv Z Z Z <| xmv Z Z Z <| xcq Z Z Z Z g49 (ct_bound (by assumption)) loc_emp <| xarc Z Z Z Z Z (IntWalk.i64_in _ (by simp only [ari]; omega)) <| xas Z Z Z <| X.nil <| T.blk_end <| tx [0,1] nf Z Z <| xarc (c := 4) Z Z Z Z Z (by decide) <| xmv Z Z Z ?_
 refine X.nil <| T.un_end <| T.seq <| tx [0] nf Z Z <| xcm (c := true) Z Z Z Z Z (by decide) <| X.nil <| T.seq <| T.yes Z <| T.skip <| T.seq <| T.block <| T.seq <| tx [0,1] nf Z Z <| xid Z Z Z Z a22 o3 (by decide) Z <| xas Z Z Z <| X.nil ?_
 refine tx [0,1,2,3,4] nf Z Z <| xmv Z Z Z <| xmv Z Z Z <| xcq Z Z Z Z g49 (ct_bound (by assumption)) loc_emp <| xarc Z Z Z Z Z (IntWalk.i64_in _ (by simp only [ari]; omega)) <| xas Z Z Z <| X.nil <| T.blk_end <| tx [0,1] nf Z Z ?_
 refine xarc (c := 5) Z Z Z Z Z (by decide) <| xmv Z Z Z <| X.nil <| T.un_end <| T.seq <| tx [0] nf Z Z <| xcm (c := false) Z Z Z Z Z (by decide) <| X.nil <| T.seq <| T.no Z <| T.exit ?_
 refine TE.un_exit ?_
 refine TE.blk_exit ?_
 refine T.seq <| tx [0,1] nf Z Z <| xmv Z Z Z <| xas Z Z Z <| X.nil <| T.ret1 Z (fun W D h => ?_)
 obtain ⟨D1, h5, h6⟩ := blks_tail h
 refine ⟨D1, ⟨?_, rfl, h5⟩, h6⟩
 show Value.int .i64 (0 + c.k0 + c.k1 + c.k2 + c.k3 + c.k4) = _
 rw [Int.zero_add]
 rfl
set_option maxHeartbeats 20000000 in
theorem ct_Class {C : Cx} {l : Wds} {c : Cfg} {v : Int} (hs : c.Sm) (hv : -1000 ≤ v ∧ v ≤ 1000) : Cv C 51 [.agg #[.int .i64 c.k0, .int .i64 c.k1, .int .i64 c.k2, .int .i64 c.k3, .int .i64 c.k4], .int .i64 v] l emp (.int .i64 (c.class_ v)) l emp := by
 obtain ⟨h0, h1, h2, h3, h4⟩ := hs
 refine Ct.of (vs := [.agg #[.int .i64 c.k0, .int .i64 c.k1, .int .i64 c.k2, .int .i64 c.k3, .int .i64 c.k4], .int .i64 v]) Tryz.func51 rfl Tryz.ntmps51 (by simp) loc_emp ?_
 intro w0 D0
 refine T.seq <| tx [0,1] (ct [0]) Z Z <| xbx Z Z Z Z (fun _ => pend0) (fun b0 => ?_)
 refine xas Z Z Z <| X.nil <| T.seq <| T.seq <| tx [0,1] nf Z Z <| xmv Z Z Z <| xcm Z Z Z Z Z Z <| X.nil <| T.cond Z ?_ ?_
 ·intro hb0
  refine T.seq <| tx [0] nf Z Z <| xas Z Z Z <| X.nil <| T.ret1 Z (fun W D h => ?_)
  obtain ⟨D1, h5, h6⟩ := blks_tail h
  rw [show c.class_ v = _ from if_pos (of_decide_eq_true hb0)]
  exact ⟨D1, ⟨rfl, rfl, h5⟩, h6⟩
 ·intro hb0
  refine T.skip <| T.seq <| T.seq <| tx [0,1] nf Z Z <| xlda Z Z Z m22 .z Z <| xmv Z Z Z <| X.nil <| T.block <| T.unroll 6 <| T.seq <| tx [0] nf Z Z <| xcm (c := true) Z Z Z Z Z (by decide) <| X.nil <| T.seq <| T.yes Z <| T.skip <| T.seq <| T.block ?_
  refine T.seq <| tx [0,1,2,3] nf Z Z <| xmv Z Z Z <| xid Z Z Z Z a22 o3 (by decide) Z <| xas Z Z Z <| xas Z Z Z <| X.nil <| T.seq <| T.seq <| tx [0,1,2,3] nf Z Z <| xmv Z Z Z <| xmv Z Z Z <| xcq Z Z Z Z g49 (ct_bound (by assumption)) loc_emp ?_
  refine xcm Z Z Z Z Z Z <| X.nil <| T.cond Z ?_ ?_
  ·intro hb1
   refine T.seq <| tx [0,1] nf Z Z <| xmv Z Z Z <| xas Z Z Z <| X.nil <| T.rets ?_
   refine TE.blk_ret ?_
   refine TE.un_ret ?_
   refine TE.blk_ret ?_
   refine TE.ret1 rfl (fun W D h => ?_)
   obtain ⟨D1, h5, h6⟩ := blks_tail h
   rw [show c.class_ v = _ from (if_neg (of_decide_eq_false hb0)).trans (if_pos (of_decide_eq_true hb1))]
   exact ⟨D1, ⟨rfl, rfl, h5⟩, h6⟩
  ·intro hb1
   refine T.skip <| tx [0,1,2,3,4] nf Z Z <| xmv Z Z Z <| xmv Z Z Z <| xcq Z Z Z Z g49 (ct_bound (by assumption)) loc_emp <| xarc Z Z Z Z Z (IntWalk.i64_in _ (by simp only [ari]; omega)) <| xas Z Z Z <| X.nil <| T.blk_end <| tx [0,1] nf Z Z ?_
   refine xarc (c := 1) Z Z Z Z Z (by decide) <| xmv Z Z Z <| X.nil <| T.un_end <| T.seq <| tx [0] nf Z Z <| xcm (c := true) Z Z Z Z Z (by decide) <| X.nil <| T.seq <| T.yes Z <| T.skip <| T.seq <| T.block <| T.seq <| tx [0,1,2,3] nf Z Z <| xmv Z Z Z ?_
   refine xid Z Z Z Z a22 o3 (by decide) Z <| xas Z Z Z <| xas Z Z Z <| X.nil <| T.seq <| T.seq <| tx [0,1,2,3] nf Z Z <| xmv Z Z Z <| xmv Z Z Z <| xcq Z Z Z Z g49 (ct_bound (by assumption)) loc_emp <| xcm Z Z Z Z Z Z <| X.nil <| T.cond Z ?_ ?_
   ·intro hb2
    refine T.seq <| tx [0,1] nf Z Z <| xmv Z Z Z <| xas Z Z Z <| X.nil <| T.rets ?_
    refine TE.blk_ret ?_
    refine TE.un_ret ?_
    refine TE.blk_ret ?_
    refine TE.ret1 rfl (fun W D h => ?_)
    obtain ⟨D1, h5, h6⟩ := blks_tail h
    rw [show c.class_ v = _ from (if_neg (of_decide_eq_false hb0)).trans ((if_neg (of_decide_eq_false hb1)).trans (if_pos (of_decide_eq_true hb2)))]
    exact ⟨D1, ⟨rfl, rfl, h5⟩, h6⟩
   ·intro hb2
    refine T.skip <| tx [0,1,2,3,4] nf Z Z <| xmv Z Z Z <| xmv Z Z Z <| xcq Z Z Z Z g49 (ct_bound (by assumption)) loc_emp <| xarc Z Z Z Z Z (IntWalk.i64_in _ (by simp only [ari]; omega)) <| xas Z Z Z <| X.nil <| T.blk_end <| tx [0,1] nf Z Z ?_
    refine xarc (c := 2) Z Z Z Z Z (by decide) <| xmv Z Z Z <| X.nil <| T.un_end <| T.seq <| tx [0] nf Z Z <| xcm (c := true) Z Z Z Z Z (by decide) <| X.nil <| T.seq <| T.yes Z <| T.skip <| T.seq <| T.block <| T.seq <| tx [0,1,2,3] nf Z Z <| xmv Z Z Z ?_
    refine xid Z Z Z Z a22 o3 (by decide) Z <| xas Z Z Z <| xas Z Z Z <| X.nil <| T.seq <| T.seq <| tx [0,1,2,3] nf Z Z <| xmv Z Z Z <| xmv Z Z Z <| xcq Z Z Z Z g49 (ct_bound (by assumption)) loc_emp <| xcm Z Z Z Z Z Z <| X.nil <| T.cond Z ?_ ?_
    ·intro hb3
     refine T.seq <| tx [0,1] nf Z Z <| xmv Z Z Z <| xas Z Z Z <| X.nil <| T.rets ?_
     refine TE.blk_ret ?_
     refine TE.un_ret ?_
     refine TE.blk_ret ?_
     refine TE.ret1 rfl (fun W D h => ?_)
     obtain ⟨D1, h5, h6⟩ := blks_tail h
     rw [show c.class_ v = _ from (if_neg (of_decide_eq_false hb0)).trans ((if_neg (of_decide_eq_false hb1)).trans ((if_neg (of_decide_eq_false hb2)).trans (if_pos (of_decide_eq_true hb3))))]
     exact ⟨D1, ⟨rfl, rfl, h5⟩, h6⟩
    ·intro hb3
     refine T.skip <| tx [0,1,2,3,4] nf Z Z <| xmv Z Z Z <| xmv Z Z Z <| xcq Z Z Z Z g49 (ct_bound (by assumption)) loc_emp <| xarc Z Z Z Z Z (IntWalk.i64_in _ (by simp only [ari]; omega)) <| xas Z Z Z <| X.nil <| T.blk_end <| tx [0,1] nf Z Z ?_
     refine xarc (c := 3) Z Z Z Z Z (by decide) <| xmv Z Z Z <| X.nil <| T.un_end <| T.seq <| tx [0] nf Z Z <| xcm (c := true) Z Z Z Z Z (by decide) <| X.nil <| T.seq <| T.yes Z <| T.skip <| T.seq <| T.block <| T.seq <| tx [0,1,2,3] nf Z Z <| xmv Z Z Z ?_
     refine xid Z Z Z Z a22 o3 (by decide) Z <| xas Z Z Z <| xas Z Z Z <| X.nil <| T.seq <| T.seq <| tx [0,1,2,3] nf Z Z <| xmv Z Z Z <| xmv Z Z Z <| xcq Z Z Z Z g49 (ct_bound (by assumption)) loc_emp <| xcm Z Z Z Z Z Z <| X.nil <| T.cond Z ?_ ?_
     ·intro hb4
      refine T.seq <| tx [0,1] nf Z Z <| xmv Z Z Z <| xas Z Z Z <| X.nil <| T.rets ?_
      refine TE.blk_ret ?_
      refine TE.un_ret ?_
      refine TE.blk_ret ?_
      refine TE.ret1 rfl (fun W D h => ?_)
      obtain ⟨D1, h5, h6⟩ := blks_tail h
      rw [show c.class_ v = _ from (if_neg (of_decide_eq_false hb0)).trans ((if_neg (of_decide_eq_false hb1)).trans ((if_neg (of_decide_eq_false hb2)).trans ((if_neg (of_decide_eq_false hb3)).trans (if_pos (of_decide_eq_true hb4)))))]
      exact ⟨D1, ⟨rfl, rfl, h5⟩, h6⟩
     ·intro hb4
      refine T.skip <| tx [0,1,2,3,4] nf Z Z <| xmv Z Z Z <| xmv Z Z Z <| xcq Z Z Z Z g49 (ct_bound (by assumption)) loc_emp <| xarc Z Z Z Z Z (IntWalk.i64_in _ (by simp only [ari]; omega)) <| xas Z Z Z <| X.nil <| T.blk_end <| tx [0,1] nf Z Z ?_
      refine xarc (c := 4) Z Z Z Z Z (by decide) <| xmv Z Z Z <| X.nil <| T.un_end <| T.seq <| tx [0] nf Z Z <| xcm (c := true) Z Z Z Z Z (by decide) <| X.nil <| T.seq <| T.yes Z <| T.skip <| T.seq <| T.block <| T.seq <| tx [0,1,2,3] nf Z Z ?_
      refine xmv Z Z Z <| xid Z Z Z Z a22 o3 (by decide) Z <| xas Z Z Z <| xas Z Z Z <| X.nil <| T.seq <| T.seq <| tx [0,1,2,3] nf Z Z <| xmv Z Z Z <| xmv Z Z Z <| xcq Z Z Z Z g49 (ct_bound (by assumption)) loc_emp <| xcm Z Z Z Z Z Z <| X.nil ?_
      refine T.cond Z ?_ ?_
      ·intro hb5
       refine T.seq <| tx [0,1] nf Z Z <| xmv Z Z Z <| xas Z Z Z <| X.nil <| T.rets ?_
       refine TE.blk_ret ?_
       refine TE.un_ret ?_
       refine TE.blk_ret ?_
       refine TE.ret1 rfl (fun W D h => ?_)
       obtain ⟨D1, h5, h6⟩ := blks_tail h
       rw [show c.class_ v = _ from (if_neg (of_decide_eq_false hb0)).trans ((if_neg (of_decide_eq_false hb1)).trans ((if_neg (of_decide_eq_false hb2)).trans ((if_neg (of_decide_eq_false hb3)).trans ((if_neg (of_decide_eq_false hb4)).trans (if_pos (of_decide_eq_true hb5))))))]
       exact ⟨D1, ⟨rfl, rfl, h5⟩, h6⟩
      ·intro hb5
       refine T.skip <| tx [0,1,2,3,4] nf Z Z <| xmv Z Z Z <| xmv Z Z Z <| xcq Z Z Z Z g49 (ct_bound (by assumption)) loc_emp <| xarc Z Z Z Z Z (IntWalk.i64_in _ (by simp only [ari]; omega)) <| xas Z Z Z <| X.nil <| T.blk_end <| tx [0,1] nf Z Z ?_
       refine xarc (c := 5) Z Z Z Z Z (by decide) <| xmv Z Z Z <| X.nil <| T.un_end <| T.seq <| tx [0] nf Z Z <| xcm (c := false) Z Z Z Z Z (by decide) <| X.nil <| T.seq <| T.no Z <| T.exit ?_
       refine TE.un_exit ?_
       refine TE.blk_exit ?_
       refine T.seq <| tx [0] nf Z Z <| xas Z Z Z <| X.nil <| T.ret1 Z (fun W D h => ?_)
       obtain ⟨D1, h5, h6⟩ := blks_tail h
       rw [show c.class_ v = _ from (if_neg (of_decide_eq_false hb0)).trans ((if_neg (of_decide_eq_false hb1)).trans ((if_neg (of_decide_eq_false hb2)).trans ((if_neg (of_decide_eq_false hb3)).trans ((if_neg (of_decide_eq_false hb4)).trans (if_neg (of_decide_eq_false hb5))))))]
       exact ⟨D1, ⟨rfl, rfl, h5⟩, h6⟩
set_option maxHeartbeats 20000000 in
theorem ct_Check {C : Cx} {l : Wds} {c : Cfg} (hs : c.Sm) : Cv C 6 [.agg c.cells.toArray] l emp (.int .i64 (if c.ok = true then 0 else 21)) l emp := by
 obtain ⟨h0, h1, h2, h3, h4⟩ := hs
 refine Ct.of (vs := [.agg c.cells.toArray]) Tryz.func6 rfl Tryz.ntmps6 (by simp) loc_emp ?_
 intro w0 D0
 refine T.seq <| tx [0,1] (ct [0]) Z Z <| xbx Z Z Z Z (fun _ => pend0) (fun b0 => ?_)
 refine xas Z Z Z <| X.nil <| T.seq <| tx [0] nf Z Z <| xas Z Z Z <| X.nil <| T.seq <| T.seq <| tx [0,1,2] nf Z Z <| xfa Z Z Z f24_0 <| xlda Z Z Z m22 .z Z <| xmv Z Z Z <| X.nil <| T.block <| T.unroll 6 <| T.seq <| tx [0] nf Z Z ?_
 refine xcm (c := true) Z Z Z Z Z (by decide) <| X.nil <| T.seq <| T.yes Z <| T.skip <| T.seq <| T.block <| T.seq <| tx [0,1] nf Z Z <| xid Z Z Z Z a22 o3 (by decide) Z <| xas Z Z Z <| X.nil <| T.seq <| tx [0,1,2,3] nf Z Z <| xmv Z Z Z <| xmv Z Z Z ?_
 refine xcq Z Z Z Z g21 (ct_inT (by assumption)) loc_emp <| xnott Z Z Z <| X.nil <| T.no Z <| T.skip <| T.blk_end <| tx [0,1] nf Z Z <| xarc (c := 1) Z Z Z Z Z (by decide) <| xmv Z Z Z <| X.nil <| T.un_end <| T.seq <| tx [0] nf Z Z ?_
 refine xcm (c := true) Z Z Z Z Z (by decide) <| X.nil <| T.seq <| T.yes Z <| T.skip <| T.seq <| T.block <| T.seq <| tx [0,1] nf Z Z <| xid Z Z Z Z a22 o3 (by decide) Z <| xas Z Z Z <| X.nil <| T.seq <| tx [0,1,2,3] nf Z Z <| xmv Z Z Z <| xmv Z Z Z ?_
 refine xcq Z Z Z Z g21 (ct_inT (by assumption)) loc_emp <| xnott Z Z Z <| X.nil <| T.no Z <| T.skip <| T.blk_end <| tx [0,1] nf Z Z <| xarc (c := 2) Z Z Z Z Z (by decide) <| xmv Z Z Z <| X.nil <| T.un_end <| T.seq <| tx [0] nf Z Z ?_
 refine xcm (c := true) Z Z Z Z Z (by decide) <| X.nil <| T.seq <| T.yes Z <| T.skip <| T.seq <| T.block <| T.seq <| tx [0,1] nf Z Z <| xid Z Z Z Z a22 o3 (by decide) Z <| xas Z Z Z <| X.nil <| T.seq <| tx [0,1,2,3] nf Z Z <| xmv Z Z Z <| xmv Z Z Z ?_
 refine xcq Z Z Z Z g21 (ct_inT (by assumption)) loc_emp <| xnott Z Z Z <| X.nil <| T.no Z <| T.skip <| T.blk_end <| tx [0,1] nf Z Z <| xarc (c := 3) Z Z Z Z Z (by decide) <| xmv Z Z Z <| X.nil <| T.un_end <| T.seq <| tx [0] nf Z Z ?_
 refine xcm (c := true) Z Z Z Z Z (by decide) <| X.nil <| T.seq <| T.yes Z <| T.skip <| T.seq <| T.block <| T.seq <| tx [0,1] nf Z Z <| xid Z Z Z Z a22 o3 (by decide) Z <| xas Z Z Z <| X.nil <| T.seq <| tx [0,1,2,3] nf Z Z <| xmv Z Z Z <| xmv Z Z Z ?_
 refine xcq Z Z Z Z g21 (ct_inT (by assumption)) loc_emp <| xnott Z Z Z <| X.nil <| T.no Z <| T.skip <| T.blk_end <| tx [0,1] nf Z Z <| xarc (c := 4) Z Z Z Z Z (by decide) <| xmv Z Z Z <| X.nil <| T.un_end <| T.seq <| tx [0] nf Z Z ?_
 refine xcm (c := true) Z Z Z Z Z (by decide) <| X.nil <| T.seq <| T.yes Z <| T.skip <| T.seq <| T.block <| T.seq <| tx [0,1] nf Z Z <| xid Z Z Z Z a22 o3 (by decide) Z <| xas Z Z Z <| X.nil <| T.seq <| tx [0,1,2,3] nf Z Z <| xmv Z Z Z <| xmv Z Z Z ?_
 refine xcq Z Z Z Z g21 (ct_inT (by assumption)) loc_emp <| xnott Z Z Z <| X.nil <| T.no Z <| T.skip <| T.blk_end <| tx [0,1] nf Z Z <| xarc (c := 5) Z Z Z Z Z (by decide) <| xmv Z Z Z <| X.nil <| T.un_end <| T.seq <| tx [0] nf Z Z ?_
 refine xcm (c := false) Z Z Z Z Z (by decide) <| X.nil <| T.seq <| T.no Z <| T.exit ?_
 refine TE.un_exit ?_
 refine TE.blk_exit ?_
 refine T.seq <| T.seq ?_
 by_cases q0 : 1 ≤ c.markers ∧ c.markers ≤ 4
 ·skip
  by_cases q1 : 1 ≤ c.mutators ∧ c.mutators ≤ 4
  ·skip
   by_cases q2 : 2 ≤ c.deque ∧ c.deque ≤ 8
   ·skip
    by_cases q3 : 1 ≤ c.chunk ∧ c.chunk ≤ 16
    ·skip
     by_cases q4 : 1 ≤ c.buffer ∧ c.buffer ≤ 4
     ·skip
      by_cases q5 : 1 ≤ c.roots ∧ c.roots ≤ 8
      ·skip
       by_cases q6 : 1 ≤ c.sweep ∧ c.sweep ≤ 16
       ·skip
        by_cases q7 : c.nodes = 0
        ·skip
         refine tx [0,1,2,3,4,5,6,7,8,9,10,11,12,13,14,15,16,17,18,19,20,21,22,23,24,25,26,27,28,29,30,31,32,33,34,35,36,37,38,39,40,41,42,43,44,45,46,47,48,49,50,51,52] nf Z Z <| xmv Z Z Z <| xfa Z Z Z f24_1 <| xld Z Z Z o3 .z Z ?_
         refine xcq Z Z Z Z g21 (ct_inT q0) loc_emp <| xnott Z Z Z <| xmv Z Z Z <| xmv Z Z Z <| xfa Z Z Z f24_2 <| xld Z Z Z o3 .z Z <| xcq Z Z Z Z g21 (ct_inT q1) loc_emp <| xnott Z Z Z <| xpkf Z Z Z Z <| xmv Z Z Z <| xmv Z Z Z <| xfa Z Z Z f24_3 ?_
         refine xld Z Z Z o3 .z Z <| xcq Z Z Z Z g21 (ct_inT q2) loc_emp <| xnott Z Z Z <| xpkf Z Z Z Z <| xmv Z Z Z <| xmv Z Z Z <| xfa Z Z Z f24_4 <| xld Z Z Z o3 .z Z <| xcq Z Z Z Z g21 (ct_inT q3) loc_emp <| xnott Z Z Z <| xpkf Z Z Z Z ?_
         refine xmv Z Z Z <| xmv Z Z Z <| xfa Z Z Z f24_5 <| xld Z Z Z o3 .z Z <| xcq Z Z Z Z g21 (ct_inT q4) loc_emp <| xnott Z Z Z <| xpkf Z Z Z Z <| xmv Z Z Z <| xmv Z Z Z <| xfa Z Z Z f24_6 <| xld Z Z Z o3 .z Z ?_
         refine xcq Z Z Z Z g21 (ct_inT q5) loc_emp <| xnott Z Z Z <| xpkf Z Z Z Z <| xmv Z Z Z <| xmv Z Z Z <| xfa Z Z Z f24_7 <| xld Z Z Z o3 .z Z <| xcq Z Z Z Z g21 (ct_inT q6) loc_emp <| xnott Z Z Z <| xpkf Z Z Z Z <| xmv Z Z Z ?_
         refine xfa Z Z Z f24_0 <| xlda Z Z Z m22 .z Z <| xcq Z Z Z Z g22 (ct_Nodes ⟨h0, h1, h2, h3, h4⟩) loc_emp <| xcm (c := true) Z Z Z Z Z (beq_iff_eq.2 q7) <| xpkf Z Z Z Z <| X.nil <| T.yes Z <| T.seq <| tx [0] nf Z Z <| xas Z Z Z <| X.nil ?_
         refine T.ret1 Z (fun W D h => ?_)
         obtain ⟨D1, h5, h6⟩ := blks_tail h
         rw [show (if c.ok = true then (0 : Int) else 21) = _ from if_neg (fun hq => by have hq := Cfg.ok_iff.1 hq; unfold Cfg.nodes at *; omega)]
         exact ⟨D1, ⟨rfl, rfl, h5⟩, h6⟩
        ·skip
         refine tx [0,1,2,3,4,5,6,7,8,9,10,11,12,13,14,15,16,17,18,19,20,21,22,23,24,25,26,27,28,29,30,31,32,33,34,35,36,37,38,39,40,41,42,43,44,45,46,47,48,49,50,51,52] nf Z Z <| xmv Z Z Z <| xfa Z Z Z f24_1 <| xld Z Z Z o3 .z Z ?_
         refine xcq Z Z Z Z g21 (ct_inT q0) loc_emp <| xnott Z Z Z <| xmv Z Z Z <| xmv Z Z Z <| xfa Z Z Z f24_2 <| xld Z Z Z o3 .z Z <| xcq Z Z Z Z g21 (ct_inT q1) loc_emp <| xnott Z Z Z <| xpkf Z Z Z Z <| xmv Z Z Z <| xmv Z Z Z <| xfa Z Z Z f24_3 ?_
         refine xld Z Z Z o3 .z Z <| xcq Z Z Z Z g21 (ct_inT q2) loc_emp <| xnott Z Z Z <| xpkf Z Z Z Z <| xmv Z Z Z <| xmv Z Z Z <| xfa Z Z Z f24_4 <| xld Z Z Z o3 .z Z <| xcq Z Z Z Z g21 (ct_inT q3) loc_emp <| xnott Z Z Z <| xpkf Z Z Z Z ?_
         refine xmv Z Z Z <| xmv Z Z Z <| xfa Z Z Z f24_5 <| xld Z Z Z o3 .z Z <| xcq Z Z Z Z g21 (ct_inT q4) loc_emp <| xnott Z Z Z <| xpkf Z Z Z Z <| xmv Z Z Z <| xmv Z Z Z <| xfa Z Z Z f24_6 <| xld Z Z Z o3 .z Z ?_
         refine xcq Z Z Z Z g21 (ct_inT q5) loc_emp <| xnott Z Z Z <| xpkf Z Z Z Z <| xmv Z Z Z <| xmv Z Z Z <| xfa Z Z Z f24_7 <| xld Z Z Z o3 .z Z <| xcq Z Z Z Z g21 (ct_inT q6) loc_emp <| xnott Z Z Z <| xpkf Z Z Z Z <| xmv Z Z Z ?_
         refine xfa Z Z Z f24_0 <| xlda Z Z Z m22 .z Z <| xcq Z Z Z Z g22 (ct_Nodes ⟨h0, h1, h2, h3, h4⟩) loc_emp <| xcm (c := false) Z Z Z Z Z (beq_eq_false_iff_ne.2 q7) <| xpkf Z Z Z Z <| X.nil <| T.no Z <| T.skip <| T.seq <| tx [0] nf Z Z ?_
         refine xas Z Z Z <| X.nil <| T.ret1 Z (fun W D h => ?_)
         obtain ⟨D1, h5, h6⟩ := blks_tail h
         rw [show (if c.ok = true then (0 : Int) else 21) = _ from if_pos (Cfg.ok_iff.2 (by unfold Cfg.nodes at q7; omega))]
         exact ⟨D1, ⟨rfl, rfl, h5⟩, h6⟩
       ·skip
        refine tx [0,1,2,3,4,5,6,7,8,9,10,11,12,13,14,15,16,17,18,19,20,21,22,23,24,25,26,27,28,29,30,31,32,33,34,35,36,37,38,39,40,41,42,43,44,45,46,47,48,49,50,51,52] nf Z Z <| xmv Z Z Z <| xfa Z Z Z f24_1 <| xld Z Z Z o3 .z Z ?_
        refine xcq Z Z Z Z g21 (ct_inT q0) loc_emp <| xnott Z Z Z <| xmv Z Z Z <| xmv Z Z Z <| xfa Z Z Z f24_2 <| xld Z Z Z o3 .z Z <| xcq Z Z Z Z g21 (ct_inT q1) loc_emp <| xnott Z Z Z <| xpkf Z Z Z Z <| xmv Z Z Z <| xmv Z Z Z <| xfa Z Z Z f24_3 ?_
        refine xld Z Z Z o3 .z Z <| xcq Z Z Z Z g21 (ct_inT q2) loc_emp <| xnott Z Z Z <| xpkf Z Z Z Z <| xmv Z Z Z <| xmv Z Z Z <| xfa Z Z Z f24_4 <| xld Z Z Z o3 .z Z <| xcq Z Z Z Z g21 (ct_inT q3) loc_emp <| xnott Z Z Z <| xpkf Z Z Z Z ?_
        refine xmv Z Z Z <| xmv Z Z Z <| xfa Z Z Z f24_5 <| xld Z Z Z o3 .z Z <| xcq Z Z Z Z g21 (ct_inT q4) loc_emp <| xnott Z Z Z <| xpkf Z Z Z Z <| xmv Z Z Z <| xmv Z Z Z <| xfa Z Z Z f24_6 <| xld Z Z Z o3 .z Z ?_
        refine xcq Z Z Z Z g21 (ct_inT q5) loc_emp <| xnott Z Z Z <| xpkf Z Z Z Z <| xmv Z Z Z <| xmv Z Z Z <| xfa Z Z Z f24_7 <| xld Z Z Z o3 .z Z <| xcq Z Z Z Z g21 (ct_inF q6) loc_emp <| xnotf Z Z Z <| xpkf Z Z Z Z <| xmv Z Z Z <| x_skip Z Z Z ?_
        refine x_skip Z Z Z <| x_skip Z Z Z <| x_skip Z Z Z <| xpkt Z Z Z Z <| X.nil <| T.yes Z <| T.seq <| tx [0] nf Z Z <| xas Z Z Z <| X.nil <| T.ret1 Z (fun W D h => ?_)
        obtain ⟨D1, h5, h6⟩ := blks_tail h
        rw [show (if c.ok = true then (0 : Int) else 21) = _ from if_neg (fun hq => by have hq := Cfg.ok_iff.1 hq; omega)]
        exact ⟨D1, ⟨rfl, rfl, h5⟩, h6⟩
      ·skip
       refine tx [0,1,2,3,4,5,6,7,8,9,10,11,12,13,14,15,16,17,18,19,20,21,22,23,24,25,26,27,28,29,30,31,32,33,34,35,36,37,38,39,40,41,42,43,44,45,46,47,48,49,50,51,52] nf Z Z <| xmv Z Z Z <| xfa Z Z Z f24_1 <| xld Z Z Z o3 .z Z ?_
       refine xcq Z Z Z Z g21 (ct_inT q0) loc_emp <| xnott Z Z Z <| xmv Z Z Z <| xmv Z Z Z <| xfa Z Z Z f24_2 <| xld Z Z Z o3 .z Z <| xcq Z Z Z Z g21 (ct_inT q1) loc_emp <| xnott Z Z Z <| xpkf Z Z Z Z <| xmv Z Z Z <| xmv Z Z Z <| xfa Z Z Z f24_3 ?_
       refine xld Z Z Z o3 .z Z <| xcq Z Z Z Z g21 (ct_inT q2) loc_emp <| xnott Z Z Z <| xpkf Z Z Z Z <| xmv Z Z Z <| xmv Z Z Z <| xfa Z Z Z f24_4 <| xld Z Z Z o3 .z Z <| xcq Z Z Z Z g21 (ct_inT q3) loc_emp <| xnott Z Z Z <| xpkf Z Z Z Z <| xmv Z Z Z ?_
       refine xmv Z Z Z <| xfa Z Z Z f24_5 <| xld Z Z Z o3 .z Z <| xcq Z Z Z Z g21 (ct_inT q4) loc_emp <| xnott Z Z Z <| xpkf Z Z Z Z <| xmv Z Z Z <| xmv Z Z Z <| xfa Z Z Z f24_6 <| xld Z Z Z o3 .z Z <| xcq Z Z Z Z g21 (ct_inF q5) loc_emp ?_
       refine xnotf Z Z Z <| xpkf Z Z Z Z <| xmv Z Z Z <| x_skip Z Z Z <| x_skip Z Z Z <| x_skip Z Z Z <| x_skip Z Z Z <| x_skip Z Z Z <| xpkt Z Z Z Z <| xmv Z Z Z <| x_skip Z Z Z <| x_skip Z Z Z <| x_skip Z Z Z <| x_skip Z Z Z <| xpkt Z Z Z Z ?_
       refine X.nil <| T.yes Z <| T.seq <| tx [0] nf Z Z <| xas Z Z Z <| X.nil <| T.ret1 Z (fun W D h => ?_)
       obtain ⟨D1, h5, h6⟩ := blks_tail h
       rw [show (if c.ok = true then (0 : Int) else 21) = _ from if_neg (fun hq => by have hq := Cfg.ok_iff.1 hq; omega)]
       exact ⟨D1, ⟨rfl, rfl, h5⟩, h6⟩
     ·skip
      refine tx [0,1,2,3,4,5,6,7,8,9,10,11,12,13,14,15,16,17,18,19,20,21,22,23,24,25,26,27,28,29,30,31,32,33,34,35,36,37,38,39,40,41,42,43,44,45,46,47,48,49,50,51,52] nf Z Z <| xmv Z Z Z <| xfa Z Z Z f24_1 <| xld Z Z Z o3 .z Z ?_
      refine xcq Z Z Z Z g21 (ct_inT q0) loc_emp <| xnott Z Z Z <| xmv Z Z Z <| xmv Z Z Z <| xfa Z Z Z f24_2 <| xld Z Z Z o3 .z Z <| xcq Z Z Z Z g21 (ct_inT q1) loc_emp <| xnott Z Z Z <| xpkf Z Z Z Z <| xmv Z Z Z <| xmv Z Z Z <| xfa Z Z Z f24_3 ?_
      refine xld Z Z Z o3 .z Z <| xcq Z Z Z Z g21 (ct_inT q2) loc_emp <| xnott Z Z Z <| xpkf Z Z Z Z <| xmv Z Z Z <| xmv Z Z Z <| xfa Z Z Z f24_4 <| xld Z Z Z o3 .z Z <| xcq Z Z Z Z g21 (ct_inT q3) loc_emp <| xnott Z Z Z <| xpkf Z Z Z Z <| xmv Z Z Z ?_
      refine xmv Z Z Z <| xfa Z Z Z f24_5 <| xld Z Z Z o3 .z Z <| xcq Z Z Z Z g21 (ct_inF q4) loc_emp <| xnotf Z Z Z <| xpkf Z Z Z Z <| xmv Z Z Z <| x_skip Z Z Z <| x_skip Z Z Z <| x_skip Z Z Z <| x_skip Z Z Z <| x_skip Z Z Z <| xpkt Z Z Z Z ?_
      refine xmv Z Z Z <| x_skip Z Z Z <| x_skip Z Z Z <| x_skip Z Z Z <| x_skip Z Z Z <| x_skip Z Z Z <| xpkt Z Z Z Z <| xmv Z Z Z <| x_skip Z Z Z <| x_skip Z Z Z <| x_skip Z Z Z <| x_skip Z Z Z <| xpkt Z Z Z Z <| X.nil <| T.yes Z <| T.seq ?_
      refine tx [0] nf Z Z <| xas Z Z Z <| X.nil <| T.ret1 Z (fun W D h => ?_)
      obtain ⟨D1, h5, h6⟩ := blks_tail h
      rw [show (if c.ok = true then (0 : Int) else 21) = _ from if_neg (fun hq => by have hq := Cfg.ok_iff.1 hq; omega)]
      exact ⟨D1, ⟨rfl, rfl, h5⟩, h6⟩
    ·skip
     refine tx [0,1,2,3,4,5,6,7,8,9,10,11,12,13,14,15,16,17,18,19,20,21,22,23,24,25,26,27,28,29,30,31,32,33,34,35,36,37,38,39,40,41,42,43,44,45,46,47,48,49,50,51,52] nf Z Z <| xmv Z Z Z <| xfa Z Z Z f24_1 <| xld Z Z Z o3 .z Z ?_
     refine xcq Z Z Z Z g21 (ct_inT q0) loc_emp <| xnott Z Z Z <| xmv Z Z Z <| xmv Z Z Z <| xfa Z Z Z f24_2 <| xld Z Z Z o3 .z Z <| xcq Z Z Z Z g21 (ct_inT q1) loc_emp <| xnott Z Z Z <| xpkf Z Z Z Z <| xmv Z Z Z <| xmv Z Z Z <| xfa Z Z Z f24_3 ?_
     refine xld Z Z Z o3 .z Z <| xcq Z Z Z Z g21 (ct_inT q2) loc_emp <| xnott Z Z Z <| xpkf Z Z Z Z <| xmv Z Z Z <| xmv Z Z Z <| xfa Z Z Z f24_4 <| xld Z Z Z o3 .z Z <| xcq Z Z Z Z g21 (ct_inF q3) loc_emp <| xnotf Z Z Z <| xpkf Z Z Z Z <| xmv Z Z Z ?_
     refine x_skip Z Z Z <| x_skip Z Z Z <| x_skip Z Z Z <| x_skip Z Z Z <| x_skip Z Z Z <| xpkt Z Z Z Z <| xmv Z Z Z <| x_skip Z Z Z <| x_skip Z Z Z <| x_skip Z Z Z <| x_skip Z Z Z <| x_skip Z Z Z <| xpkt Z Z Z Z <| xmv Z Z Z <| x_skip Z Z Z ?_
     refine x_skip Z Z Z <| x_skip Z Z Z <| x_skip Z Z Z <| x_skip Z Z Z <| xpkt Z Z Z Z <| xmv Z Z Z <| x_skip Z Z Z <| x_skip Z Z Z <| x_skip Z Z Z <| x_skip Z Z Z <| xpkt Z Z Z Z <| X.nil <| T.yes Z <| T.seq <| tx [0] nf Z Z <| xas Z Z Z <| X.nil ?_
     refine T.ret1 Z (fun W D h => ?_)
     obtain ⟨D1, h5, h6⟩ := blks_tail h
     rw [show (if c.ok = true then (0 : Int) else 21) = _ from if_neg (fun hq => by have hq := Cfg.ok_iff.1 hq; omega)]
     exact ⟨D1, ⟨rfl, rfl, h5⟩, h6⟩
   ·skip
    refine tx [0,1,2,3,4,5,6,7,8,9,10,11,12,13,14,15,16,17,18,19,20,21,22,23,24,25,26,27,28,29,30,31,32,33,34,35,36,37,38,39,40,41,42,43,44,45,46,47,48,49,50,51,52] nf Z Z <| xmv Z Z Z <| xfa Z Z Z f24_1 <| xld Z Z Z o3 .z Z ?_
    refine xcq Z Z Z Z g21 (ct_inT q0) loc_emp <| xnott Z Z Z <| xmv Z Z Z <| xmv Z Z Z <| xfa Z Z Z f24_2 <| xld Z Z Z o3 .z Z <| xcq Z Z Z Z g21 (ct_inT q1) loc_emp <| xnott Z Z Z <| xpkf Z Z Z Z <| xmv Z Z Z <| xmv Z Z Z <| xfa Z Z Z f24_3 ?_
    refine xld Z Z Z o3 .z Z <| xcq Z Z Z Z g21 (ct_inF q2) loc_emp <| xnotf Z Z Z <| xpkf Z Z Z Z <| xmv Z Z Z <| x_skip Z Z Z <| x_skip Z Z Z <| x_skip Z Z Z <| x_skip Z Z Z <| x_skip Z Z Z <| xpkt Z Z Z Z <| xmv Z Z Z <| x_skip Z Z Z <| x_skip Z Z Z ?_
    refine x_skip Z Z Z <| x_skip Z Z Z <| x_skip Z Z Z <| xpkt Z Z Z Z <| xmv Z Z Z <| x_skip Z Z Z <| x_skip Z Z Z <| x_skip Z Z Z <| x_skip Z Z Z <| x_skip Z Z Z <| xpkt Z Z Z Z <| xmv Z Z Z <| x_skip Z Z Z <| x_skip Z Z Z <| x_skip Z Z Z ?_
    refine x_skip Z Z Z <| x_skip Z Z Z <| xpkt Z Z Z Z <| xmv Z Z Z <| x_skip Z Z Z <| x_skip Z Z Z <| x_skip Z Z Z <| x_skip Z Z Z <| xpkt Z Z Z Z <| X.nil <| T.yes Z <| T.seq <| tx [0] nf Z Z <| xas Z Z Z <| X.nil <| T.ret1 Z (fun W D h => ?_)
    obtain ⟨D1, h5, h6⟩ := blks_tail h
    rw [show (if c.ok = true then (0 : Int) else 21) = _ from if_neg (fun hq => by have hq := Cfg.ok_iff.1 hq; omega)]
    exact ⟨D1, ⟨rfl, rfl, h5⟩, h6⟩
  ·skip
   refine tx [0,1,2,3,4,5,6,7,8,9,10,11,12,13,14,15,16,17,18,19,20,21,22,23,24,25,26,27,28,29,30,31,32,33,34,35,36,37,38,39,40,41,42,43,44,45,46,47,48,49,50,51,52] nf Z Z <| xmv Z Z Z <| xfa Z Z Z f24_1 <| xld Z Z Z o3 .z Z ?_
   refine xcq Z Z Z Z g21 (ct_inT q0) loc_emp <| xnott Z Z Z <| xmv Z Z Z <| xmv Z Z Z <| xfa Z Z Z f24_2 <| xld Z Z Z o3 .z Z <| xcq Z Z Z Z g21 (ct_inF q1) loc_emp <| xnotf Z Z Z <| xpkf Z Z Z Z <| xmv Z Z Z <| x_skip Z Z Z <| x_skip Z Z Z ?_
   refine x_skip Z Z Z <| x_skip Z Z Z <| x_skip Z Z Z <| xpkt Z Z Z Z <| xmv Z Z Z <| x_skip Z Z Z <| x_skip Z Z Z <| x_skip Z Z Z <| x_skip Z Z Z <| x_skip Z Z Z <| xpkt Z Z Z Z <| xmv Z Z Z <| x_skip Z Z Z <| x_skip Z Z Z <| x_skip Z Z Z ?_
   refine x_skip Z Z Z <| x_skip Z Z Z <| xpkt Z Z Z Z <| xmv Z Z Z <| x_skip Z Z Z <| x_skip Z Z Z <| x_skip Z Z Z <| x_skip Z Z Z <| x_skip Z Z Z <| xpkt Z Z Z Z <| xmv Z Z Z <| x_skip Z Z Z <| x_skip Z Z Z <| x_skip Z Z Z <| x_skip Z Z Z ?_
   refine x_skip Z Z Z <| xpkt Z Z Z Z <| xmv Z Z Z <| x_skip Z Z Z <| x_skip Z Z Z <| x_skip Z Z Z <| x_skip Z Z Z <| xpkt Z Z Z Z <| X.nil <| T.yes Z <| T.seq <| tx [0] nf Z Z <| xas Z Z Z <| X.nil <| T.ret1 Z (fun W D h => ?_)
   obtain ⟨D1, h5, h6⟩ := blks_tail h
   rw [show (if c.ok = true then (0 : Int) else 21) = _ from if_neg (fun hq => by have hq := Cfg.ok_iff.1 hq; omega)]
   exact ⟨D1, ⟨rfl, rfl, h5⟩, h6⟩
 ·skip
  refine tx [0,1,2,3,4,5,6,7,8,9,10,11,12,13,14,15,16,17,18,19,20,21,22,23,24,25,26,27,28,29,30,31,32,33,34,35,36,37,38,39,40,41,42,43,44,45,46,47,48,49,50,51,52] nf Z Z <| xmv Z Z Z <| xfa Z Z Z f24_1 <| xld Z Z Z o3 .z Z ?_
  refine xcq Z Z Z Z g21 (ct_inF q0) loc_emp <| xnotf Z Z Z <| xmv Z Z Z <| x_skip Z Z Z <| x_skip Z Z Z <| x_skip Z Z Z <| x_skip Z Z Z <| x_skip Z Z Z <| xpkt Z Z Z Z <| xmv Z Z Z <| x_skip Z Z Z <| x_skip Z Z Z <| x_skip Z Z Z <| x_skip Z Z Z ?_
  refine x_skip Z Z Z <| xpkt Z Z Z Z <| xmv Z Z Z <| x_skip Z Z Z <| x_skip Z Z Z <| x_skip Z Z Z <| x_skip Z Z Z <| x_skip Z Z Z <| xpkt Z Z Z Z <| xmv Z Z Z <| x_skip Z Z Z <| x_skip Z Z Z <| x_skip Z Z Z <| x_skip Z Z Z <| x_skip Z Z Z <| xpkt Z Z Z Z ?_
  refine xmv Z Z Z <| x_skip Z Z Z <| x_skip Z Z Z <| x_skip Z Z Z <| x_skip Z Z Z <| x_skip Z Z Z <| xpkt Z Z Z Z <| xmv Z Z Z <| x_skip Z Z Z <| x_skip Z Z Z <| x_skip Z Z Z <| x_skip Z Z Z <| x_skip Z Z Z <| xpkt Z Z Z Z <| xmv Z Z Z <| x_skip Z Z Z ?_
  refine x_skip Z Z Z <| x_skip Z Z Z <| x_skip Z Z Z <| xpkt Z Z Z Z <| X.nil <| T.yes Z <| T.seq <| tx [0] nf Z Z <| xas Z Z Z <| X.nil <| T.ret1 Z (fun W D h => ?_)
  obtain ⟨D1, h5, h6⟩ := blks_tail h
  rw [show (if c.ok = true then (0 : Int) else 21) = _ from if_neg (fun hq => by have hq := Cfg.ok_iff.1 hq; omega)]
  exact ⟨D1, ⟨rfl, rfl, h5⟩, h6⟩
end Go.Proofs.YtmpcfamcbaineaaGreat.Mo.Mp
namespace Go.Proofs.YtmpcfamcbaineaaGreat.Mo
open Go.RowKit Go.Proofs.YtmpcfamcbaineaaGreat.Mo
set_option linter.unusedVariables false
set_option linter.unusedSimpArgs false
def LayB (K : Cx) (ra rr : List Value) : List Bk := [⟨K.m, 109, K.mcells.toList⟩, ⟨K.ga, 3, i64s K.M.at_ ++ ra⟩, ⟨K.gr, 3, i64s K.M.room ++ rr⟩]
structure LayOk (K : Cx) (ra rr : List Value) : Prop where
  ok : K.M.Ok
  ca : K.M.at_.length + ra.length = K.ca ∧ K.ca ≤ maxLen
  cr : K.M.room.length + rr.length = K.cr ∧ K.cr ≤ maxLen
theorem MapAt.of {K : Cx} {ra rr : List Value} {R : Asr} {D : Dom} {w : World} (h : LayOk K ra rr) (hb : blks (LayB K ra rr) R D w) : MapAt w K := by
  have h1 := (blks_mem hb (x := ⟨K.m, 109, K.mcells.toList⟩) (by simp [LayB])).1
  have h2 := (blks_mem hb (x := ⟨K.ga, 3, i64s K.M.at_ ++ ra⟩) (by simp [LayB])).1
  have h3 := (blks_mem hb (x := ⟨K.gr, 3, i64s K.M.room ++ rr⟩) (by simp [LayB])).1
  refine ⟨h.ok, h1, ?_, ?_⟩
  · exact own_blk h2 (by have := h.ca.1; omega) h.ca.2 (by rw [List.length_map, Nat.mul_one]; exact h.ca.1) (by rw [List.length_map, Nat.mul_one])
  · exact own_blk h3 (by have := h.cr.1; omega) h.cr.2 (by rw [List.length_map, Nat.mul_one]; exact h.cr.1) (by rw [List.length_map, Nat.mul_one])
def lay (c : Cfg) (ack head deques packets node0 nodes many parts all : Int) (av rv : Value) : List Value :=
  [.int .i64 ack, .int .i64 head, .int .i64 deques, .int .i64 packets, .int .i64 node0, .int .i64 nodes, .int .i64 many, .int .i64 parts, .int .i64 all,
   .int .i64 c.k0, .int .i64 c.k1, .int .i64 c.k2, .int .i64 c.k3, .int .i64 c.k4, .int .i64 c.markers, .int .i64 c.mutators, .int .i64 c.deque, .int .i64 c.chunk, .int .i64 c.buffer, .int .i64 c.roots, .int .i64 c.sweep, av, rv]
theorem run_quo {t : Nat} {a b : Int} (ha : 0 ≤ a ∧ a ≤ 1000000) (hb : 1 ≤ b) (w : World) : (binOp .quo t (.int .i64 a) (.int .i64 b)).run Tryz.prog w = .ok (.int .i64 (a / b)) w := by
  have h0 : b ≠ 0 := by omega
  have h1 : a.tdiv b = a / b := Int.tdiv_eq_ediv_of_nonneg ha.1
  have h2 := quo_rng ha.1 hb
  have h3 : IntKind.i64.wrap (a / b) = a / b := IntWalk.i64_in _ (by omega)
  simp [binOp, Op.intDiv, go_sem, h0, h1, h3]
theorem f107_0 : fld 107 0 0 = true := by kernel_rfl
theorem f107_1 : fld 107 1 1 = true := by kernel_rfl
theorem f107_2 : fld 107 2 2 = true := by kernel_rfl
theorem f107_3 : fld 107 3 3 = true := by kernel_rfl
theorem f107_4 : fld 107 4 4 = true := by kernel_rfl
theorem f107_6 : fld 107 6 6 = true := by kernel_rfl
theorem f107_7 : fld 107 7 7 = true := by kernel_rfl
theorem f107_8 : fld 107 8 8 = true := by kernel_rfl
theorem f109_2 : fld 109 2 21 = true := by kernel_rfl
theorem f109_3 : fld 109 3 22 = true := by kernel_rfl
theorem g6 : fnB 6 = true := by kernel_rfl
theorem l109 : layB 109 [(0, 9), (9, 12), (21, 1), (22, 1)] = true := by kernel_rfl
theorem z109 : zer 109 = some [.int .i64 0, .int .i64 0, .int .i64 0, .int .i64 0, .int .i64 0, .int .i64 0, .int .i64 0, .int .i64 0, .int .i64 0, .int .i64 0, .int .i64 0, .int .i64 0, .int .i64 0, .int .i64 0, .int .i64 0, .int .i64 0, .int .i64 0, .int .i64 0, .int .i64 0, .int .i64 0, .int .i64 0, .slice none 0 0, .slice none 0 0] := by kernel_rfl
end Go.Proofs.YtmpcfamcbaineaaGreat.Mo
