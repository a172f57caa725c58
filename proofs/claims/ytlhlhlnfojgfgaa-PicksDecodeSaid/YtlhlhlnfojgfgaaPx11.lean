/- Contracts of the Go functions that this claim's law reaches (plain Lean functions with the same answers), written by a program of this session over the kit's print; Lean checks all of it. -/
import Derived.Test.YtlhlhlnfojgfgaaPx0
import Derived.Test.YtlhlhlnfojgfgaaPx1
import Derived.Test.YtlhlhlnfojgfgaaPx4
import Derived.Test.YtlhlhlnfojgfgaaPx7
import Derived.Test.YtlhlhlnfojgfgaaPx9
import Derived.Test.YtlhlhlnfojgfgaaPx10
namespace Go.Proofs.Ytlhlhlnfojgfgaa.P
open Go.RowKit Go.Proofs.YtlhlhlnfojgfgaaW.PrintWords Go.Proofs.YtlhlhlnfojgfgaaW.PrintLast Go.Proofs.YtlhlhlnfojgfgaaW.PrintMore
attribute [local go_sem] max2_int min2_int max_two min_two max_three min_three max_four min_four   -- for this text's walks alone
set_option linter.unusedVariables false
set_option linter.unusedSimpArgs false

attribute [local go_sem high] eqA34
/-! ### dustmanlaw04_PicksFair: function 8 -/
mutual
def dustmanlaw04_PicksFair.l0 : Nat → List (S34) → Int → List (S34) → Int → Int → Option (Bool)
  | 0, _, _, _, _, _ => none
  | k + 1, x0, x6, x7, x8, x9 => if x9 < (x7.length : Int) then (dustmanlaw04_PicksFair.j1 k x0 x6 x7 x8 x9 (decide (x8 < (x0.length : Int)))) else (dustmanlaw04_PicksFair.j1 k x0 x6 x7 x8 x9 false)
def dustmanlaw04_PicksFair.j1 : Nat → List (S34) → Int → List (S34) → Int → Int → Bool → Option (Bool)
  | 0, _, _, _, _, _, _ => none
  | k + 1, x0, x6, x7, x8, x9, x32 => if x32 = true then (if 0 ≤ x9 then (if x9 < (x7.length : Int) then (if 0 ≤ x8 then (if x8 < (x0.length : Int) then (if (((rd_T34 x7 x9).f0) == ((rd_T34 x0 x8).f0) && (((rd_T34 x7 x9).f1) == ((rd_T34 x0 x8).f1))) = true then (dustmanlaw04_PicksFair.l0 k x0 x6 x7 (wrap64 (x8 + 1)) (wrap64 (x9 + 1))) else (dustmanlaw04_PicksFair.l0 k x0 x6 x7 x8 (wrap64 (x9 + 1)))) else (none)) else (none)) else (none)) else (none)) else (if x8 = (x0.length : Int) then ((picks_Who.f k x7).bind fun t297 => ((dustmanref03_Windows.f k t297 x6 (wrap64 ((wrap64 (2 * x6)) + 1))).bind fun t300 => (if t300 = true then ((picks_Who.f k x7).bind fun t301 => ((plan_Windows.f k t301 x6 (wrap64 ((wrap64 (2 * x6)) + 1))).bind fun t304 => (some t304))) else (some false)))) else (some false))
end
def dustmanlaw04_PicksFair.f (k : Nat) (l0 : List (S34)) (a1 : Int) : Option (Bool) := (dustmanlaw04_awake.f k).bind fun t291 => (if t291 = true then (if (l0.length : Int) > 60 then (some true) else ((picks_Fair.f k l0 (wrap64 ((wrap64 (Int.tmod a1 6)) + 1))).bind fun t292 => (dustmanlaw04_PicksFair.l0 k l0 (wrap64 ((wrap64 (Int.tmod a1 6)) + 1)) t292 0 0))) else (some false))
theorem dustmanlaw04_PicksFair.mono_l : ∀ k, (∀ y0 y1 y2 y3 y4, LeO (dustmanlaw04_PicksFair.l0 k y0 y1 y2 y3 y4) (dustmanlaw04_PicksFair.l0 (k + 1) y0 y1 y2 y3 y4)) ∧ (∀ y0 y1 y2 y3 y4 y5, LeO (dustmanlaw04_PicksFair.j1 k y0 y1 y2 y3 y4 y5) (dustmanlaw04_PicksFair.j1 (k + 1) y0 y1 y2 y3 y4 y5))
  | 0 => ⟨fun _ _ _ _ _ r h => by simp [dustmanlaw04_PicksFair.l0] at h, fun _ _ _ _ _ _ r h => by simp [dustmanlaw04_PicksFair.j1] at h⟩
  | k + 1 => by
    obtain ⟨ih0, ih1⟩ := dustmanlaw04_PicksFair.mono_l k
    refine ⟨?_, ?_⟩
    · intro y0 y1 y2 y3 y4
      unfold dustmanlaw04_PicksFair.l0
      repeat' first
      | (with_reducible exact ih0 _ _ _ _ _)
      | (with_reducible exact ih1 _ _ _ _ _ _)
      | (with_reducible exact dustmanlaw04_awake.mono _)
      | (with_reducible exact dustmanref03_Windows.mono _ _ _ _)
      | (with_reducible exact picks_Fair.mono _ _ _)
      | (with_reducible exact picks_Who.mono _ _)
      | (with_reducible exact plan_Windows.mono _ _ _ _)
      | (with_reducible exact LeO.refl _)
      | (with_reducible exact LeO.none _)
      | (with_reducible refine LeO.ite ?_ ?_)
      | (with_reducible refine LeO.bind ?_ (fun _ => ?_))
      | exact ih0 _ _ _ _ _
      | exact ih1 _ _ _ _ _ _
      | exact dustmanlaw04_awake.mono _
      | exact dustmanref03_Windows.mono _ _ _ _
      | exact picks_Fair.mono _ _ _
      | exact picks_Who.mono _ _
      | exact plan_Windows.mono _ _ _ _
      | exact LeO.none _
      | refine LeO.ite ?_ ?_
      | refine LeO.bind ?_ (fun _ => ?_)
    · intro y0 y1 y2 y3 y4 y5
      unfold dustmanlaw04_PicksFair.j1
      repeat' first
      | (with_reducible exact ih0 _ _ _ _ _)
      | (with_reducible exact ih1 _ _ _ _ _ _)
      | (with_reducible exact dustmanlaw04_awake.mono _)
      | (with_reducible exact dustmanref03_Windows.mono _ _ _ _)
      | (with_reducible exact picks_Fair.mono _ _ _)
      | (with_reducible exact picks_Who.mono _ _)
      | (with_reducible exact plan_Windows.mono _ _ _ _)
      | (with_reducible exact LeO.refl _)
      | (with_reducible exact LeO.none _)
      | (with_reducible refine LeO.ite ?_ ?_)
      | (with_reducible refine LeO.bind ?_ (fun _ => ?_))
      | exact ih0 _ _ _ _ _
      | exact ih1 _ _ _ _ _ _
      | exact dustmanlaw04_awake.mono _
      | exact dustmanref03_Windows.mono _ _ _ _
      | exact picks_Fair.mono _ _ _
      | exact picks_Who.mono _ _
      | exact plan_Windows.mono _ _ _ _
      | exact LeO.none _
      | refine LeO.ite ?_ ?_
      | refine LeO.bind ?_ (fun _ => ?_)
theorem dustmanlaw04_PicksFair.mono : ∀ a0 a1 k, LeO (dustmanlaw04_PicksFair.f k a0 a1) (dustmanlaw04_PicksFair.f (k + 1) a0 a1) := by
  intro a0 a1 k
  obtain ⟨ih0, ih1⟩ := dustmanlaw04_PicksFair.mono_l k
  unfold dustmanlaw04_PicksFair.f
  repeat' first
      | (with_reducible exact ih0 _ _ _ _ _)
      | (with_reducible exact ih1 _ _ _ _ _ _)
      | (with_reducible exact dustmanlaw04_awake.mono _)
      | (with_reducible exact dustmanref03_Windows.mono _ _ _ _)
      | (with_reducible exact picks_Fair.mono _ _ _)
      | (with_reducible exact picks_Who.mono _ _)
      | (with_reducible exact plan_Windows.mono _ _ _ _)
      | (with_reducible exact LeO.refl _)
      | (with_reducible exact LeO.none _)
      | (with_reducible refine LeO.ite ?_ ?_)
      | (with_reducible refine LeO.bind ?_ (fun _ => ?_))
      | exact ih0 _ _ _ _ _
      | exact ih1 _ _ _ _ _ _
      | exact dustmanlaw04_awake.mono _
      | exact dustmanref03_Windows.mono _ _ _ _
      | exact picks_Fair.mono _ _ _
      | exact picks_Who.mono _ _
      | exact plan_Windows.mono _ _ _ _
      | exact LeO.none _
      | refine LeO.ite ?_ ?_
      | refine LeO.bind ?_ (fun _ => ?_)
set_option maxHeartbeats 8000000 in
set_option maxRecDepth 100000 in
theorem dustmanlaw04_PicksFair.calls (k : Nat) (A0 : Option Addr) (c0 : Nat) (l0 : List (S34)) (a1 : Int) (r : Bool) (w : World) (hr0 : Kd.C k34 w A0 l0.length l0) (hc0 : l0.length ≤ c0) (h : dustmanlaw04_PicksFair.f k l0 a1 = some r) :
    Calls Try.prog 8 #[.slice A0 l0.length c0, .int .u8 a1] w fun e w' => e = .returned (.bool r) ∧ Below w.heap.size w w' := by
  have hu34 := Try.underlying34
  have HR0 := Aside0.mk hr0
  have HC0 := Aside0.mk hc0
  clear hr0 hc0
  have HB := Aside0.mk (Below.refl w.heap.size w)
  have H : ((dustmanlaw04_awake.f k).bind fun t291 => (if t291 = true then (if (l0.length : Int) > 60 then (some true) else ((picks_Fair.f k l0 (wrap64 ((wrap64 (Int.tmod a1 6)) + 1))).bind fun t292 => (dustmanlaw04_PicksFair.l0 k l0 (wrap64 ((wrap64 (Int.tmod a1 6)) + 1)) t292 0 0))) else (some false))) = some r := h
  clear h
  replace H := Option.bind_eq_some_iff.mp H
  obtain ⟨t291, A30, H⟩ := H
  replace H : (if t291 = true then (if (l0.length : Int) > 60 then (some true) else ((picks_Fair.f k l0 (wrap64 ((wrap64 (Int.tmod a1 6)) + 1))).bind fun t292 => (dustmanlaw04_PicksFair.l0 k l0 (wrap64 ((wrap64 (Int.tmod a1 6)) + 1)) t292 0 0))) else (some false)) = some r := H
  have A3 := Aside0.mk A30
  clear A30
  by_cases c4 : t291 = true
  · subst c4
    have H1 : (if (l0.length : Int) > 60 then (some true) else ((picks_Fair.f k l0 (wrap64 ((wrap64 (Int.tmod a1 6)) + 1))).bind fun t292 => (dustmanlaw04_PicksFair.l0 k l0 (wrap64 ((wrap64 (Int.tmod a1 6)) + 1)) t292 0 0))) = some r := by rw [if_pos rfl] at H; exact H
    clear H
    have H := H1
    clear H1
    by_cases c5 : (l0.length : Int) > 60
    · rw [if_pos c5] at H
      have c5b0 : decide (60 < (l0.length : Int)) = true := decide_eq_true c5
      have c5b1 : decide (60 < l0.length) = true := decide_eq_true (by omega)
      clear c5
      obtain rfl := Option.some.inj H
      go_enter Try.func8, Try.ntmps8
      go_wp2_with (first | (go_at_call 9; (with_reducible refine (dustmanlaw04_awake.calls k  true _ A3.out).mono ?_); rintro e w6 ⟨rfl, hb⟩; have n0_ := Aside0.mk (below_step (by repeat (first | (with_reducible first | exact HB.out | apply below_alloc | apply pw_below_drewN | apply below_drew1) | exact HB.out)) hb); clear HB; have HB := n0_; clear n0_; (try clear hb); (try clear hb2); (try clear hk); (try clear hi)))
      repeat (go_quiet (first | (go_at_call 9; (with_reducible refine (dustmanlaw04_awake.calls k  true _ A3.out).mono ?_); rintro e w6 ⟨rfl, hb⟩; have n0_ := Aside0.mk (below_step (by repeat (first | (with_reducible first | exact HB.out | apply below_alloc | apply pw_below_drewN | apply below_drew1) | exact HB.out)) hb); clear HB; have HB := n0_; clear n0_; (try clear hb); (try clear hb2); (try clear hk); (try clear hi))); try go_wp2_with (first | (go_at_call 9; (with_reducible refine (dustmanlaw04_awake.calls k  true _ A3.out).mono ?_); rintro e w6 ⟨rfl, hb⟩; have n0_ := Aside0.mk (below_step (by repeat (first | (with_reducible first | exact HB.out | apply below_alloc | apply pw_below_drewN | apply below_drew1) | exact HB.out)) hb); clear HB; have HB := n0_; clear n0_; (try clear hb); (try clear hb2); (try clear hk); (try clear hi))))
      go_ret
      exact ⟨by first | rfl | (simp [errW_none, errW_some] <;> rfl) | (simp [*, errW_none, errW_some] <;> rfl), by repeat (first | (with_reducible first | exact HB.out | apply below_alloc | apply pw_below_drewN | apply below_drew1) | exact HB.out)⟩
    · rw [if_neg c5] at H
      have c5b0 : decide (60 < (l0.length : Int)) = false := decide_eq_false c5
      have c5b1 : decide (60 < l0.length) = false := decide_eq_false (by omega)
      clear c5
      replace H := Option.bind_eq_some_iff.mp H
      obtain ⟨t292, A70, H⟩ := H
      replace H : (dustmanlaw04_PicksFair.l0 k l0 (wrap64 ((wrap64 (Int.tmod a1 6)) + 1)) t292 0 0) = some r := H
      have A7 := Aside0.mk A70
      clear A70
      have H' := Aside0.mk H
      clear H
      go_enter Try.func8, Try.ntmps8
      go_wp2_with (first | (go_at_call 9; (with_reducible refine (dustmanlaw04_awake.calls k  true _ A3.out).mono ?_); rintro e w8 ⟨rfl, hb⟩; have n0_ := Aside0.mk (below_step (by repeat (first | (with_reducible first | exact HB.out | apply below_alloc | apply pw_below_drewN | apply below_drew1) | exact HB.out)) hb); clear HB; have HB := n0_; clear n0_; (try clear hb); (try clear hb2); (try clear hk); (try clear hi)) | (go_at_call 19; (with_reducible refine (picks_Fair.calls k _ _ l0 (wrap64 ((wrap64 (Int.tmod a1 6)) + 1)) t292 _ ?side1 ?side2 A7.out).mono ?_); (case side1 => repeat (first | exact (Kd.C_below HR0.out HB.out) | (with_reducible refine Kd.C_alloc ?_ _) | (with_reducible refine Kd.C_drewN ?_ _) | (with_reducible refine Kd.C_drew ?_))); (case side2 => exact HC0.out); rintro e w9 ⟨v293, rfl, ho0, hb⟩; have n0_ := Aside0.mk (Kd.R_lower ho0 (below_size (by repeat (first | (with_reducible first | exact HB.out | apply below_alloc | apply pw_below_drewN | apply below_drew1) | exact HB.out)))); have n1_ := Aside0.mk (below_step (by repeat (first | (with_reducible first | exact HB.out | apply below_alloc | apply pw_below_drewN | apply below_drew1) | exact HB.out)) hb); clear HB; have HO294 := n0_; have HB := n1_; clear n0_ n1_; (try clear hb); (try clear hb2); (try clear hk); (try clear hi); (try clear ho0)))
      repeat (go_quiet (first | (go_at_call 9; (with_reducible refine (dustmanlaw04_awake.calls k  true _ A3.out).mono ?_); rintro e w8 ⟨rfl, hb⟩; have n0_ := Aside0.mk (below_step (by repeat (first | (with_reducible first | exact HB.out | apply below_alloc | apply pw_below_drewN | apply below_drew1) | exact HB.out)) hb); clear HB; have HB := n0_; clear n0_; (try clear hb); (try clear hb2); (try clear hk); (try clear hi)) | (go_at_call 19; (with_reducible refine (picks_Fair.calls k _ _ l0 (wrap64 ((wrap64 (Int.tmod a1 6)) + 1)) t292 _ ?side1 ?side2 A7.out).mono ?_); (case side1 => repeat (first | exact (Kd.C_below HR0.out HB.out) | (with_reducible refine Kd.C_alloc ?_ _) | (with_reducible refine Kd.C_drewN ?_ _) | (with_reducible refine Kd.C_drew ?_))); (case side2 => exact HC0.out); rintro e w9 ⟨v293, rfl, ho0, hb⟩; have n0_ := Aside0.mk (Kd.R_lower ho0 (below_size (by repeat (first | (with_reducible first | exact HB.out | apply below_alloc | apply pw_below_drewN | apply below_drew1) | exact HB.out)))); have n1_ := Aside0.mk (below_step (by repeat (first | (with_reducible first | exact HB.out | apply below_alloc | apply pw_below_drewN | apply below_drew1) | exact HB.out)) hb); clear HB; have HO294 := n0_; have HB := n1_; clear n0_ n1_; (try clear hb); (try clear hb2); (try clear hk); (try clear hi); (try clear ho0))); try go_wp2_with (first | (go_at_call 9; (with_reducible refine (dustmanlaw04_awake.calls k  true _ A3.out).mono ?_); rintro e w8 ⟨rfl, hb⟩; have n0_ := Aside0.mk (below_step (by repeat (first | (with_reducible first | exact HB.out | apply below_alloc | apply pw_below_drewN | apply below_drew1) | exact HB.out)) hb); clear HB; have HB := n0_; clear n0_; (try clear hb); (try clear hb2); (try clear hk); (try clear hi)) | (go_at_call 19; (with_reducible refine (picks_Fair.calls k _ _ l0 (wrap64 ((wrap64 (Int.tmod a1 6)) + 1)) t292 _ ?side1 ?side2 A7.out).mono ?_); (case side1 => repeat (first | exact (Kd.C_below HR0.out HB.out) | (with_reducible refine Kd.C_alloc ?_ _) | (with_reducible refine Kd.C_drewN ?_ _) | (with_reducible refine Kd.C_drew ?_))); (case side2 => exact HC0.out); rintro e w9 ⟨v293, rfl, ho0, hb⟩; have n0_ := Aside0.mk (Kd.R_lower ho0 (below_size (by repeat (first | (with_reducible first | exact HB.out | apply below_alloc | apply pw_below_drewN | apply below_drew1) | exact HB.out)))); have n1_ := Aside0.mk (below_step (by repeat (first | (with_reducible first | exact HB.out | apply below_alloc | apply pw_below_drewN | apply below_drew1) | exact HB.out)) hb); clear HB; have HO294 := n0_; have HB := n1_; clear n0_ n1_; (try clear hb); (try clear hb2); (try clear hk); (try clear hi); (try clear ho0))))
      go_loopg [8, 9] k (fun kq v8 v9 w' => ∃ (x8_1 : Int) (x9_1 : Int), v8 = .int .i64 x8_1 ∧ v9 = .int .i64 x9_1 ∧ Aside0 (dustmanlaw04_PicksFair.l0 kq l0 (wrap64 ((wrap64 (Int.tmod a1 6)) + 1)) t292 x8_1 x9_1 = some r) ∧ Aside0 (kq ≤ k) ∧ Aside0 (Kd.R k34 34 w' w.heap.size (fun _ => True) v293 t292) ∧ Aside0 (Below w.heap.size w w'))
      case atStart => exact ⟨(0), (0), (by first | rfl | (simp; done) | (simp [*]; done)), (by first | rfl | (simp; done) | (simp [*]; done)), H', ⟨Nat.le_refl _⟩, ⟨by (with_reducible repeat (first | apply Kd.R_alloc | apply Kd.R_drewN | apply Kd.R_drew)); exact HO294.out⟩, ⟨by repeat (first | (with_reducible first | exact HB.out | apply below_alloc | apply pw_below_drewN | apply below_drew1) | exact HB.out)⟩⟩
      case round =>
        clear H'
        try clear p2
        try clear c4
        try clear c5
        try clear c5b0
        try clear c5b1
        try clear p6
        try clear c8
        obtain ⟨x8_1, x9_1, rfl, rfl, HA, HK1, HO_7, HB⟩ := hrel
        cases gk with
        | zero => exact absurd HA.out (by simp [dustmanlaw04_PicksFair.l0])
        | succ k1 =>
          have H := HA.out
          clear HA
          simp only [dustmanlaw04_PicksFair.l0] at H
          have HC10 := Aside0.mk H
          clear H
          go_upto_region 10 with (fail)
          repeat (go_quiet (fail); go_upto_region 10 with (fail))
          go_cut [32] (fun v32 wc => ∃ (kq : Nat) (x32_9 : Bool), v32 = .bool x32_9 ∧ Aside0 (dustmanlaw04_PicksFair.j1 kq l0 (wrap64 ((wrap64 (Int.tmod a1 6)) + 1)) t292 x8_1 x9_1 x32_9 = some r) ∧ Aside0 (kq ≤ k1) ∧ Aside0 (Kd.R k34 34 wc w.heap.size (fun _ => True) v293 t292) ∧ Aside0 (Below w.heap.size w wc))
          case first =>
            have H := HC10.out
            clear HC10
            by_cases c11 : x9_1 < (t292.length : Int)
            · rw [if_pos c11] at H
              have c11b0 : decide (x9_1 < (t292.length : Int)) = true := decide_eq_true c11
              clear c11
              (first | rw [c11b0] | (simp only [i64_w, i32_w]; rw [c11b0]) | skip)
              have H' := Aside0.mk H
              clear H
              obtain ⟨Ao12, co12, eo12⟩ := Kd.R_slice HO_7.out
              subst eo12
              go_wp2
              repeat (go_quiet (fail); try go_wp2)
              go_meet
              case rel => exact ⟨_, (decide (x8_1 < (l0.length : Int))), (by first | rfl | (simp; done) | (simp [*]; done)), H', ⟨by have := HK1.out; first | omega | exact Nat.le_refl _⟩, ⟨by (with_reducible repeat (first | apply Kd.R_alloc | apply Kd.R_drewN | apply Kd.R_drew)); exact HO_7.out⟩, ⟨by repeat (first | (with_reducible first | exact HB.out | apply below_alloc | apply pw_below_drewN | apply below_drew1) | exact HB.out)⟩⟩
            · rw [if_neg c11] at H
              have c11b0 : decide (x9_1 < (t292.length : Int)) = false := decide_eq_false c11
              clear c11
              (first | rw [c11b0] | (simp only [i64_w, i32_w]; rw [c11b0]) | skip)
              have H' := Aside0.mk H
              clear H
              obtain ⟨Ao13, co13, eo13⟩ := Kd.R_slice HO_7.out
              subst eo13
              go_wp2
              repeat (go_quiet (fail); try go_wp2)
              go_meet
              case rel => exact ⟨_, (false), (by first | rfl | (simp; done) | (simp [*]; done)), H', ⟨by have := HK1.out; first | omega | exact Nat.le_refl _⟩, ⟨by (with_reducible repeat (first | apply Kd.R_alloc | apply Kd.R_drewN | apply Kd.R_drew)); exact HO_7.out⟩, ⟨by repeat (first | (with_reducible first | exact HB.out | apply below_alloc | apply pw_below_drewN | apply below_drew1) | exact HB.out)⟩⟩
          case rest =>
            clear HC10
            try clear c1
            try clear p2
            try clear c4
            try clear c5
            try clear c5b0
            try clear c5b1
            try clear p6
            try clear c8
            try clear c11
            try clear c11b0
            try clear p2
            try clear p6
            obtain ⟨kq, x32_9, rfl, HA, HJ9, HO_7, HB⟩ := hcut
            cases kq with
            | zero => exact absurd HA.out (by simp [dustmanlaw04_PicksFair.j1])
            | succ kj9 =>
              have H := HA.out
              clear HA
              simp only [dustmanlaw04_PicksFair.j1] at H
              by_cases c14 : x32_9 = true
              · subst c14
                have H1 : (if 0 ≤ x9_1 then (if x9_1 < (t292.length : Int) then (if 0 ≤ x8_1 then (if x8_1 < (l0.length : Int) then (if (((rd_T34 t292 x9_1).f0) == ((rd_T34 l0 x8_1).f0) && (((rd_T34 t292 x9_1).f1) == ((rd_T34 l0 x8_1).f1))) = true then (dustmanlaw04_PicksFair.l0 kj9 l0 (wrap64 ((wrap64 (Int.tmod a1 6)) + 1)) t292 (wrap64 (x8_1 + 1)) (wrap64 (x9_1 + 1))) else (dustmanlaw04_PicksFair.l0 kj9 l0 (wrap64 ((wrap64 (Int.tmod a1 6)) + 1)) t292 x8_1 (wrap64 (x9_1 + 1)))) else (none)) else (none)) else (none)) else (none)) = some r := by rw [if_pos rfl] at H; exact H
                clear H
                have H := H1
                clear H1
                by_cases c15 : 0 ≤ x9_1
                · rw [if_pos c15] at H
                  have c15b0 : decide (0 ≤ x9_1) = true := decide_eq_true c15
                  clear c15
                  by_cases c16 : x9_1 < (t292.length : Int)
                  · rw [if_pos c16] at H
                    have c16b0 : decide (x9_1 < (t292.length : Int)) = true := decide_eq_true c16
                    clear c16
                    by_cases c17 : 0 ≤ x8_1
                    · rw [if_pos c17] at H
                      have c17b0 : decide (0 ≤ x8_1) = true := decide_eq_true c17
                      clear c17
                      by_cases c18 : x8_1 < (l0.length : Int)
                      · rw [if_pos c18] at H
                        have c18b0 : decide (x8_1 < (l0.length : Int)) = true := decide_eq_true c18
                        clear c18
                        by_cases c19 : (((rd_T34 t292 x9_1).f0) == ((rd_T34 l0 x8_1).f0) && (((rd_T34 t292 x9_1).f1) == ((rd_T34 l0 x8_1).f1))) = true
                        · rw [if_pos c19] at H
                          have c19b0 : (((rd_T34 t292 x9_1).f0) == ((rd_T34 l0 x8_1).f0) && (((rd_T34 t292 x9_1).f1) == ((rd_T34 l0 x8_1).f1))) = true := c19
                          (try (have c19b1 : decide (((rd_T34 t292 x9_1).f0) = ((rd_T34 l0 x8_1).f0) && (((rd_T34 t292 x9_1).f1) == ((rd_T34 l0 x8_1).f1))) = true := by simpa using c19))
                          (try (have c19b2 : (((rd_T34 t292 x9_1).f0) == ((rd_T34 l0 x8_1).f0) && (((rd_T34 t292 x9_1).f1) == ((rd_T34 l0 x8_1).f1))) = true := by simpa using c19))
                          clear c19
                          have H' := Aside0.mk H
                          clear H
                          obtain ⟨Ao20, co20, eo20⟩ := Kd.R_slice HO_7.out
                          subst eo20
                          have p295 : 0 ≤ (x9_1 : Int) := of_decide_eq_true (by first | (with_reducible assumption) | assumption)
                          have q295 : x9_1 < (t292.length : Int) := of_decide_eq_true (by first | (with_reducible assumption) | assumption)
                          obtain ⟨ad295, e295, hx295_0, hx295_1⟩ := at_T34 (Kd.R_reads' HO_7.out).2.2 x9_1 p295 q295
                          cases e295
                          replace p295 := eq_true p295
                          replace q295 := eq_true q295
                          have p296 : 0 ≤ (x8_1 : Int) := of_decide_eq_true (by first | (with_reducible assumption) | assumption)
                          have q296 : x8_1 < (l0.length : Int) := of_decide_eq_true (by first | (with_reducible assumption) | assumption)
                          obtain ⟨ad296, e296, hx296_0, hx296_1⟩ := at_T34 HR0.out x8_1 p296 q296
                          cases e296
                          replace hx296_0 := (HB.out.cell (World.block_lt_of_cell? w _ hx296_0)).trans hx296_0
                          replace hx296_1 := (HB.out.cell (World.block_lt_of_cell? w _ hx296_1)).trans hx296_1
                          replace p296 := eq_true p296
                          replace q296 := eq_true q296
                          go_wp2
                          repeat (go_quiet (fail); try go_wp2)
                          go_roundg kj9
                          case measure => have := HK1.out; have := HJ9.out; omega
                          case rel => exact ⟨(wrap64 (x8_1 + 1)), (wrap64 (x9_1 + 1)), (by first | rfl | (simp; done) | (simp [*]; done)), (by first | rfl | (simp; done) | (simp [*]; done)), H', ⟨by have := HK1.out; have := HJ9.out; omega⟩, ⟨by (with_reducible repeat (first | apply Kd.R_alloc | apply Kd.R_drewN | apply Kd.R_drew)); exact HO_7.out⟩, ⟨by repeat (first | (with_reducible first | exact HB.out | apply below_alloc | apply pw_below_drewN | apply below_drew1) | exact HB.out)⟩⟩
                        · rw [if_neg c19] at H
                          have c19b0 : (((rd_T34 t292 x9_1).f0) == ((rd_T34 l0 x8_1).f0) && (((rd_T34 t292 x9_1).f1) == ((rd_T34 l0 x8_1).f1))) = false := by simpa using c19
                          (try (have c19b1 : decide (((rd_T34 t292 x9_1).f0) = ((rd_T34 l0 x8_1).f0) && (((rd_T34 t292 x9_1).f1) == ((rd_T34 l0 x8_1).f1))) = false := by simpa using c19))
                          (try (have c19b2 : (((rd_T34 t292 x9_1).f0) == ((rd_T34 l0 x8_1).f0) && (((rd_T34 t292 x9_1).f1) == ((rd_T34 l0 x8_1).f1))) = false := by simpa using c19))
                          (try (have c19b3 : ¬ (((rd_T34 t292 x9_1).f0) = ((rd_T34 l0 x8_1).f0) && (((rd_T34 t292 x9_1).f1) == ((rd_T34 l0 x8_1).f1))) := by simpa using c19))
                          clear c19
                          have H' := Aside0.mk H
                          clear H
                          obtain ⟨Ao21, co21, eo21⟩ := Kd.R_slice HO_7.out
                          subst eo21
                          have p295 : 0 ≤ (x9_1 : Int) := of_decide_eq_true (by first | (with_reducible assumption) | assumption)
                          have q295 : x9_1 < (t292.length : Int) := of_decide_eq_true (by first | (with_reducible assumption) | assumption)
                          obtain ⟨ad295, e295, hx295_0, hx295_1⟩ := at_T34 (Kd.R_reads' HO_7.out).2.2 x9_1 p295 q295
                          cases e295
                          replace p295 := eq_true p295
                          replace q295 := eq_true q295
                          have p296 : 0 ≤ (x8_1 : Int) := of_decide_eq_true (by first | (with_reducible assumption) | assumption)
                          have q296 : x8_1 < (l0.length : Int) := of_decide_eq_true (by first | (with_reducible assumption) | assumption)
                          obtain ⟨ad296, e296, hx296_0, hx296_1⟩ := at_T34 HR0.out x8_1 p296 q296
                          cases e296
                          replace hx296_0 := (HB.out.cell (World.block_lt_of_cell? w _ hx296_0)).trans hx296_0
                          replace hx296_1 := (HB.out.cell (World.block_lt_of_cell? w _ hx296_1)).trans hx296_1
                          replace p296 := eq_true p296
                          replace q296 := eq_true q296
                          go_wp2
                          repeat (go_quiet (fail); try go_wp2)
                          go_roundg kj9
                          case measure => have := HK1.out; have := HJ9.out; omega
                          case rel => exact ⟨(x8_1), (wrap64 (x9_1 + 1)), (by first | rfl | (simp; done) | (simp [*]; done)), (by first | rfl | (simp; done) | (simp [*]; done)), H', ⟨by have := HK1.out; have := HJ9.out; omega⟩, ⟨by (with_reducible repeat (first | apply Kd.R_alloc | apply Kd.R_drewN | apply Kd.R_drew)); exact HO_7.out⟩, ⟨by repeat (first | (with_reducible first | exact HB.out | apply below_alloc | apply pw_below_drewN | apply below_drew1) | exact HB.out)⟩⟩
                      · rw [if_neg c18] at H
                        exact absurd H (by simp)
                    · rw [if_neg c17] at H
                      exact absurd H (by simp)
                  · rw [if_neg c16] at H
                    exact absurd H (by simp)
                · rw [if_neg c15] at H
                  exact absurd H (by simp)
              · replace c14 := Bool.eq_false_iff.mpr c14
                subst c14
                have H1 : (if x8_1 = (l0.length : Int) then ((picks_Who.f kj9 t292).bind fun t297 => ((dustmanref03_Windows.f kj9 t297 (wrap64 ((wrap64 (Int.tmod a1 6)) + 1)) (wrap64 ((wrap64 (2 * (wrap64 ((wrap64 (Int.tmod a1 6)) + 1)))) + 1))).bind fun t300 => (if t300 = true then ((picks_Who.f kj9 t292).bind fun t301 => ((plan_Windows.f kj9 t301 (wrap64 ((wrap64 (Int.tmod a1 6)) + 1)) (wrap64 ((wrap64 (2 * (wrap64 ((wrap64 (Int.tmod a1 6)) + 1)))) + 1))).bind fun t304 => (some t304))) else (some false)))) else (some false)) = some r := by rw [if_neg (show ¬ (false = true) by decide)] at H; exact H
                clear H
                have H := H1
                clear H1
                by_cases c22 : x8_1 = (l0.length : Int)
                · rw [if_pos c22] at H
                  have c22b0 : (x8_1 == (l0.length : Int)) = true := beq_iff_eq.mpr c22
                  have c22b1 : (x8_1 != (l0.length : Int)) = false := bne_eq_false_iff_eq.mpr c22
                  clear c22
                  replace H := Option.bind_eq_some_iff.mp H
                  obtain ⟨t297, A230, H⟩ := H
                  replace H : ((dustmanref03_Windows.f kj9 t297 (wrap64 ((wrap64 (Int.tmod a1 6)) + 1)) (wrap64 ((wrap64 (2 * (wrap64 ((wrap64 (Int.tmod a1 6)) + 1)))) + 1))).bind fun t300 => (if t300 = true then ((picks_Who.f kj9 t292).bind fun t301 => ((plan_Windows.f kj9 t301 (wrap64 ((wrap64 (Int.tmod a1 6)) + 1)) (wrap64 ((wrap64 (2 * (wrap64 ((wrap64 (Int.tmod a1 6)) + 1)))) + 1))).bind fun t304 => (some t304))) else (some false))) = some r := H
                  have A23 := Aside0.mk A230
                  clear A230
                  replace H := Option.bind_eq_some_iff.mp H
                  obtain ⟨t300, A240, H⟩ := H
                  replace H : (if t300 = true then ((picks_Who.f kj9 t292).bind fun t301 => ((plan_Windows.f kj9 t301 (wrap64 ((wrap64 (Int.tmod a1 6)) + 1)) (wrap64 ((wrap64 (2 * (wrap64 ((wrap64 (Int.tmod a1 6)) + 1)))) + 1))).bind fun t304 => (some t304))) else (some false)) = some r := H
                  have A24 := Aside0.mk A240
                  clear A240
                  by_cases c25 : t300 = true
                  · subst c25
                    have H1 : ((picks_Who.f kj9 t292).bind fun t301 => ((plan_Windows.f kj9 t301 (wrap64 ((wrap64 (Int.tmod a1 6)) + 1)) (wrap64 ((wrap64 (2 * (wrap64 ((wrap64 (Int.tmod a1 6)) + 1)))) + 1))).bind fun t304 => (some t304))) = some r := by rw [if_pos rfl] at H; exact H
                    clear H
                    have H := H1
                    clear H1
                    replace H := Option.bind_eq_some_iff.mp H
                    obtain ⟨t301, A260, H⟩ := H
                    replace H : ((plan_Windows.f kj9 t301 (wrap64 ((wrap64 (Int.tmod a1 6)) + 1)) (wrap64 ((wrap64 (2 * (wrap64 ((wrap64 (Int.tmod a1 6)) + 1)))) + 1))).bind fun t304 => (some t304)) = some r := H
                    have A26 := Aside0.mk A260
                    clear A260
                    replace H := Option.bind_eq_some_iff.mp H
                    obtain ⟨t304, A270, H⟩ := H
                    replace H : (some t304) = some r := H
                    have A27 := Aside0.mk A270
                    clear A270
                    obtain rfl := Option.some.inj H
                    obtain ⟨Ao28, co28, eo28⟩ := Kd.R_slice HO_7.out
                    subst eo28
                    have tok1 : True := trivial
                    go_wp2_with (first | (go_at_call 16; clear tok1; (with_reducible refine (picks_Who.calls kj9 _ _ t292 t297 _ ?side1 ?side2 A23.out).mono ?_); (case side1 => repeat (first | exact (Kd.R_reads' HO_7.out).2.2 | (with_reducible refine Kd.C_alloc ?_ _) | (with_reducible refine Kd.C_drewN ?_ _) | (with_reducible refine Kd.C_drew ?_))); (case side2 => exact (Kd.R_reads' HO_7.out).2.1); rintro e w29 ⟨v298, rfl, ho0, hb⟩; have n0_ := Aside0.mk (Kd.R_below (by (with_reducible repeat (first | apply Kd.R_alloc | apply Kd.R_drewN | apply Kd.R_drew)); exact HO_7.out) hb); have n1_ := Aside0.mk (Kd.R_lower ho0 (below_size (by repeat (first | (with_reducible first | exact HB.out | apply below_alloc | apply pw_below_drewN | apply below_drew1) | exact HB.out)))); have n2_ := Aside0.mk (below_step (by repeat (first | (with_reducible first | exact HB.out | apply below_alloc | apply pw_below_drewN | apply below_drew1) | exact HB.out)) hb); clear HO_7; clear HB; have HO_7 := n0_; have HO299 := n1_; have HB := n2_; clear n0_ n1_ n2_; (try clear hb); (try clear hb2); (try clear hk); (try clear hi); (try clear ho0); obtain ⟨Ao30, co30, eo30⟩ := Kd.R_slice HO299.out; subst eo30) | (go_at_call 21; (with_reducible refine (dustmanref03_Windows.calls kj9 _ _ t297 (wrap64 ((wrap64 (Int.tmod a1 6)) + 1)) (wrap64 ((wrap64 (2 * (wrap64 ((wrap64 (Int.tmod a1 6)) + 1)))) + 1)) true _ ?side1 ?side2 A24.out).mono ?_); (case side1 => repeat (first | exact (Kd.R_reads' HO299.out).2.2 | (with_reducible refine Kd.C_alloc ?_ _) | (with_reducible refine Kd.C_drewN ?_ _) | (with_reducible refine Kd.C_drew ?_))); (case side2 => exact (Kd.R_reads' HO299.out).2.1); rintro e w' ⟨rfl, ⟨nd, rfl⟩⟩; (try first | exact ⟨rfl, _, World.drewN_drewN _ _ _⟩ | exact ⟨rfl, _, Eq.trans (World.drewN_drewN _ _ _) (congrArg (World.drewN _) (Nat.add_assoc _ _ _))⟩)) | (go_at_call 16; (with_reducible refine (picks_Who.calls kj9 _ _ t292 t301 _ ?side1 ?side2 A26.out).mono ?_); (case side1 => repeat (first | exact (Kd.R_reads' HO_7.out).2.2 | (with_reducible refine Kd.C_alloc ?_ _) | (with_reducible refine Kd.C_drewN ?_ _) | (with_reducible refine Kd.C_drew ?_))); (case side2 => exact (Kd.R_reads' HO_7.out).2.1); rintro e w31 ⟨v302, rfl, ho0, hb⟩; have n0_ := Aside0.mk (Kd.R_below (by (with_reducible repeat (first | apply Kd.R_alloc | apply Kd.R_drewN | apply Kd.R_drew)); exact HO_7.out) hb); have n1_ := Aside0.mk (Kd.R_elder' (by (with_reducible repeat (first | apply Kd.R_alloc | apply Kd.R_drewN | apply Kd.R_drew)); exact HO299.out) (Kd.R_base ho0) hb); have n2_ := Aside0.mk (Kd.R_lower (Kd.R_new' ho0 (Kd.R_lt (by (with_reducible repeat (first | apply Kd.R_alloc | apply Kd.R_drewN | apply Kd.R_drew)); exact HO299.out))) (below_size (by repeat (first | (with_reducible first | exact HB.out | apply below_alloc | apply pw_below_drewN | apply below_drew1) | exact HB.out)))); have n3_ := Aside0.mk (below_step (by repeat (first | (with_reducible first | exact HB.out | apply below_alloc | apply pw_below_drewN | apply below_drew1) | exact HB.out)) hb); clear HO_7; clear HO299; clear HB; have HO_7 := n0_; have HO299 := n1_; have HO303 := n2_; have HB := n3_; clear n0_ n1_ n2_ n3_; (try clear hb); (try clear hb2); (try clear hk); (try clear hi); (try clear ho0); obtain ⟨Ao32, co32, eo32⟩ := Kd.R_slice HO303.out; subst eo32) | (go_at_call 22; (with_reducible refine (plan_Windows.calls kj9 _ _ t301 (wrap64 ((wrap64 (Int.tmod a1 6)) + 1)) (wrap64 ((wrap64 (2 * (wrap64 ((wrap64 (Int.tmod a1 6)) + 1)))) + 1)) t304 _ ?side1 ?side2 A27.out).mono ?_); (case side1 => repeat (first | exact (Kd.R_reads' HO303.out).2.2 | (with_reducible refine Kd.C_alloc ?_ _) | (with_reducible refine Kd.C_drewN ?_ _) | (with_reducible refine Kd.C_drew ?_))); (case side2 => exact (Kd.R_reads' HO303.out).2.1); rintro e w33 ⟨rfl, hb⟩; have n0_ := Aside0.mk (Kd.R_below (by (with_reducible repeat (first | apply Kd.R_alloc | apply Kd.R_drewN | apply Kd.R_drew)); exact HO_7.out) hb); have n1_ := Aside0.mk (Kd.R_below (by (with_reducible repeat (first | apply Kd.R_alloc | apply Kd.R_drewN | apply Kd.R_drew)); exact HO299.out) hb); have n2_ := Aside0.mk (Kd.R_below (by (with_reducible repeat (first | apply Kd.R_alloc | apply Kd.R_drewN | apply Kd.R_drew)); exact HO303.out) hb); have n3_ := Aside0.mk (below_step (by repeat (first | (with_reducible first | exact HB.out | apply below_alloc | apply pw_below_drewN | apply below_drew1) | exact HB.out)) hb); clear HO_7; clear HO299; clear HO303; clear HB; have HO_7 := n0_; have HO299 := n1_; have HO303 := n2_; have HB := n3_; clear n0_ n1_ n2_ n3_; (try clear hb); (try clear hb2); (try clear hk); (try clear hi)))
                    repeat (go_quiet (first | (go_at_call 16; (with_reducible refine (picks_Who.calls kj9 _ _ t292 t297 _ ?side1 ?side2 A23.out).mono ?_); (case side1 => repeat (first | exact (Kd.R_reads' HO_7.out).2.2 | (with_reducible refine Kd.C_alloc ?_ _) | (with_reducible refine Kd.C_drewN ?_ _) | (with_reducible refine Kd.C_drew ?_))); (case side2 => exact (Kd.R_reads' HO_7.out).2.1); rintro e w29 ⟨v298, rfl, ho0, hb⟩; have n0_ := Aside0.mk (Kd.R_below (by (with_reducible repeat (first | apply Kd.R_alloc | apply Kd.R_drewN | apply Kd.R_drew)); exact HO_7.out) hb); have n1_ := Aside0.mk (Kd.R_lower ho0 (below_size (by repeat (first | (with_reducible first | exact HB.out | apply below_alloc | apply pw_below_drewN | apply below_drew1) | exact HB.out)))); have n2_ := Aside0.mk (below_step (by repeat (first | (with_reducible first | exact HB.out | apply below_alloc | apply pw_below_drewN | apply below_drew1) | exact HB.out)) hb); clear HO_7; clear HB; have HO_7 := n0_; have HO299 := n1_; have HB := n2_; clear n0_ n1_ n2_; (try clear hb); (try clear hb2); (try clear hk); (try clear hi); (try clear ho0); obtain ⟨Ao30, co30, eo30⟩ := Kd.R_slice HO299.out; subst eo30) | (go_at_call 21; (with_reducible refine (dustmanref03_Windows.calls kj9 _ _ t297 (wrap64 ((wrap64 (Int.tmod a1 6)) + 1)) (wrap64 ((wrap64 (2 * (wrap64 ((wrap64 (Int.tmod a1 6)) + 1)))) + 1)) true _ ?side1 ?side2 A24.out).mono ?_); (case side1 => repeat (first | exact (Kd.R_reads' HO299.out).2.2 | (with_reducible refine Kd.C_alloc ?_ _) | (with_reducible refine Kd.C_drewN ?_ _) | (with_reducible refine Kd.C_drew ?_))); (case side2 => exact (Kd.R_reads' HO299.out).2.1); rintro e w' ⟨rfl, ⟨nd, rfl⟩⟩; (try first | exact ⟨rfl, _, World.drewN_drewN _ _ _⟩ | exact ⟨rfl, _, Eq.trans (World.drewN_drewN _ _ _) (congrArg (World.drewN _) (Nat.add_assoc _ _ _))⟩)) | (go_at_call 16; (with_reducible refine (picks_Who.calls kj9 _ _ t292 t301 _ ?side1 ?side2 A26.out).mono ?_); (case side1 => repeat (first | exact (Kd.R_reads' HO_7.out).2.2 | (with_reducible refine Kd.C_alloc ?_ _) | (with_reducible refine Kd.C_drewN ?_ _) | (with_reducible refine Kd.C_drew ?_))); (case side2 => exact (Kd.R_reads' HO_7.out).2.1); rintro e w31 ⟨v302, rfl, ho0, hb⟩; have n0_ := Aside0.mk (Kd.R_below (by (with_reducible repeat (first | apply Kd.R_alloc | apply Kd.R_drewN | apply Kd.R_drew)); exact HO_7.out) hb); have n1_ := Aside0.mk (Kd.R_elder' (by (with_reducible repeat (first | apply Kd.R_alloc | apply Kd.R_drewN | apply Kd.R_drew)); exact HO299.out) (Kd.R_base ho0) hb); have n2_ := Aside0.mk (Kd.R_lower (Kd.R_new' ho0 (Kd.R_lt (by (with_reducible repeat (first | apply Kd.R_alloc | apply Kd.R_drewN | apply Kd.R_drew)); exact HO299.out))) (below_size (by repeat (first | (with_reducible first | exact HB.out | apply below_alloc | apply pw_below_drewN | apply below_drew1) | exact HB.out)))); have n3_ := Aside0.mk (below_step (by repeat (first | (with_reducible first | exact HB.out | apply below_alloc | apply pw_below_drewN | apply below_drew1) | exact HB.out)) hb); clear HO_7; clear HO299; clear HB; have HO_7 := n0_; have HO299 := n1_; have HO303 := n2_; have HB := n3_; clear n0_ n1_ n2_ n3_; (try clear hb); (try clear hb2); (try clear hk); (try clear hi); (try clear ho0); obtain ⟨Ao32, co32, eo32⟩ := Kd.R_slice HO303.out; subst eo32) | (go_at_call 22; (with_reducible refine (plan_Windows.calls kj9 _ _ t301 (wrap64 ((wrap64 (Int.tmod a1 6)) + 1)) (wrap64 ((wrap64 (2 * (wrap64 ((wrap64 (Int.tmod a1 6)) + 1)))) + 1)) t304 _ ?side1 ?side2 A27.out).mono ?_); (case side1 => repeat (first | exact (Kd.R_reads' HO303.out).2.2 | (with_reducible refine Kd.C_alloc ?_ _) | (with_reducible refine Kd.C_drewN ?_ _) | (with_reducible refine Kd.C_drew ?_))); (case side2 => exact (Kd.R_reads' HO303.out).2.1); rintro e w33 ⟨rfl, hb⟩; have n0_ := Aside0.mk (Kd.R_below (by (with_reducible repeat (first | apply Kd.R_alloc | apply Kd.R_drewN | apply Kd.R_drew)); exact HO_7.out) hb); have n1_ := Aside0.mk (Kd.R_below (by (with_reducible repeat (first | apply Kd.R_alloc | apply Kd.R_drewN | apply Kd.R_drew)); exact HO299.out) hb); have n2_ := Aside0.mk (Kd.R_below (by (with_reducible repeat (first | apply Kd.R_alloc | apply Kd.R_drewN | apply Kd.R_drew)); exact HO303.out) hb); have n3_ := Aside0.mk (below_step (by repeat (first | (with_reducible first | exact HB.out | apply below_alloc | apply pw_below_drewN | apply below_drew1) | exact HB.out)) hb); clear HO_7; clear HO299; clear HO303; clear HB; have HO_7 := n0_; have HO299 := n1_; have HO303 := n2_; have HB := n3_; clear n0_ n1_ n2_ n3_; (try clear hb); (try clear hb2); (try clear hk); (try clear hi))); try go_wp2_with (first | (go_at_call 16; (with_reducible refine (picks_Who.calls kj9 _ _ t292 t297 _ ?side1 ?side2 A23.out).mono ?_); (case side1 => repeat (first | exact (Kd.R_reads' HO_7.out).2.2 | (with_reducible refine Kd.C_alloc ?_ _) | (with_reducible refine Kd.C_drewN ?_ _) | (with_reducible refine Kd.C_drew ?_))); (case side2 => exact (Kd.R_reads' HO_7.out).2.1); rintro e w29 ⟨v298, rfl, ho0, hb⟩; have n0_ := Aside0.mk (Kd.R_below (by (with_reducible repeat (first | apply Kd.R_alloc | apply Kd.R_drewN | apply Kd.R_drew)); exact HO_7.out) hb); have n1_ := Aside0.mk (Kd.R_lower ho0 (below_size (by repeat (first | (with_reducible first | exact HB.out | apply below_alloc | apply pw_below_drewN | apply below_drew1) | exact HB.out)))); have n2_ := Aside0.mk (below_step (by repeat (first | (with_reducible first | exact HB.out | apply below_alloc | apply pw_below_drewN | apply below_drew1) | exact HB.out)) hb); clear HO_7; clear HB; have HO_7 := n0_; have HO299 := n1_; have HB := n2_; clear n0_ n1_ n2_; (try clear hb); (try clear hb2); (try clear hk); (try clear hi); (try clear ho0); obtain ⟨Ao30, co30, eo30⟩ := Kd.R_slice HO299.out; subst eo30) | (go_at_call 21; (with_reducible refine (dustmanref03_Windows.calls kj9 _ _ t297 (wrap64 ((wrap64 (Int.tmod a1 6)) + 1)) (wrap64 ((wrap64 (2 * (wrap64 ((wrap64 (Int.tmod a1 6)) + 1)))) + 1)) true _ ?side1 ?side2 A24.out).mono ?_); (case side1 => repeat (first | exact (Kd.R_reads' HO299.out).2.2 | (with_reducible refine Kd.C_alloc ?_ _) | (with_reducible refine Kd.C_drewN ?_ _) | (with_reducible refine Kd.C_drew ?_))); (case side2 => exact (Kd.R_reads' HO299.out).2.1); rintro e w' ⟨rfl, ⟨nd, rfl⟩⟩; (try first | exact ⟨rfl, _, World.drewN_drewN _ _ _⟩ | exact ⟨rfl, _, Eq.trans (World.drewN_drewN _ _ _) (congrArg (World.drewN _) (Nat.add_assoc _ _ _))⟩)) | (go_at_call 16; (with_reducible refine (picks_Who.calls kj9 _ _ t292 t301 _ ?side1 ?side2 A26.out).mono ?_); (case side1 => repeat (first | exact (Kd.R_reads' HO_7.out).2.2 | (with_reducible refine Kd.C_alloc ?_ _) | (with_reducible refine Kd.C_drewN ?_ _) | (with_reducible refine Kd.C_drew ?_))); (case side2 => exact (Kd.R_reads' HO_7.out).2.1); rintro e w31 ⟨v302, rfl, ho0, hb⟩; have n0_ := Aside0.mk (Kd.R_below (by (with_reducible repeat (first | apply Kd.R_alloc | apply Kd.R_drewN | apply Kd.R_drew)); exact HO_7.out) hb); have n1_ := Aside0.mk (Kd.R_elder' (by (with_reducible repeat (first | apply Kd.R_alloc | apply Kd.R_drewN | apply Kd.R_drew)); exact HO299.out) (Kd.R_base ho0) hb); have n2_ := Aside0.mk (Kd.R_lower (Kd.R_new' ho0 (Kd.R_lt (by (with_reducible repeat (first | apply Kd.R_alloc | apply Kd.R_drewN | apply Kd.R_drew)); exact HO299.out))) (below_size (by repeat (first | (with_reducible first | exact HB.out | apply below_alloc | apply pw_below_drewN | apply below_drew1) | exact HB.out)))); have n3_ := Aside0.mk (below_step (by repeat (first | (with_reducible first | exact HB.out | apply below_alloc | apply pw_below_drewN | apply below_drew1) | exact HB.out)) hb); clear HO_7; clear HO299; clear HB; have HO_7 := n0_; have HO299 := n1_; have HO303 := n2_; have HB := n3_; clear n0_ n1_ n2_ n3_; (try clear hb); (try clear hb2); (try clear hk); (try clear hi); (try clear ho0); obtain ⟨Ao32, co32, eo32⟩ := Kd.R_slice HO303.out; subst eo32) | (go_at_call 22; (with_reducible refine (plan_Windows.calls kj9 _ _ t301 (wrap64 ((wrap64 (Int.tmod a1 6)) + 1)) (wrap64 ((wrap64 (2 * (wrap64 ((wrap64 (Int.tmod a1 6)) + 1)))) + 1)) t304 _ ?side1 ?side2 A27.out).mono ?_); (case side1 => repeat (first | exact (Kd.R_reads' HO303.out).2.2 | (with_reducible refine Kd.C_alloc ?_ _) | (with_reducible refine Kd.C_drewN ?_ _) | (with_reducible refine Kd.C_drew ?_))); (case side2 => exact (Kd.R_reads' HO303.out).2.1); rintro e w33 ⟨rfl, hb⟩; have n0_ := Aside0.mk (Kd.R_below (by (with_reducible repeat (first | apply Kd.R_alloc | apply Kd.R_drewN | apply Kd.R_drew)); exact HO_7.out) hb); have n1_ := Aside0.mk (Kd.R_below (by (with_reducible repeat (first | apply Kd.R_alloc | apply Kd.R_drewN | apply Kd.R_drew)); exact HO299.out) hb); have n2_ := Aside0.mk (Kd.R_below (by (with_reducible repeat (first | apply Kd.R_alloc | apply Kd.R_drewN | apply Kd.R_drew)); exact HO303.out) hb); have n3_ := Aside0.mk (below_step (by repeat (first | (with_reducible first | exact HB.out | apply below_alloc | apply pw_below_drewN | apply below_drew1) | exact HB.out)) hb); clear HO_7; clear HO299; clear HO303; clear HB; have HO_7 := n0_; have HO299 := n1_; have HO303 := n2_; have HB := n3_; clear n0_ n1_ n2_ n3_; (try clear hb); (try clear hb2); (try clear hk); (try clear hi))))
                    go_ret
                    exact ⟨by first | rfl | (simp [errW_none, errW_some] <;> rfl) | (simp [*, errW_none, errW_some] <;> rfl), by repeat (first | (with_reducible first | exact HB.out | apply below_alloc | apply pw_below_drewN | apply below_drew1) | exact HB.out)⟩
                  · replace c25 := Bool.eq_false_iff.mpr c25
                    subst c25
                    have H1 : (some false) = some r := by rw [if_neg (show ¬ (false = true) by decide)] at H; exact H
                    clear H
                    have H := H1
                    clear H1
                    obtain rfl := Option.some.inj H
                    obtain ⟨Ao34, co34, eo34⟩ := Kd.R_slice HO_7.out
                    subst eo34
                    go_wp2_with (first | (go_at_call 16; (with_reducible refine (picks_Who.calls kj9 _ _ t292 t297 _ ?side1 ?side2 A23.out).mono ?_); (case side1 => repeat (first | exact (Kd.R_reads' HO_7.out).2.2 | (with_reducible refine Kd.C_alloc ?_ _) | (with_reducible refine Kd.C_drewN ?_ _) | (with_reducible refine Kd.C_drew ?_))); (case side2 => exact (Kd.R_reads' HO_7.out).2.1); rintro e w35 ⟨v298, rfl, ho0, hb⟩; have n0_ := Aside0.mk (Kd.R_below (by (with_reducible repeat (first | apply Kd.R_alloc | apply Kd.R_drewN | apply Kd.R_drew)); exact HO_7.out) hb); have n1_ := Aside0.mk (Kd.R_lower ho0 (below_size (by repeat (first | (with_reducible first | exact HB.out | apply below_alloc | apply pw_below_drewN | apply below_drew1) | exact HB.out)))); have n2_ := Aside0.mk (below_step (by repeat (first | (with_reducible first | exact HB.out | apply below_alloc | apply pw_below_drewN | apply below_drew1) | exact HB.out)) hb); clear HO_7; clear HB; have HO_7 := n0_; have HO299 := n1_; have HB := n2_; clear n0_ n1_ n2_; (try clear hb); (try clear hb2); (try clear hk); (try clear hi); (try clear ho0); obtain ⟨Ao36, co36, eo36⟩ := Kd.R_slice HO299.out; subst eo36) | (go_at_call 21; (with_reducible refine (dustmanref03_Windows.calls kj9 _ _ t297 (wrap64 ((wrap64 (Int.tmod a1 6)) + 1)) (wrap64 ((wrap64 (2 * (wrap64 ((wrap64 (Int.tmod a1 6)) + 1)))) + 1)) false _ ?side1 ?side2 A24.out).mono ?_); (case side1 => repeat (first | exact (Kd.R_reads' HO299.out).2.2 | (with_reducible refine Kd.C_alloc ?_ _) | (with_reducible refine Kd.C_drewN ?_ _) | (with_reducible refine Kd.C_drew ?_))); (case side2 => exact (Kd.R_reads' HO299.out).2.1); rintro e w' ⟨rfl, ⟨nd, rfl⟩⟩; (try first | exact ⟨rfl, _, World.drewN_drewN _ _ _⟩ | exact ⟨rfl, _, Eq.trans (World.drewN_drewN _ _ _) (congrArg (World.drewN _) (Nat.add_assoc _ _ _))⟩)))
                    repeat (go_quiet (first | (go_at_call 16; (with_reducible refine (picks_Who.calls kj9 _ _ t292 t297 _ ?side1 ?side2 A23.out).mono ?_); (case side1 => repeat (first | exact (Kd.R_reads' HO_7.out).2.2 | (with_reducible refine Kd.C_alloc ?_ _) | (with_reducible refine Kd.C_drewN ?_ _) | (with_reducible refine Kd.C_drew ?_))); (case side2 => exact (Kd.R_reads' HO_7.out).2.1); rintro e w35 ⟨v298, rfl, ho0, hb⟩; have n0_ := Aside0.mk (Kd.R_below (by (with_reducible repeat (first | apply Kd.R_alloc | apply Kd.R_drewN | apply Kd.R_drew)); exact HO_7.out) hb); have n1_ := Aside0.mk (Kd.R_lower ho0 (below_size (by repeat (first | (with_reducible first | exact HB.out | apply below_alloc | apply pw_below_drewN | apply below_drew1) | exact HB.out)))); have n2_ := Aside0.mk (below_step (by repeat (first | (with_reducible first | exact HB.out | apply below_alloc | apply pw_below_drewN | apply below_drew1) | exact HB.out)) hb); clear HO_7; clear HB; have HO_7 := n0_; have HO299 := n1_; have HB := n2_; clear n0_ n1_ n2_; (try clear hb); (try clear hb2); (try clear hk); (try clear hi); (try clear ho0); obtain ⟨Ao36, co36, eo36⟩ := Kd.R_slice HO299.out; subst eo36) | (go_at_call 21; (with_reducible refine (dustmanref03_Windows.calls kj9 _ _ t297 (wrap64 ((wrap64 (Int.tmod a1 6)) + 1)) (wrap64 ((wrap64 (2 * (wrap64 ((wrap64 (Int.tmod a1 6)) + 1)))) + 1)) false _ ?side1 ?side2 A24.out).mono ?_); (case side1 => repeat (first | exact (Kd.R_reads' HO299.out).2.2 | (with_reducible refine Kd.C_alloc ?_ _) | (with_reducible refine Kd.C_drewN ?_ _) | (with_reducible refine Kd.C_drew ?_))); (case side2 => exact (Kd.R_reads' HO299.out).2.1); rintro e w' ⟨rfl, ⟨nd, rfl⟩⟩; (try first | exact ⟨rfl, _, World.drewN_drewN _ _ _⟩ | exact ⟨rfl, _, Eq.trans (World.drewN_drewN _ _ _) (congrArg (World.drewN _) (Nat.add_assoc _ _ _))⟩))); try go_wp2_with (first | (go_at_call 16; (with_reducible refine (picks_Who.calls kj9 _ _ t292 t297 _ ?side1 ?side2 A23.out).mono ?_); (case side1 => repeat (first | exact (Kd.R_reads' HO_7.out).2.2 | (with_reducible refine Kd.C_alloc ?_ _) | (with_reducible refine Kd.C_drewN ?_ _) | (with_reducible refine Kd.C_drew ?_))); (case side2 => exact (Kd.R_reads' HO_7.out).2.1); rintro e w35 ⟨v298, rfl, ho0, hb⟩; have n0_ := Aside0.mk (Kd.R_below (by (with_reducible repeat (first | apply Kd.R_alloc | apply Kd.R_drewN | apply Kd.R_drew)); exact HO_7.out) hb); have n1_ := Aside0.mk (Kd.R_lower ho0 (below_size (by repeat (first | (with_reducible first | exact HB.out | apply below_alloc | apply pw_below_drewN | apply below_drew1) | exact HB.out)))); have n2_ := Aside0.mk (below_step (by repeat (first | (with_reducible first | exact HB.out | apply below_alloc | apply pw_below_drewN | apply below_drew1) | exact HB.out)) hb); clear HO_7; clear HB; have HO_7 := n0_; have HO299 := n1_; have HB := n2_; clear n0_ n1_ n2_; (try clear hb); (try clear hb2); (try clear hk); (try clear hi); (try clear ho0); obtain ⟨Ao36, co36, eo36⟩ := Kd.R_slice HO299.out; subst eo36) | (go_at_call 21; (with_reducible refine (dustmanref03_Windows.calls kj9 _ _ t297 (wrap64 ((wrap64 (Int.tmod a1 6)) + 1)) (wrap64 ((wrap64 (2 * (wrap64 ((wrap64 (Int.tmod a1 6)) + 1)))) + 1)) false _ ?side1 ?side2 A24.out).mono ?_); (case side1 => repeat (first | exact (Kd.R_reads' HO299.out).2.2 | (with_reducible refine Kd.C_alloc ?_ _) | (with_reducible refine Kd.C_drewN ?_ _) | (with_reducible refine Kd.C_drew ?_))); (case side2 => exact (Kd.R_reads' HO299.out).2.1); rintro e w' ⟨rfl, ⟨nd, rfl⟩⟩; (try first | exact ⟨rfl, _, World.drewN_drewN _ _ _⟩ | exact ⟨rfl, _, Eq.trans (World.drewN_drewN _ _ _) (congrArg (World.drewN _) (Nat.add_assoc _ _ _))⟩))))
                    go_ret
                    exact ⟨by first | rfl | (simp [errW_none, errW_some] <;> rfl) | (simp [*, errW_none, errW_some] <;> rfl), by repeat (first | (with_reducible first | exact HB.out | apply below_alloc | apply pw_below_drewN | apply below_drew1) | exact HB.out)⟩
                · rw [if_neg c22] at H
                  have c22b0 : (x8_1 == (l0.length : Int)) = false := beq_eq_false_iff_ne.mpr c22
                  have c22b1 : (x8_1 != (l0.length : Int)) = true := bne_iff_ne.mpr c22
                  obtain rfl := Option.some.inj H
                  go_wp2
                  repeat (go_quiet (fail); try go_wp2)
                  go_ret
                  exact ⟨by first | rfl | (simp [errW_none, errW_some] <;> rfl) | (simp [*, errW_none, errW_some] <;> rfl), by repeat (first | (with_reducible first | exact HB.out | apply below_alloc | apply pw_below_drewN | apply below_drew1) | exact HB.out)⟩
  · replace c4 := Bool.eq_false_iff.mpr c4
    subst c4
    have H1 : (some false) = some r := by rw [if_neg (show ¬ (false = true) by decide)] at H; exact H
    clear H
    have H := H1
    clear H1
    obtain rfl := Option.some.inj H
    go_enter Try.func8, Try.ntmps8
    go_wp2_with (first | (go_at_call 9; (with_reducible refine (dustmanlaw04_awake.calls k  false _ A3.out).mono ?_); rintro e w37 ⟨rfl, hb⟩; have n0_ := Aside0.mk (below_step (by repeat (first | (with_reducible first | exact HB.out | apply below_alloc | apply pw_below_drewN | apply below_drew1) | exact HB.out)) hb); clear HB; have HB := n0_; clear n0_; (try clear hb); (try clear hb2); (try clear hk); (try clear hi)))
    repeat (go_quiet (first | (go_at_call 9; (with_reducible refine (dustmanlaw04_awake.calls k  false _ A3.out).mono ?_); rintro e w37 ⟨rfl, hb⟩; have n0_ := Aside0.mk (below_step (by repeat (first | (with_reducible first | exact HB.out | apply below_alloc | apply pw_below_drewN | apply below_drew1) | exact HB.out)) hb); clear HB; have HB := n0_; clear n0_; (try clear hb); (try clear hb2); (try clear hk); (try clear hi))); try go_wp2_with (first | (go_at_call 9; (with_reducible refine (dustmanlaw04_awake.calls k  false _ A3.out).mono ?_); rintro e w37 ⟨rfl, hb⟩; have n0_ := Aside0.mk (below_step (by repeat (first | (with_reducible first | exact HB.out | apply below_alloc | apply pw_below_drewN | apply below_drew1) | exact HB.out)) hb); clear HB; have HB := n0_; clear n0_; (try clear hb); (try clear hb2); (try clear hk); (try clear hi))))
    go_ret
    exact ⟨by first | rfl | (simp [errW_none, errW_some] <;> rfl) | (simp [*, errW_none, errW_some] <;> rfl), by repeat (first | (with_reducible first | exact HB.out | apply below_alloc | apply pw_below_drewN | apply below_drew1) | exact HB.out)⟩

end Go.Proofs.Ytlhlhlnfojgfgaa.P
