/- Contracts of the Go functions that this claim's law reaches (plain Lean functions with the same answers), written by a program of this session over the kit's print; Lean checks all of it. -/
import Derived.Test.YtlhlhlnfojgfgaaPx0
import Derived.Test.YtlhlhlnfojgfgaaPx4
import Derived.Test.YtlhlhlnfojgfgaaPx7
import Derived.Test.YtlhlhlnfojgfgaaPx9
namespace Go.Proofs.Ytlhlhlnfojgfgaa.P
open Go.RowKit Go.Proofs.YtlhlhlnfojgfgaaW.PrintWords Go.Proofs.YtlhlhlnfojgfgaaW.PrintLast Go.Proofs.YtlhlhlnfojgfgaaW.PrintMore
attribute [local go_sem] max2_int min2_int max_two min_two max_three min_three max_four min_four   -- for this text's walks alone
set_option linter.unusedVariables false
set_option linter.unusedSimpArgs false

/-! ### dustmanlaw04_PicksTurns: function 7 -/
mutual
def dustmanlaw04_PicksTurns.l0 : Nat → Int → Int → Int → List (S34) → List Int → Int → Option (Bool)
  | 0, _, _, _, _, _, _ => none
  | k + 1, x3, x10, x11, x12, x13, x14 => if x14 < (x12.length : Int) then (if 0 ≤ x14 then (if ((rd_T34 x12 x14).f0) < 0 then (some false) else (if ((rd_T34 x12 x14).f0) ≥ x10 then (some false) else (if ((rd_T34 x12 x14).f1) = x3 then (if 0 ≤ ((rd_T34 x12 x14).f0) then (if ((rd_T34 x12 x14).f0) < (x13.length : Int) then (dustmanlaw04_PicksTurns.l0 k x3 x10 x11 x12 (x13.set (((rd_T34 x12 x14).f0) : Int).toNat (wrap64 ((rd x13 ((rd_T34 x12 x14).f0)) + 1))) (wrap64 (x14 + 1))) else (none)) else (none)) else (some false)))) else (none)) else (dustmanlaw04_PicksTurns.l1 k x10 x11 x12 x13 0)
def dustmanlaw04_PicksTurns.l1 : Nat → Int → Int → List (S34) → List Int → Int → Option (Bool)
  | 0, _, _, _, _, _ => none
  | k + 1, x10, x11, x12, x13, x15 => if x15 < x10 then (if 0 ≤ x15 then (if x15 < (x13.length : Int) then (if (rd x13 x15) = x11 then (dustmanlaw04_PicksTurns.l1 k x10 x11 x12 x13 (wrap64 (x15 + 1))) else (some false)) else (none)) else (none)) else ((picks_Who.f k x12).bind fun t285 => ((dustmanref03_Windows.f k t285 x10 x10).bind fun t288 => (some t288)))
end
def dustmanlaw04_PicksTurns.f (k : Nat) (a0 : Int) (a1 : Int) (a2 : Int) (a3 : Int) : Option (Bool) := (dustmanlaw04_awake.f k).bind fun t271 => (if t271 = true then ((picks_Round.f k (wrap64 ((wrap64 (Int.tmod a0 8)) + 1)) (wrap64 (Int.tmod a1 20)) a2 a3).bind fun t272 => (if 0 ≤ (wrap64 ((wrap64 (Int.tmod a0 8)) + 1)) then (if (wrap64 ((wrap64 (Int.tmod a0 8)) + 1) : Int).toNat ≤ 35184372088832 then (dustmanlaw04_PicksTurns.l0 k a3 (wrap64 ((wrap64 (Int.tmod a0 8)) + 1)) (wrap64 (Int.tmod a1 20)) t272 (List.replicate (wrap64 ((wrap64 (Int.tmod a0 8)) + 1) : Int).toNat 0) 0) else (none)) else (none))) else (some false))
theorem dustmanlaw04_PicksTurns.mono_l : ∀ k, (∀ y0 y1 y2 y3 y4 y5, LeO (dustmanlaw04_PicksTurns.l0 k y0 y1 y2 y3 y4 y5) (dustmanlaw04_PicksTurns.l0 (k + 1) y0 y1 y2 y3 y4 y5)) ∧ (∀ y0 y1 y2 y3 y4, LeO (dustmanlaw04_PicksTurns.l1 k y0 y1 y2 y3 y4) (dustmanlaw04_PicksTurns.l1 (k + 1) y0 y1 y2 y3 y4))
  | 0 => ⟨fun _ _ _ _ _ _ r h => by simp [dustmanlaw04_PicksTurns.l0] at h, fun _ _ _ _ _ r h => by simp [dustmanlaw04_PicksTurns.l1] at h⟩
  | k + 1 => by
    obtain ⟨ih0, ih1⟩ := dustmanlaw04_PicksTurns.mono_l k
    refine ⟨?_, ?_⟩
    · intro y0 y1 y2 y3 y4 y5
      unfold dustmanlaw04_PicksTurns.l0
      repeat' first
      | (with_reducible exact ih0 _ _ _ _ _ _)
      | (with_reducible exact ih1 _ _ _ _ _)
      | (with_reducible exact dustmanlaw04_awake.mono _)
      | (with_reducible exact dustmanref03_Windows.mono _ _ _ _)
      | (with_reducible exact picks_Round.mono _ _ _ _ _)
      | (with_reducible exact picks_Who.mono _ _)
      | (with_reducible exact LeO.refl _)
      | (with_reducible exact LeO.none _)
      | (with_reducible refine LeO.ite ?_ ?_)
      | (with_reducible refine LeO.bind ?_ (fun _ => ?_))
      | exact ih0 _ _ _ _ _ _
      | exact ih1 _ _ _ _ _
      | exact dustmanlaw04_awake.mono _
      | exact dustmanref03_Windows.mono _ _ _ _
      | exact picks_Round.mono _ _ _ _ _
      | exact picks_Who.mono _ _
      | exact LeO.none _
      | refine LeO.ite ?_ ?_
      | refine LeO.bind ?_ (fun _ => ?_)
    · intro y0 y1 y2 y3 y4
      unfold dustmanlaw04_PicksTurns.l1
      repeat' first
      | (with_reducible exact ih0 _ _ _ _ _ _)
      | (with_reducible exact ih1 _ _ _ _ _)
      | (with_reducible exact dustmanlaw04_awake.mono _)
      | (with_reducible exact dustmanref03_Windows.mono _ _ _ _)
      | (with_reducible exact picks_Round.mono _ _ _ _ _)
      | (with_reducible exact picks_Who.mono _ _)
      | (with_reducible exact LeO.refl _)
      | (with_reducible exact LeO.none _)
      | (with_reducible refine LeO.ite ?_ ?_)
      | (with_reducible refine LeO.bind ?_ (fun _ => ?_))
      | exact ih0 _ _ _ _ _ _
      | exact ih1 _ _ _ _ _
      | exact dustmanlaw04_awake.mono _
      | exact dustmanref03_Windows.mono _ _ _ _
      | exact picks_Round.mono _ _ _ _ _
      | exact picks_Who.mono _ _
      | exact LeO.none _
      | refine LeO.ite ?_ ?_
      | refine LeO.bind ?_ (fun _ => ?_)
theorem dustmanlaw04_PicksTurns.mono : ∀ a0 a1 a2 a3 k, LeO (dustmanlaw04_PicksTurns.f k a0 a1 a2 a3) (dustmanlaw04_PicksTurns.f (k + 1) a0 a1 a2 a3) := by
  intro a0 a1 a2 a3 k
  obtain ⟨ih0, ih1⟩ := dustmanlaw04_PicksTurns.mono_l k
  unfold dustmanlaw04_PicksTurns.f
  repeat' first
      | (with_reducible exact ih0 _ _ _ _ _ _)
      | (with_reducible exact ih1 _ _ _ _ _)
      | (with_reducible exact dustmanlaw04_awake.mono _)
      | (with_reducible exact dustmanref03_Windows.mono _ _ _ _)
      | (with_reducible exact picks_Round.mono _ _ _ _ _)
      | (with_reducible exact picks_Who.mono _ _)
      | (with_reducible exact LeO.refl _)
      | (with_reducible exact LeO.none _)
      | (with_reducible refine LeO.ite ?_ ?_)
      | (with_reducible refine LeO.bind ?_ (fun _ => ?_))
      | exact ih0 _ _ _ _ _ _
      | exact ih1 _ _ _ _ _
      | exact dustmanlaw04_awake.mono _
      | exact dustmanref03_Windows.mono _ _ _ _
      | exact picks_Round.mono _ _ _ _ _
      | exact picks_Who.mono _ _
      | exact LeO.none _
      | refine LeO.ite ?_ ?_
      | refine LeO.bind ?_ (fun _ => ?_)
set_option maxHeartbeats 8000000 in
set_option maxRecDepth 100000 in
theorem dustmanlaw04_PicksTurns.calls (k : Nat) (a0 : Int) (a1 : Int) (a2 : Int) (a3 : Int) (r : Bool) (w : World) (h : dustmanlaw04_PicksTurns.f k a0 a1 a2 a3 = some r) :
    Calls Try.prog 7 #[.int .u8 a0, .int .u8 a1, .int .i64 a2, .int .i64 a3] w fun e w' => e = .returned (.bool r) ∧ Below w.heap.size w w' := by
  have HB := Aside0.mk (Below.refl w.heap.size w)
  have H : ((dustmanlaw04_awake.f k).bind fun t271 => (if t271 = true then ((picks_Round.f k (wrap64 ((wrap64 (Int.tmod a0 8)) + 1)) (wrap64 (Int.tmod a1 20)) a2 a3).bind fun t272 => (if 0 ≤ (wrap64 ((wrap64 (Int.tmod a0 8)) + 1)) then (if (wrap64 ((wrap64 (Int.tmod a0 8)) + 1) : Int).toNat ≤ 35184372088832 then (dustmanlaw04_PicksTurns.l0 k a3 (wrap64 ((wrap64 (Int.tmod a0 8)) + 1)) (wrap64 (Int.tmod a1 20)) t272 (List.replicate (wrap64 ((wrap64 (Int.tmod a0 8)) + 1) : Int).toNat 0) 0) else (none)) else (none))) else (some false))) = some r := h
  clear h
  replace H := Option.bind_eq_some_iff.mp H
  obtain ⟨t271, A50, H⟩ := H
  replace H : (if t271 = true then ((picks_Round.f k (wrap64 ((wrap64 (Int.tmod a0 8)) + 1)) (wrap64 (Int.tmod a1 20)) a2 a3).bind fun t272 => (if 0 ≤ (wrap64 ((wrap64 (Int.tmod a0 8)) + 1)) then (if (wrap64 ((wrap64 (Int.tmod a0 8)) + 1) : Int).toNat ≤ 35184372088832 then (dustmanlaw04_PicksTurns.l0 k a3 (wrap64 ((wrap64 (Int.tmod a0 8)) + 1)) (wrap64 (Int.tmod a1 20)) t272 (List.replicate (wrap64 ((wrap64 (Int.tmod a0 8)) + 1) : Int).toNat 0) 0) else (none)) else (none))) else (some false)) = some r := H
  have A5 := Aside0.mk A50
  clear A50
  by_cases c6 : t271 = true
  · subst c6
    have H1 : ((picks_Round.f k (wrap64 ((wrap64 (Int.tmod a0 8)) + 1)) (wrap64 (Int.tmod a1 20)) a2 a3).bind fun t272 => (if 0 ≤ (wrap64 ((wrap64 (Int.tmod a0 8)) + 1)) then (if (wrap64 ((wrap64 (Int.tmod a0 8)) + 1) : Int).toNat ≤ 35184372088832 then (dustmanlaw04_PicksTurns.l0 k a3 (wrap64 ((wrap64 (Int.tmod a0 8)) + 1)) (wrap64 (Int.tmod a1 20)) t272 (List.replicate (wrap64 ((wrap64 (Int.tmod a0 8)) + 1) : Int).toNat 0) 0) else (none)) else (none))) = some r := by rw [if_pos rfl] at H; exact H
    clear H
    have H := H1
    clear H1
    replace H := Option.bind_eq_some_iff.mp H
    obtain ⟨t272, A70, H⟩ := H
    replace H : (if 0 ≤ (wrap64 ((wrap64 (Int.tmod a0 8)) + 1)) then (if (wrap64 ((wrap64 (Int.tmod a0 8)) + 1) : Int).toNat ≤ 35184372088832 then (dustmanlaw04_PicksTurns.l0 k a3 (wrap64 ((wrap64 (Int.tmod a0 8)) + 1)) (wrap64 (Int.tmod a1 20)) t272 (List.replicate (wrap64 ((wrap64 (Int.tmod a0 8)) + 1) : Int).toNat 0) 0) else (none)) else (none)) = some r := H
    have A7 := Aside0.mk A70
    clear A70
    obtain ⟨ji8, hji8⟩ : ∃ j_ : Int, (wrap64 ((wrap64 (Int.tmod a0 8)) + 1)) = j_ := ⟨_, rfl⟩
    replace H : (if 0 ≤ (ji8) then (if (ji8 : Int).toNat ≤ 35184372088832 then (dustmanlaw04_PicksTurns.l0 k a3 ji8 (wrap64 (Int.tmod a1 20)) t272 (List.replicate (ji8 : Int).toNat 0) 0) else (none)) else (none)) = some r := by first | (rw [hji8] at H; exact H) | (simp only [hji8] at H ⊢; exact H)
    (try rw [hji8] at A5)
    (try rw [hji8] at A7)
    have hji8w : (IntKind.i64.wrap ((wrap64 (Int.tmod a0 8)) + 1)) = ji8 := (i64_w _).trans hji8
    by_cases c9 : 0 ≤ (ji8)
    · rw [if_pos c9] at H
      have c9b0 := eq_true c9
      have c9b1 : decide (0 ≤ (ji8)) = true := decide_eq_true c9
      clear c9
      by_cases c10 : (ji8 : Int).toNat ≤ 35184372088832
      · rw [if_pos c10] at H
        have c10b0 := eq_true c10
        have c10b1 : decide ((ji8 : Int).toNat ≤ 35184372088832) = true := decide_eq_true c10
        clear c10
        obtain ⟨y275, hy275⟩ : ∃ y_ : List Int, y_ = (List.replicate (ji8 : Int).toNat 0) := ⟨_, rfl⟩
        replace H : (dustmanlaw04_PicksTurns.l0 k a3 ji8 (wrap64 (Int.tmod a1 20)) t272 y275 0) = some r := by first | (rw [hy275]; with_reducible exact H) | (have H2_ := (Option.bind_some _ _).symm.trans H; rw [hy275]; with_reducible exact H2_) | (have H2_ := (Option.bind_some _ _).symm.trans H; with_reducible exact H2_) | with_reducible exact H | (rw [hy275]; exact H) | exact H
        have Ny275 := Aside0.mk hy275
        clear hy275
        have H' := Aside0.mk H
        clear H
        go_enter Try.func7, Try.ntmps7
        go_wp2_with (first | ((with_reducible refine gate_callee (f := 9) rfl ?_); refine goesL_ (some 16) rfl rfl Try.func9 (by kernel_rfl) rfl #[] rfl (by (try simp only [List.map_toArray, List.map_cons, List.map_nil]); first | done | rfl | (simp only [List.length_drop, List.length_take]; rfl)) ?_; (with_reducible refine (dustmanlaw04_awake.calls k  true _ A5.out).mono ?_); rintro e w11 ⟨rfl, hb⟩; refine ⟨_, rfl, ?_⟩; have n0_ := Aside0.mk (below_step (by repeat (first | (with_reducible first | exact HB.out | apply below_alloc | apply pw_below_drewN | apply below_drew1) | exact HB.out)) hb); clear HB; have HB := n0_; clear n0_; (try clear hb); (try clear hb2); (try clear hk); (try clear hi)) | ((with_reducible refine gate_callee (f := 17) rfl ?_); refine goesL_ (some 30) rfl rfl Try.func17 (by kernel_rfl) rfl #[.int .i64 ji8, .int .i64 (wrap64 (Int.tmod a1 20)), .int .i64 a2, .int .i64 a3] rfl (by (try simp only [List.map_toArray, List.map_cons, List.map_nil]); first | done | (simp only [hji8]; rfl) | rfl | (simp only [List.length_drop, List.length_take]; rfl)) ?_; (with_reducible refine (picks_Round.calls k ji8 (wrap64 (Int.tmod a1 20)) a2 a3 t272 _ A7.out).mono ?_); rintro e w12 ⟨v273, rfl, ho0, hb⟩; refine ⟨_, rfl, ?_⟩; have n0_ := Aside0.mk (Kd.R_lower ho0 (below_size (by repeat (first | (with_reducible first | exact HB.out | apply below_alloc | apply pw_below_drewN | apply below_drew1) | exact HB.out)))); have n1_ := Aside0.mk (below_step (by repeat (first | (with_reducible first | exact HB.out | apply below_alloc | apply pw_below_drewN | apply below_drew1) | exact HB.out)) hb); clear HB; have HO274 := n0_; have HB := n1_; clear n0_ n1_; (try clear hb); (try clear hb2); (try clear hk); (try clear hi); (try clear ho0)) | ((with_reducible refine gate_dst (N := 32) rfl ?_); refine Kd.R_make (Kd.int .i64) _ 3 rfl (N := 32) rfl 37 _ _ rfl ji8 rfl rfl Try.underlying37 (.int .i64 0) 8 info3 rfl (by decide) (by omega) 0 (ok := fun _ => True) (okp := fun _ => True) rfl (fun _ hk => hk) trivial (of_decide_eq_true (by first | (with_reducible assumption) | assumption)) (Nat.le_trans (Nat.mul_le_mul_right _ (of_decide_eq_true (by first | (with_reducible assumption) | assumption) : ji8.toNat ≤ 35184372088832)) (by omega)) (Below.refl _ _) (Nat.le_refl _) ?_; intro v276 w13 ho14 hb hg_ hnew_; clear hg_ hnew_; (first | rw [← Ny275.out] at ho14 | (simp only [Int.reduceToNat] at ho14; rw [← Ny275.out] at ho14)); have n0_ := Aside0.mk (Kd.R_below (by (with_reducible repeat (first | apply Kd.R_alloc | apply Kd.R_drewN | apply Kd.R_drew)); exact HO274.out) hb); have n1_ := Aside0.mk (Kd.R_lower ho14 (below_size (by repeat (first | (with_reducible first | exact HB.out | apply below_alloc | apply pw_below_drewN | apply below_drew1) | exact HB.out)))); have n2_ := Aside0.mk (below_step (by repeat (first | (with_reducible first | exact HB.out | apply below_alloc | apply pw_below_drewN | apply below_drew1) | exact HB.out)) hb); clear HO274; clear HB; have HO274 := n0_; have HO277 := n1_; have HB := n2_; clear n0_ n1_ n2_; clear hb ho14))
        go_loopg [14] k (fun kq v14 w' => ∃ (x13_1 : List Int) (x14_1 : Int), v14 = .int .i64 x14_1 ∧ Aside0 (dustmanlaw04_PicksTurns.l0 kq a3 ji8 (wrap64 (Int.tmod a1 20)) t272 x13_1 x14_1 = some r) ∧ Aside0 (kq ≤ k) ∧ Aside0 (Kd.R k34 34 w' w.heap.size (fun _ => True) v273 t272) ∧ Aside0 (Kd.R (Kd.int .i64) 3 w' w.heap.size (fun _ => True) v276 x13_1) ∧ Aside0 (Below w.heap.size w w'))
        case atStart => exact ⟨(y275), (0), (by first | rfl | (simp; done) | (simp [*]; done)), H', ⟨Nat.le_refl _⟩, ⟨by (with_reducible repeat (first | apply Kd.R_alloc | apply Kd.R_drewN | apply Kd.R_drew)); exact HO274.out⟩, ⟨by (with_reducible repeat (first | apply Kd.R_alloc | apply Kd.R_drewN | apply Kd.R_drew)); exact HO277.out⟩, ⟨by repeat (first | (with_reducible first | exact HB.out | apply below_alloc | apply pw_below_drewN | apply below_drew1) | exact HB.out)⟩⟩
        case round =>
          clear H'
          try clear c1
          try clear p2
          try clear c6
          try clear p6
          try clear c7
          try clear c9
          try clear c9b0
          try clear c9b1
          try clear c10
          try clear c10b0
          try clear c10b1
          obtain ⟨x13_1, x14_1, rfl, HA, HK1, HO_12, HO_13, HB⟩ := hrel
          cases gk with
          | zero => exact absurd HA.out (by simp [dustmanlaw04_PicksTurns.l0])
          | succ k1 =>
            have H := HA.out
            clear HA
            simp only [dustmanlaw04_PicksTurns.l0] at H
            by_cases c15 : x14_1 < (t272.length : Int)
            · rw [if_pos c15] at H
              have c15b0 : decide (x14_1 < (t272.length : Int)) = true := decide_eq_true c15
              clear c15
              by_cases c16 : 0 ≤ x14_1
              · rw [if_pos c16] at H
                have c16b0 : decide (0 ≤ x14_1) = true := decide_eq_true c16
                clear c16
                by_cases c17 : ((rd_T34 t272 x14_1).f0) < 0
                · rw [if_pos c17] at H
                  have c17b0 : decide (((rd_T34 t272 x14_1).f0) < 0) = true := decide_eq_true c17
                  clear c17
                  obtain rfl := Option.some.inj H
                  obtain ⟨Ao18, co18, eo18⟩ := Kd.R_slice HO_12.out
                  subst eo18
                  have p278 : 0 ≤ (x14_1 : Int) := of_decide_eq_true (by first | (with_reducible assumption) | assumption)
                  have q278 : x14_1 < (t272.length : Int) := of_decide_eq_true (by first | (with_reducible assumption) | assumption)
                  obtain ⟨ad278, e278, hx278_0, hx278_1⟩ := at_T34 (Kd.R_reads' HO_12.out).2.2 x14_1 p278 q278
                  cases e278
                  replace p278 := eq_true p278
                  replace q278 := eq_true q278
                  go_wp2
                  go_ret
                  exact ⟨by first | rfl | (simp [errW_none, errW_some] <;> rfl) | (simp only [← hji8]; first | rfl | (simp [errW_none, errW_some] <;> rfl)) | (simp [*, errW_none, errW_some] <;> rfl), by repeat (first | (with_reducible first | exact HB.out | apply below_alloc | apply pw_below_drewN | apply below_drew1) | exact HB.out)⟩
                · rw [if_neg c17] at H
                  have c17b0 : decide (((rd_T34 t272 x14_1).f0) < 0) = false := decide_eq_false c17
                  clear c17
                  by_cases c19 : ((rd_T34 t272 x14_1).f0) ≥ ji8
                  · rw [if_pos c19] at H
                    have c19b0 : decide (ji8 ≤ ((rd_T34 t272 x14_1).f0)) = true := decide_eq_true c19
                    clear c19
                    obtain rfl := Option.some.inj H
                    obtain ⟨Ao20, co20, eo20⟩ := Kd.R_slice HO_12.out
                    subst eo20
                    have p278 : 0 ≤ (x14_1 : Int) := of_decide_eq_true (by first | (with_reducible assumption) | assumption)
                    have q278 : x14_1 < (t272.length : Int) := of_decide_eq_true (by first | (with_reducible assumption) | assumption)
                    obtain ⟨ad278, e278, hx278_0, hx278_1⟩ := at_T34 (Kd.R_reads' HO_12.out).2.2 x14_1 p278 q278
                    cases e278
                    replace p278 := eq_true p278
                    replace q278 := eq_true q278
                    have p279 : 0 ≤ (x14_1 : Int) := of_decide_eq_true (by first | (with_reducible assumption) | assumption)
                    have q279 : x14_1 < (t272.length : Int) := of_decide_eq_true (by first | (with_reducible assumption) | assumption)
                    obtain ⟨ad279, e279, hx279_0, hx279_1⟩ := at_T34 (Kd.R_reads' HO_12.out).2.2 x14_1 p279 q279
                    obtain rfl : ad278 = ad279 := (by injection e279)
                    replace p279 := eq_true p279
                    replace q279 := eq_true q279
                    go_wp2
                    go_ret
                    exact ⟨by first | rfl | (simp [errW_none, errW_some] <;> rfl) | (simp only [← hji8]; first | rfl | (simp [errW_none, errW_some] <;> rfl)) | (simp [*, errW_none, errW_some] <;> rfl), by repeat (first | (with_reducible first | exact HB.out | apply below_alloc | apply pw_below_drewN | apply below_drew1) | exact HB.out)⟩
                  · rw [if_neg c19] at H
                    have c19b0 : decide (ji8 ≤ ((rd_T34 t272 x14_1).f0)) = false := decide_eq_false c19
                    clear c19
                    by_cases c21 : ((rd_T34 t272 x14_1).f1) = a3
                    · rw [if_pos c21] at H
                      have c21b0 : (((rd_T34 t272 x14_1).f1) == a3) = true := beq_iff_eq.mpr c21
                      have c21b1 : (((rd_T34 t272 x14_1).f1) != a3) = false := bne_eq_false_iff_eq.mpr c21
                      clear c21
                      by_cases c22 : 0 ≤ ((rd_T34 t272 x14_1).f0)
                      · rw [if_pos c22] at H
                        have c22b0 : decide (0 ≤ ((rd_T34 t272 x14_1).f0)) = true := decide_eq_true c22
                        clear c22
                        by_cases c23 : ((rd_T34 t272 x14_1).f0) < (x13_1.length : Int)
                        · rw [if_pos c23] at H
                          have c23b0 : decide (((rd_T34 t272 x14_1).f0) < (x13_1.length : Int)) = true := decide_eq_true c23
                          clear c23
                          obtain ⟨y283, hy283⟩ : ∃ y_ : List Int, y_ = (x13_1.set (((rd_T34 t272 x14_1).f0) : Int).toNat (wrap64 ((rd x13_1 ((rd_T34 t272 x14_1).f0)) + 1))) := ⟨_, rfl⟩
                          replace H : (dustmanlaw04_PicksTurns.l0 k1 a3 ji8 (wrap64 (Int.tmod a1 20)) t272 y283 (wrap64 (x14_1 + 1))) = some r := by first | (rw [hy283]; with_reducible exact H) | (have H2_ := (Option.bind_some _ _).symm.trans H; rw [hy283]; with_reducible exact H2_) | (have H2_ := (Option.bind_some _ _).symm.trans H; with_reducible exact H2_) | with_reducible exact H | (rw [hy283]; exact H) | exact H
                          have Ny283 := Aside0.mk hy283
                          clear hy283
                          have H' := Aside0.mk H
                          clear H
                          obtain ⟨Ao25, co25, eo25⟩ := Kd.R_slice HO_12.out
                          subst eo25
                          have p278 : 0 ≤ (x14_1 : Int) := of_decide_eq_true (by first | (with_reducible assumption) | assumption)
                          have q278 : x14_1 < (t272.length : Int) := of_decide_eq_true (by first | (with_reducible assumption) | assumption)
                          obtain ⟨ad278, e278, hx278_0, hx278_1⟩ := at_T34 (Kd.R_reads' HO_12.out).2.2 x14_1 p278 q278
                          cases e278
                          replace p278 := eq_true p278
                          replace q278 := eq_true q278
                          have p279 : 0 ≤ (x14_1 : Int) := of_decide_eq_true (by first | (with_reducible assumption) | assumption)
                          have q279 : x14_1 < (t272.length : Int) := of_decide_eq_true (by first | (with_reducible assumption) | assumption)
                          obtain ⟨ad279, e279, hx279_0, hx279_1⟩ := at_T34 (Kd.R_reads' HO_12.out).2.2 x14_1 p279 q279
                          obtain rfl : ad278 = ad279 := (by injection e279)
                          replace p279 := eq_true p279
                          replace q279 := eq_true q279
                          have p280 : 0 ≤ (x14_1 : Int) := of_decide_eq_true (by first | (with_reducible assumption) | assumption)
                          have q280 : x14_1 < (t272.length : Int) := of_decide_eq_true (by first | (with_reducible assumption) | assumption)
                          obtain ⟨ad280, e280, hx280_0, hx280_1⟩ := at_T34 (Kd.R_reads' HO_12.out).2.2 x14_1 p280 q280
                          obtain rfl : ad278 = ad280 := (by injection e280)
                          replace p280 := eq_true p280
                          replace q280 := eq_true q280
                          have p281 : 0 ≤ (x14_1 : Int) := of_decide_eq_true (by first | (with_reducible assumption) | assumption)
                          have q281 : x14_1 < (t272.length : Int) := of_decide_eq_true (by first | (with_reducible assumption) | assumption)
                          obtain ⟨ad281, e281, hx281_0, hx281_1⟩ := at_T34 (Kd.R_reads' HO_12.out).2.2 x14_1 p281 q281
                          obtain rfl : ad278 = ad281 := (by injection e281)
                          replace p281 := eq_true p281
                          replace q281 := eq_true q281
                          obtain ⟨Ao26, co26, eo26⟩ := Kd.R_slice HO_13.out
                          subst eo26
                          have p282 : 0 ≤ (((rd_T34 t272 x14_1).f0) : Int) := of_decide_eq_true (by first | (with_reducible assumption) | assumption)
                          have q282 : ((rd_T34 t272 x14_1).f0) < (x13_1.length : Int) := of_decide_eq_true (by first | (with_reducible assumption) | assumption)
                          obtain ⟨ad282, e282, hx282_0⟩ := Kd.at_int (Kd.R_reads' HO_13.out).2.2 ((rd_T34 t272 x14_1).f0) p282 q282
                          cases e282
                          replace p282 := eq_true p282
                          replace q282 := eq_true q282
                          have p24 : 0 ≤ (((rd_T34 t272 x14_1).f0) : Int) := of_decide_eq_true (by first | (with_reducible assumption) | assumption)
                          have q24 : (((rd_T34 t272 x14_1).f0) : Int) < ((x13_1.length : Int) : Int) := of_decide_eq_true (by first | (with_reducible assumption) | assumption)
                          obtain ⟨go24, co24, eo24, gb24, gl24, cl24, HG24⟩ := Kd.R_form HO_13.out (by omega)
                          (first | cases eo24 | (injection eo24 with ea_ en_ ec_; (first | subst ea_ | (injection ea_ with ea_; subst ea_)); subst ec_; clear en_))
                          have GB24 := Aside0.mk gb24
                          have GG24 := Aside0.mk HG24
                          clear gb24 gl24 HG24
                          (first | simp only [add_plain] at hx282_0 | skip)
                          obtain ⟨hx24_0, hf24_0⟩ := Kd.R_celln 0 HO_13.out (((rd_T34 t272 x14_1).f0) : Int) p24 q24
                          replace p24 := eq_true p24
                          replace q24 := eq_true q24
                          have HP27 := Kd.R_putg HO_13.out (((rd_T34 t272 x14_1).f0) : Int) (wrap64 ((rd x13_1 ((rd_T34 t272 x14_1).f0)) + 1))
                          go_wp2_with (first | ((with_reducible refine gate_store (t := 3) (p := 72) rfl ?_); refine store_event (t := 3) (p := 72) (v := ?vo_w28) (w1 := (wr.setCell ⟨go24, (((rd_T34 t272 x14_1).f0) : Int).toNat, none⟩ (.int .i64 (wrap64 ((rd x13_1 ((rd_T34 t272 x14_1).f0)) + 1))))) ?hg ?ho ?hn ?hr ?_; (case ho => rfl); (case hg => rfl); (case hn => rfl); (case hr => first | (go_simp; done) | (go_simp; rfl)); intro w28 hw; have hg : wr.grownBy w28 (some go24) := (by rw [hw]; exact HP27.2); have hp_ : Kd.R (Kd.int .i64) 3 w28 w.heap.size (fun _ => True) (.slice (some ⟨go24, 0, none⟩) x13_1.length co26) y283 := (by rw [hw, Ny283.out]; exact HP27.1); clear HP27; have n0_ := Aside0.mk (Kd.R_over' (v := (.slice (some ⟨go24, 0, none⟩) x13_1.length co26)) (by (with_reducible repeat (first | apply Kd.R_alloc | apply Kd.R_drewN | apply Kd.R_drew)); exact HO_12.out) (Kd.R_typed HO_13.out) (by decide) hg); have n1_ := Aside0.mk (hp_); have n2_ := Aside0.mk ((by rw [hw]; exact below_set (HB.out) GB24.out : Below w.heap.size w w28)); clear HO_12; clear HO_13; clear HB; have HO_12 := n0_; have HO_13 := n1_; have HB := n2_; clear n0_ n1_ n2_; clear hg hw hp_))
                          go_roundg k1
                          case measure => have := HK1.out; omega
                          case rel => exact ⟨(y283), (wrap64 (x14_1 + 1)), (by first | rfl | (simp; done) | (simp [*]; done)), H', ⟨by have := HK1.out; omega⟩, ⟨by (with_reducible repeat (first | apply Kd.R_alloc | apply Kd.R_drewN | apply Kd.R_drew)); exact HO_12.out⟩, ⟨by (with_reducible repeat (first | apply Kd.R_alloc | apply Kd.R_drewN | apply Kd.R_drew)); exact HO_13.out⟩, ⟨by repeat (first | (with_reducible first | exact HB.out | apply below_alloc | apply pw_below_drewN | apply below_drew1) | exact HB.out)⟩⟩
                        · rw [if_neg c23] at H
                          exact absurd H (by simp)
                      · rw [if_neg c22] at H
                        exact absurd H (by simp)
                    · rw [if_neg c21] at H
                      have c21b0 : (((rd_T34 t272 x14_1).f1) == a3) = false := beq_eq_false_iff_ne.mpr c21
                      have c21b1 : (((rd_T34 t272 x14_1).f1) != a3) = true := bne_iff_ne.mpr c21
                      obtain rfl := Option.some.inj H
                      obtain ⟨Ao29, co29, eo29⟩ := Kd.R_slice HO_12.out
                      subst eo29
                      have p278 : 0 ≤ (x14_1 : Int) := of_decide_eq_true (by first | (with_reducible assumption) | assumption)
                      have q278 : x14_1 < (t272.length : Int) := of_decide_eq_true (by first | (with_reducible assumption) | assumption)
                      obtain ⟨ad278, e278, hx278_0, hx278_1⟩ := at_T34 (Kd.R_reads' HO_12.out).2.2 x14_1 p278 q278
                      cases e278
                      replace p278 := eq_true p278
                      replace q278 := eq_true q278
                      have p279 : 0 ≤ (x14_1 : Int) := of_decide_eq_true (by first | (with_reducible assumption) | assumption)
                      have q279 : x14_1 < (t272.length : Int) := of_decide_eq_true (by first | (with_reducible assumption) | assumption)
                      obtain ⟨ad279, e279, hx279_0, hx279_1⟩ := at_T34 (Kd.R_reads' HO_12.out).2.2 x14_1 p279 q279
                      obtain rfl : ad278 = ad279 := (by injection e279)
                      replace p279 := eq_true p279
                      replace q279 := eq_true q279
                      have p280 : 0 ≤ (x14_1 : Int) := of_decide_eq_true (by first | (with_reducible assumption) | assumption)
                      have q280 : x14_1 < (t272.length : Int) := of_decide_eq_true (by first | (with_reducible assumption) | assumption)
                      obtain ⟨ad280, e280, hx280_0, hx280_1⟩ := at_T34 (Kd.R_reads' HO_12.out).2.2 x14_1 p280 q280
                      obtain rfl : ad278 = ad280 := (by injection e280)
                      replace p280 := eq_true p280
                      replace q280 := eq_true q280
                      go_wp2
                      go_ret
                      exact ⟨by first | rfl | (simp [errW_none, errW_some] <;> rfl) | (simp only [← hji8]; first | rfl | (simp [errW_none, errW_some] <;> rfl)) | (simp [*, errW_none, errW_some] <;> rfl), by repeat (first | (with_reducible first | exact HB.out | apply below_alloc | apply pw_below_drewN | apply below_drew1) | exact HB.out)⟩
              · rw [if_neg c16] at H
                exact absurd H (by simp)
            · rw [if_neg c15] at H
              have c15b0 : decide (x14_1 < (t272.length : Int)) = false := decide_eq_false c15
              clear c15
              have H' := Aside0.mk H
              clear H
              obtain ⟨Ao30, co30, eo30⟩ := Kd.R_slice HO_12.out
              subst eo30
              go_wp2
              go_loopg [15] k1 (fun kq v15 w' => ∃ (x15_2 : Int), v15 = .int .i64 x15_2 ∧ Aside0 (dustmanlaw04_PicksTurns.l1 kq ji8 (wrap64 (Int.tmod a1 20)) t272 x13_1 x15_2 = some r) ∧ Aside0 (kq ≤ k1) ∧ Aside0 (Kd.R k34 34 w' w.heap.size (fun _ => True) (.slice Ao30 t272.length co30) t272) ∧ Aside0 (Kd.R (Kd.int .i64) 3 w' w.heap.size (fun _ => True) v276 x13_1) ∧ Aside0 (Below w.heap.size w w'))
              case atStart => exact ⟨(0), (by first | rfl | (simp; done) | (simp [*]; done)), H', ⟨Nat.le_refl _⟩, ⟨by (with_reducible repeat (first | apply Kd.R_alloc | apply Kd.R_drewN | apply Kd.R_drew)); exact HO_12.out⟩, ⟨by (with_reducible repeat (first | apply Kd.R_alloc | apply Kd.R_drewN | apply Kd.R_drew)); exact HO_13.out⟩, ⟨by repeat (first | (with_reducible first | exact HB.out | apply below_alloc | apply pw_below_drewN | apply below_drew1) | exact HB.out)⟩⟩
              case round =>
                clear H'
                try clear c1
                try clear c2
                try clear p2
                try clear q2
                try clear hx2
                try clear c6
                try clear p6
                try clear c7
                try clear c9
                try clear c9b0
                try clear c9b1
                try clear c10
                try clear c10b0
                try clear c10b1
                try clear c15
                try clear c15b0
                try clear c16
                try clear c16b0
                try clear c17
                try clear c17b0
                try clear c19
                try clear c19b0
                try clear c21
                try clear c21b0
                try clear c21b1
                try clear c22
                try clear c22b0
                try clear c23
                try clear c23b0
                try clear p24
                try clear q24
                try clear hx24
                try clear hf24
                try clear p27
                try clear q27
                try clear hx27
                try clear p28
                try clear q28
                try clear hx28
                try clear hx24_0
                try clear hx278_0
                try clear hx278_1
                try clear hx279_0
                try clear hx279_1
                try clear hx280_0
                try clear hx280_1
                try clear hx281_0
                try clear hx281_1
                try clear hx282_0
                try clear p2
                try clear p24
                try clear p278
                try clear p279
                try clear p280
                try clear p281
                try clear p282
                try clear p6
                try clear q24
                try clear q278
                try clear q279
                try clear q280
                try clear q281
                try clear q282
                obtain ⟨x15_2, rfl, HA, HK2, HO_12, HO_13, HB⟩ := hrel
                cases gk with
                | zero => exact absurd HA.out (by simp [dustmanlaw04_PicksTurns.l1])
                | succ k2 =>
                  have H := HA.out
                  clear HA
                  simp only [dustmanlaw04_PicksTurns.l1] at H
                  by_cases c31 : x15_2 < ji8
                  · rw [if_pos c31] at H
                    have c31b0 : decide (x15_2 < ji8) = true := decide_eq_true c31
                    clear c31
                    by_cases c32 : 0 ≤ x15_2
                    · rw [if_pos c32] at H
                      have c32b0 : decide (0 ≤ x15_2) = true := decide_eq_true c32
                      clear c32
                      by_cases c33 : x15_2 < (x13_1.length : Int)
                      · rw [if_pos c33] at H
                        have c33b0 : decide (x15_2 < (x13_1.length : Int)) = true := decide_eq_true c33
                        clear c33
                        by_cases c34 : (rd x13_1 x15_2) = (wrap64 (Int.tmod a1 20))
                        · rw [if_pos c34] at H
                          have c34b0 : ((rd x13_1 x15_2) == (wrap64 (Int.tmod a1 20))) = true := beq_iff_eq.mpr c34
                          have c34b1 : ((rd x13_1 x15_2) != (wrap64 (Int.tmod a1 20))) = false := bne_eq_false_iff_eq.mpr c34
                          clear c34
                          have H' := Aside0.mk H
                          clear H
                          obtain ⟨Ao35, co35, eo35⟩ := Kd.R_slice HO_13.out
                          subst eo35
                          have p284 : 0 ≤ (x15_2 : Int) := of_decide_eq_true (by first | (with_reducible assumption) | assumption)
                          have q284 : x15_2 < (x13_1.length : Int) := of_decide_eq_true (by first | (with_reducible assumption) | assumption)
                          obtain ⟨ad284, e284, hx284_0⟩ := Kd.at_int (Kd.R_reads' HO_13.out).2.2 x15_2 p284 q284
                          cases e284
                          replace p284 := eq_true p284
                          replace q284 := eq_true q284
                          go_wp2
                          go_roundg k2
                          case measure => have := HK1.out; have := HK2.out; omega
                          case rel => exact ⟨(wrap64 (x15_2 + 1)), (by first | rfl | (simp; done) | (simp [*]; done)), H', ⟨by have := HK1.out; have := HK2.out; omega⟩, ⟨by (with_reducible repeat (first | apply Kd.R_alloc | apply Kd.R_drewN | apply Kd.R_drew)); exact HO_12.out⟩, ⟨by (with_reducible repeat (first | apply Kd.R_alloc | apply Kd.R_drewN | apply Kd.R_drew)); exact HO_13.out⟩, ⟨by repeat (first | (with_reducible first | exact HB.out | apply below_alloc | apply pw_below_drewN | apply below_drew1) | exact HB.out)⟩⟩
                        · rw [if_neg c34] at H
                          have c34b0 : ((rd x13_1 x15_2) == (wrap64 (Int.tmod a1 20))) = false := beq_eq_false_iff_ne.mpr c34
                          have c34b1 : ((rd x13_1 x15_2) != (wrap64 (Int.tmod a1 20))) = true := bne_iff_ne.mpr c34
                          obtain rfl := Option.some.inj H
                          obtain ⟨Ao36, co36, eo36⟩ := Kd.R_slice HO_13.out
                          subst eo36
                          have p284 : 0 ≤ (x15_2 : Int) := of_decide_eq_true (by first | (with_reducible assumption) | assumption)
                          have q284 : x15_2 < (x13_1.length : Int) := of_decide_eq_true (by first | (with_reducible assumption) | assumption)
                          obtain ⟨ad284, e284, hx284_0⟩ := Kd.at_int (Kd.R_reads' HO_13.out).2.2 x15_2 p284 q284
                          cases e284
                          replace p284 := eq_true p284
                          replace q284 := eq_true q284
                          go_wp2
                          go_ret
                          exact ⟨by first | rfl | (simp [errW_none, errW_some] <;> rfl) | (simp only [← hji8]; first | rfl | (simp [errW_none, errW_some] <;> rfl)) | (simp [*, errW_none, errW_some] <;> rfl), by repeat (first | (with_reducible first | exact HB.out | apply below_alloc | apply pw_below_drewN | apply below_drew1) | exact HB.out)⟩
                      · rw [if_neg c33] at H
                        exact absurd H (by simp)
                    · rw [if_neg c32] at H
                      exact absurd H (by simp)
                  · rw [if_neg c31] at H
                    have c31b0 : decide (x15_2 < ji8) = false := decide_eq_false c31
                    clear c31
                    replace H := Option.bind_eq_some_iff.mp H
                    obtain ⟨t285, A370, H⟩ := H
                    replace H : ((dustmanref03_Windows.f k2 t285 ji8 ji8).bind fun t288 => (some t288)) = some r := H
                    have A37 := Aside0.mk A370
                    clear A370
                    replace H := Option.bind_eq_some_iff.mp H
                    obtain ⟨t288, A380, H⟩ := H
                    replace H : (some t288) = some r := H
                    have A38 := Aside0.mk A380
                    clear A380
                    obtain rfl := Option.some.inj H
                    go_wp2_with (first | ((with_reducible refine gate_callee (f := 16) rfl ?_); refine goesL_ (some 85) rfl rfl Try.func16 (by kernel_rfl) rfl #[.slice Ao30 t272.length co30] rfl (by (try simp only [List.map_toArray, List.map_cons, List.map_nil]); first | done | rfl | (simp only [List.length_drop, List.length_take]; rfl)) ?_; (with_reducible refine (picks_Who.calls k2 _ _ t272 t285 _ ?side1 ?side2 A37.out).mono ?_); (case side1 => repeat (first | exact (Kd.R_reads' HO_12.out).2.2 | (with_reducible refine Kd.C_alloc ?_ _) | (with_reducible refine Kd.C_drewN ?_ _) | (with_reducible refine Kd.C_drew ?_))); (case side2 => exact (Kd.R_reads' HO_12.out).2.1); rintro e w39 ⟨v286, rfl, ho0, hb⟩; refine ⟨_, rfl, ?_⟩; have n0_ := Aside0.mk (Kd.R_below (by (with_reducible repeat (first | apply Kd.R_alloc | apply Kd.R_drewN | apply Kd.R_drew)); exact HO_12.out) hb); have n1_ := Aside0.mk (Kd.R_elder' (by (with_reducible repeat (first | apply Kd.R_alloc | apply Kd.R_drewN | apply Kd.R_drew)); exact HO_13.out) (Kd.R_base ho0) hb); have n2_ := Aside0.mk (Kd.R_lower (Kd.R_new' ho0 (Kd.R_lt (by (with_reducible repeat (first | apply Kd.R_alloc | apply Kd.R_drewN | apply Kd.R_drew)); exact HO_13.out))) (below_size (by repeat (first | (with_reducible first | exact HB.out | apply below_alloc | apply pw_below_drewN | apply below_drew1) | exact HB.out)))); have n3_ := Aside0.mk (below_step (by repeat (first | (with_reducible first | exact HB.out | apply below_alloc | apply pw_below_drewN | apply below_drew1) | exact HB.out)) hb); clear HO_12; clear HO_13; clear HB; have HO_12 := n0_; have HO_13 := n1_; have HO287 := n2_; have HB := n3_; clear n0_ n1_ n2_ n3_; (try clear hb); (try clear hb2); (try clear hk); (try clear hi); (try clear ho0); obtain ⟨Ao40, co40, eo40⟩ := Kd.R_slice HO287.out; subst eo40) | ((with_reducible refine gate_callee (f := 21) rfl ?_); refine goesL_ (some 88) rfl rfl Try.func21 (by kernel_rfl) rfl #[.slice Ao40 t285.length co40, .int .i64 ji8, .int .i64 ji8] rfl (by (try simp only [List.map_toArray, List.map_cons, List.map_nil]); first | done | (simp only [hji8]; rfl) | rfl | (simp only [List.length_drop, List.length_take]; rfl)) ?_; (with_reducible refine (dustmanref03_Windows.calls k2 _ _ t285 ji8 ji8 t288 _ ?side1 ?side2 A38.out).mono ?_); (case side1 => repeat (first | exact (Kd.R_reads' HO287.out).2.2 | (with_reducible refine Kd.C_alloc ?_ _) | (with_reducible refine Kd.C_drewN ?_ _) | (with_reducible refine Kd.C_drew ?_))); (case side2 => exact (Kd.R_reads' HO287.out).2.1); rintro e w' ⟨rfl, ⟨nd, rfl⟩⟩; refine ⟨_, rfl, ?_⟩))
                    go_ret
                    exact ⟨by first | rfl | (simp [errW_none, errW_some] <;> rfl) | (simp only [← hji8]; first | rfl | (simp [errW_none, errW_some] <;> rfl)) | (simp [*, errW_none, errW_some] <;> rfl), by repeat (first | (with_reducible first | exact HB.out | apply below_alloc | apply pw_below_drewN | apply below_drew1) | exact HB.out)⟩
      · rw [if_neg c10] at H
        exact absurd H (by simp)
    · rw [if_neg c9] at H
      exact absurd H (by simp)
  · replace c6 := Bool.eq_false_iff.mpr c6
    subst c6
    have H1 : (some false) = some r := by rw [if_neg (show ¬ (false = true) by decide)] at H; exact H
    clear H
    have H := H1
    clear H1
    obtain rfl := Option.some.inj H
    go_enter Try.func7, Try.ntmps7
    go_wp2_with (first | ((with_reducible refine gate_callee (f := 9) rfl ?_); refine goesL_ (some 16) rfl rfl Try.func9 (by kernel_rfl) rfl #[] rfl (by (try simp only [List.map_toArray, List.map_cons, List.map_nil]); first | done | rfl | (simp only [List.length_drop, List.length_take]; rfl)) ?_; (with_reducible refine (dustmanlaw04_awake.calls k  false _ A5.out).mono ?_); rintro e w41 ⟨rfl, hb⟩; refine ⟨_, rfl, ?_⟩; have n0_ := Aside0.mk (below_step (by repeat (first | (with_reducible first | exact HB.out | apply below_alloc | apply pw_below_drewN | apply below_drew1) | exact HB.out)) hb); clear HB; have HB := n0_; clear n0_; (try clear hb); (try clear hb2); (try clear hk); (try clear hi)))
    go_ret
    exact ⟨by first | rfl | (simp [errW_none, errW_some] <;> rfl) | (simp [*, errW_none, errW_some] <;> rfl), by repeat (first | (with_reducible first | exact HB.out | apply below_alloc | apply pw_below_drewN | apply below_drew1) | exact HB.out)⟩

/-- THE ONE PURE STATEMENT of dustmanlaw04_PicksTurns: yours. -/
def dustmanlaw04_PicksTurns.Pure : Prop := ∀ (a0 : Int) (a1 : Int) (a2 : Int) (a3 : Int), (Lit.int .u8 a0).wf = true → (Lit.int .u8 a1).wf = true → (Lit.int .i64 a2).wf = true → (Lit.int .i64 a3).wf = true → ∃ k, dustmanlaw04_PicksTurns.f k a0 a1 a2 a3 = some true
theorem dustmanlaw04_PicksTurns.walk (P : dustmanlaw04_PicksTurns.Pure) (a0 : Int) (a1 : Int) (a2 : Int) (a3 : Int) (w : World) (w0 : (Lit.int .u8 a0).wf = true) (w1 : (Lit.int .u8 a1).wf = true) (w2 : (Lit.int .i64 a2).wf = true) (w3 : (Lit.int .i64 a3).wf = true) :
    Calls Try.prog 7 #[.int .u8 a0, .int .u8 a1, .int .i64 a2, .int .i64 a3] w fun e w' => e = .returned (.bool true) ∧ Below w.heap.size w w' := by
  obtain ⟨k, h⟩ := P a0 a1 a2 a3 w0 w1 w2 w3
  refine (dustmanlaw04_PicksTurns.calls k a0 a1 a2 a3 true w h).mono ?_
  rintro e w' ⟨rfl, hd⟩
  exact ⟨rfl, hd⟩

/-! ### plan_Gap: function 24 -/
def plan_Gap.l0 : Nat → Int → Int → Int → List Int → Int → Int → Option (Int)
  | 0, _, _, _, _, _, _ => none
  | k + 1, x1, x5, x6, x9, x10, x11 => if x11 < x10 then (if 0 ≤ x11 then (if x11 < (x9.length : Int) then (if (rd x9 x11) = x1 then (plan_Gap.l0 k x1 (mx x5 0) 0 x9 x10 (wrap64 (x11 + 1))) else (plan_Gap.l0 k x1 (mx x5 (wrap64 (x6 + 1))) (wrap64 (x6 + 1)) x9 x10 (wrap64 (x11 + 1)))) else (none)) else (none)) else (some x5)
def plan_Gap.f (k : Nat) (l0 : List Int) (a1 : Int) : Option (Int) := plan_Gap.l0 k a1 0 0 l0 (l0.length : Int) 0
theorem plan_Gap.mono_l : ∀ k, (∀ y0 y1 y2 y3 y4 y5, LeO (plan_Gap.l0 k y0 y1 y2 y3 y4 y5) (plan_Gap.l0 (k + 1) y0 y1 y2 y3 y4 y5))
  | 0 => fun _ _ _ _ _ _ r h => by simp [plan_Gap.l0] at h
  | k + 1 => by
    have ih0 := plan_Gap.mono_l k
    · intro y0 y1 y2 y3 y4 y5
      unfold plan_Gap.l0
      repeat' first
      | (with_reducible exact ih0 _ _ _ _ _ _)
      | (with_reducible exact LeO.refl _)
      | (with_reducible exact LeO.none _)
      | (with_reducible refine LeO.ite ?_ ?_)
      | (with_reducible refine LeO.bind ?_ (fun _ => ?_))
      | exact ih0 _ _ _ _ _ _
      | exact LeO.none _
      | refine LeO.ite ?_ ?_
      | refine LeO.bind ?_ (fun _ => ?_)
theorem plan_Gap.mono : ∀ a0 a1 k, LeO (plan_Gap.f k a0 a1) (plan_Gap.f (k + 1) a0 a1) := by
  intro a0 a1 k
  have ih0 := plan_Gap.mono_l k
  unfold plan_Gap.f
  repeat' first
      | (with_reducible exact ih0 _ _ _ _ _ _)
      | (with_reducible exact LeO.refl _)
      | (with_reducible exact LeO.none _)
      | (with_reducible refine LeO.ite ?_ ?_)
      | (with_reducible refine LeO.bind ?_ (fun _ => ?_))
      | exact ih0 _ _ _ _ _ _
      | exact LeO.none _
      | refine LeO.ite ?_ ?_
      | refine LeO.bind ?_ (fun _ => ?_)
set_option maxHeartbeats 8000000 in
set_option maxRecDepth 100000 in
theorem plan_Gap.calls (k : Nat) (A0 : Option Addr) (c0 : Nat) (l0 : List Int) (a1 : Int) (r : Int) (w : World) (hr0 : Kd.C (Kd.int .i64) w A0 l0.length l0) (hc0 : l0.length ≤ c0) (h : plan_Gap.f k l0 a1 = some r) :
    Calls Try.prog 24 #[.slice A0 l0.length c0, .int .i64 a1] w fun e w' => e = .returned (.int .i64 r) ∧ Below w.heap.size w w' := by
  have HR0 := Aside0.mk hr0
  have HC0 := Aside0.mk hc0
  clear hr0 hc0
  have HB := Aside0.mk (Below.refl w.heap.size w)
  have H : (plan_Gap.l0 k a1 0 0 l0 (l0.length : Int) 0) = some r := h
  clear h
  have H' := Aside0.mk H
  clear H
  go_enter Try.func24, Try.ntmps24
  go_wp2
  go_loopg [5, 6, 11] k (fun kq v5 v6 v11 w' => ∃ (x5_1 : Int) (x6_1 : Int) (x11_1 : Int), v5 = .int .i64 x5_1 ∧ v6 = .int .i64 x6_1 ∧ v11 = .int .i64 x11_1 ∧ Aside0 (plan_Gap.l0 kq a1 x5_1 x6_1 l0 (l0.length : Int) x11_1 = some r) ∧ Aside0 (kq ≤ k) ∧ Aside0 (Below w.heap.size w w'))
  case atStart => exact ⟨(0), (0), (0), (by first | rfl | (simp; done) | (simp [*]; done)), (by first | rfl | (simp; done) | (simp [*]; done)), (by first | rfl | (simp; done) | (simp [*]; done)), H', ⟨Nat.le_refl _⟩, ⟨by repeat (first | (with_reducible first | exact HB.out | apply below_alloc | apply pw_below_drewN | apply below_drew1) | exact HB.out)⟩⟩
  case round =>
    clear H'
    try clear c2
    try clear p2
    obtain ⟨x5_1, x6_1, x11_1, rfl, rfl, rfl, HA, HK1, HB⟩ := hrel
    cases gk with
    | zero => exact absurd HA.out (by simp [plan_Gap.l0])
    | succ k1 =>
      have H := HA.out
      clear HA
      simp only [plan_Gap.l0] at H
      by_cases c3 : x11_1 < (l0.length : Int)
      · rw [if_pos c3] at H
        have c3b0 : decide (x11_1 < (l0.length : Int)) = true := decide_eq_true c3
        clear c3
        by_cases c4 : 0 ≤ x11_1
        · rw [if_pos c4] at H
          have c4b0 : decide (0 ≤ x11_1) = true := decide_eq_true c4
          clear c4
          by_cases c5 : x11_1 < (l0.length : Int)
          · rw [if_pos c5] at H
            have c5b0 : decide (x11_1 < (l0.length : Int)) = true := decide_eq_true c5
            clear c5
            by_cases c6 : (rd l0 x11_1) = a1
            · rw [if_pos c6] at H
              have c6b0 : ((rd l0 x11_1) == a1) = true := beq_iff_eq.mpr c6
              have c6b1 : ((rd l0 x11_1) != a1) = false := bne_eq_false_iff_eq.mpr c6
              clear c6
              obtain ⟨ji7, hji7⟩ : ∃ j_ : Int, (mx x5_1 0) = j_ := ⟨_, rfl⟩
              replace H : (plan_Gap.l0 k1 a1 ji7 0 l0 (l0.length : Int) (wrap64 (x11_1 + 1))) = some r := by first | (rw [hji7] at H; exact H) | (simp only [hji7] at H ⊢; exact H)
              have hji7_ : (if x5_1 < 0 then 0 else x5_1) = ji7 := hji7
              have H' := Aside0.mk H
              clear H
              have p289 : 0 ≤ (x11_1 : Int) := of_decide_eq_true (by first | (with_reducible assumption) | assumption)
              have q289 : x11_1 < (l0.length : Int) := of_decide_eq_true (by first | (with_reducible assumption) | assumption)
              obtain ⟨ad289, e289, hx289_0⟩ := Kd.at_int HR0.out x11_1 p289 q289
              cases e289
              replace hx289_0 := (HB.out.cell (World.block_lt_of_cell? w _ hx289_0)).trans hx289_0
              replace p289 := eq_true p289
              replace q289 := eq_true q289
              go_wp2
              go_roundg k1
              case measure => have := HK1.out; omega
              case rel => exact ⟨(ji7), (0), (wrap64 (x11_1 + 1)), (by first | rfl | (simp; done) | (simp only [← hji7] <;> (first | rfl | simp)) | (simp [*]; done)), (by first | rfl | (simp; done) | (simp [*]; done)), (by first | rfl | (simp; done) | (simp [*]; done)), H', ⟨by have := HK1.out; omega⟩, ⟨by repeat (first | (with_reducible first | exact HB.out | apply below_alloc | apply pw_below_drewN | apply below_drew1) | exact HB.out)⟩⟩
            · rw [if_neg c6] at H
              have c6b0 : ((rd l0 x11_1) == a1) = false := beq_eq_false_iff_ne.mpr c6
              have c6b1 : ((rd l0 x11_1) != a1) = true := bne_iff_ne.mpr c6
              obtain ⟨ji8, hji8⟩ : ∃ j_ : Int, (mx x5_1 (wrap64 (x6_1 + 1))) = j_ := ⟨_, rfl⟩
              replace H : (plan_Gap.l0 k1 a1 ji8 (wrap64 (x6_1 + 1)) l0 (l0.length : Int) (wrap64 (x11_1 + 1))) = some r := by first | (rw [hji8] at H; exact H) | (simp only [hji8] at H ⊢; exact H)
              have hji8_ : (if x5_1 < (wrap64 (x6_1 + 1)) then (wrap64 (x6_1 + 1)) else x5_1) = ji8 := hji8
              have H' := Aside0.mk H
              clear H
              have p289 : 0 ≤ (x11_1 : Int) := of_decide_eq_true (by first | (with_reducible assumption) | assumption)
              have q289 : x11_1 < (l0.length : Int) := of_decide_eq_true (by first | (with_reducible assumption) | assumption)
              obtain ⟨ad289, e289, hx289_0⟩ := Kd.at_int HR0.out x11_1 p289 q289
              cases e289
              replace hx289_0 := (HB.out.cell (World.block_lt_of_cell? w _ hx289_0)).trans hx289_0
              replace p289 := eq_true p289
              replace q289 := eq_true q289
              go_wp2
              go_roundg k1
              case measure => have := HK1.out; omega
              case rel => exact ⟨(ji8), (wrap64 (x6_1 + 1)), (wrap64 (x11_1 + 1)), (by first | rfl | (simp; done) | (simp only [← hji8] <;> (first | rfl | simp)) | (simp [*]; done)), (by first | rfl | (simp; done) | (simp [*]; done)), (by first | rfl | (simp; done) | (simp [*]; done)), H', ⟨by have := HK1.out; omega⟩, ⟨by repeat (first | (with_reducible first | exact HB.out | apply below_alloc | apply pw_below_drewN | apply below_drew1) | exact HB.out)⟩⟩
          · rw [if_neg c5] at H
            exact absurd H (by simp)
        · rw [if_neg c4] at H
          exact absurd H (by simp)
      · rw [if_neg c3] at H
        have c3b0 : decide (x11_1 < (l0.length : Int)) = false := decide_eq_false c3
        clear c3
        obtain rfl := Option.some.inj H
        go_wp2
        go_ret
        exact ⟨by first | rfl | (simp [errW_none, errW_some] <;> rfl) | (simp [*, errW_none, errW_some] <;> rfl), by repeat (first | (with_reducible first | exact HB.out | apply below_alloc | apply pw_below_drewN | apply below_drew1) | exact HB.out)⟩

/-! ### plan_Windows: function 22 -/
mutual
def plan_Windows.j0 : Nat → List Int → Int → Int → Bool → Option (Bool)
  | 0, _, _, _, _ => none
  | k + 1, x0, x1, x2, x15 => if x15 = true then (some true) else (if x2 < 1 then (plan_Windows.j1 k x0 x1 x2 true) else (plan_Windows.j1 k x0 x1 x2 (decide (x1 > (x0.length : Int)))))
def plan_Windows.j1 : Nat → List Int → Int → Int → Bool → Option (Bool)
  | 0, _, _, _, _ => none
  | k + 1, x0, x1, x2, x23 => if x23 = true then (some false) else (plan_Windows.l0 k x0 x2 x1 0)
def plan_Windows.l0 : Nat → List Int → Int → Int → Int → Option (Bool)
  | 0, _, _, _, _ => none
  | k + 1, x0, x2, x24, x25 => if x25 < x24 then ((plan_Gap.f k x0 x25).bind fun t290 => (if t290 ≥ x2 then (some false) else (plan_Windows.l0 k x0 x2 x24 (wrap64 (x25 + 1))))) else (some true)
end
def plan_Windows.f (k : Nat) (l0 : List Int) (a1 : Int) (a2 : Int) : Option (Bool) := if a1 < 1 then (plan_Windows.j0 k l0 a1 a2 true) else (plan_Windows.j0 k l0 a1 a2 (decide (a2 > (l0.length : Int))))
theorem plan_Windows.mono_l : ∀ k, (∀ y0 y1 y2 y3, LeO (plan_Windows.j0 k y0 y1 y2 y3) (plan_Windows.j0 (k + 1) y0 y1 y2 y3)) ∧ (∀ y0 y1 y2 y3, LeO (plan_Windows.j1 k y0 y1 y2 y3) (plan_Windows.j1 (k + 1) y0 y1 y2 y3)) ∧ (∀ y0 y1 y2 y3, LeO (plan_Windows.l0 k y0 y1 y2 y3) (plan_Windows.l0 (k + 1) y0 y1 y2 y3))
  | 0 => ⟨fun _ _ _ _ r h => by simp [plan_Windows.j0] at h, fun _ _ _ _ r h => by simp [plan_Windows.j1] at h, fun _ _ _ _ r h => by simp [plan_Windows.l0] at h⟩
  | k + 1 => by
    obtain ⟨ih0, ih1, ih2⟩ := plan_Windows.mono_l k
    refine ⟨?_, ?_, ?_⟩
    · intro y0 y1 y2 y3
      unfold plan_Windows.j0
      repeat' first
      | (with_reducible exact ih0 _ _ _ _)
      | (with_reducible exact ih1 _ _ _ _)
      | (with_reducible exact ih2 _ _ _ _)
      | (with_reducible exact plan_Gap.mono _ _ _)
      | (with_reducible exact LeO.refl _)
      | (with_reducible exact LeO.none _)
      | (with_reducible refine LeO.ite ?_ ?_)
      | (with_reducible refine LeO.bind ?_ (fun _ => ?_))
      | exact ih0 _ _ _ _
      | exact ih1 _ _ _ _
      | exact ih2 _ _ _ _
      | exact plan_Gap.mono _ _ _
      | exact LeO.none _
      | refine LeO.ite ?_ ?_
      | refine LeO.bind ?_ (fun _ => ?_)
    · intro y0 y1 y2 y3
      unfold plan_Windows.j1
      repeat' first
      | (with_reducible exact ih0 _ _ _ _)
      | (with_reducible exact ih1 _ _ _ _)
      | (with_reducible exact ih2 _ _ _ _)
      | (with_reducible exact plan_Gap.mono _ _ _)
      | (with_reducible exact LeO.refl _)
      | (with_reducible exact LeO.none _)
      | (with_reducible refine LeO.ite ?_ ?_)
      | (with_reducible refine LeO.bind ?_ (fun _ => ?_))
      | exact ih0 _ _ _ _
      | exact ih1 _ _ _ _
      | exact ih2 _ _ _ _
      | exact plan_Gap.mono _ _ _
      | exact LeO.none _
      | refine LeO.ite ?_ ?_
      | refine LeO.bind ?_ (fun _ => ?_)
    · intro y0 y1 y2 y3
      unfold plan_Windows.l0
      repeat' first
      | (with_reducible exact ih0 _ _ _ _)
      | (with_reducible exact ih1 _ _ _ _)
      | (with_reducible exact ih2 _ _ _ _)
      | (with_reducible exact plan_Gap.mono _ _ _)
      | (with_reducible exact LeO.refl _)
      | (with_reducible exact LeO.none _)
      | (with_reducible refine LeO.ite ?_ ?_)
      | (with_reducible refine LeO.bind ?_ (fun _ => ?_))
      | exact ih0 _ _ _ _
      | exact ih1 _ _ _ _
      | exact ih2 _ _ _ _
      | exact plan_Gap.mono _ _ _
      | exact LeO.none _
      | refine LeO.ite ?_ ?_
      | refine LeO.bind ?_ (fun _ => ?_)
theorem plan_Windows.mono : ∀ a0 a1 a2 k, LeO (plan_Windows.f k a0 a1 a2) (plan_Windows.f (k + 1) a0 a1 a2) := by
  intro a0 a1 a2 k
  obtain ⟨ih0, ih1, ih2⟩ := plan_Windows.mono_l k
  unfold plan_Windows.f
  repeat' first
      | (with_reducible exact ih0 _ _ _ _)
      | (with_reducible exact ih1 _ _ _ _)
      | (with_reducible exact ih2 _ _ _ _)
      | (with_reducible exact plan_Gap.mono _ _ _)
      | (with_reducible exact LeO.refl _)
      | (with_reducible exact LeO.none _)
      | (with_reducible refine LeO.ite ?_ ?_)
      | (with_reducible refine LeO.bind ?_ (fun _ => ?_))
      | exact ih0 _ _ _ _
      | exact ih1 _ _ _ _
      | exact ih2 _ _ _ _
      | exact plan_Gap.mono _ _ _
      | exact LeO.none _
      | refine LeO.ite ?_ ?_
      | refine LeO.bind ?_ (fun _ => ?_)
set_option maxHeartbeats 8000000 in
set_option maxRecDepth 100000 in
theorem plan_Windows.calls (k : Nat) (A0 : Option Addr) (c0 : Nat) (l0 : List Int) (a1 : Int) (a2 : Int) (r : Bool) (w : World) (hr0 : Kd.C (Kd.int .i64) w A0 l0.length l0) (hc0 : l0.length ≤ c0) (h : plan_Windows.f k l0 a1 a2 = some r) :
    Calls Try.prog 22 #[.slice A0 l0.length c0, .int .i64 a1, .int .i64 a2] w fun e w' => e = .returned (.bool r) ∧ Below w.heap.size w w' := by
  have HR0 := Aside0.mk hr0
  have HC0 := Aside0.mk hc0
  clear hr0 hc0
  have HB := Aside0.mk (Below.refl w.heap.size w)
  have H : (if a1 < 1 then (plan_Windows.j0 k l0 a1 a2 true) else (plan_Windows.j0 k l0 a1 a2 (decide (a2 > (l0.length : Int))))) = some r := h
  clear h
  have HC4 := Aside0.mk H
  clear H
  go_enter Try.func22, Try.ntmps22
  go_upto_region 1 with (fail)
  go_cut [15] (fun v15 wc => ∃ (kq : Nat) (x15_3 : Bool), v15 = .bool x15_3 ∧ Aside0 (plan_Windows.j0 kq l0 a1 a2 x15_3 = some r) ∧ Aside0 (kq ≤ k) ∧ Aside0 (Below w.heap.size w wc))
  case first =>
    have H := HC4.out
    clear HC4
    by_cases c5 : a1 < 1
    · rw [if_pos c5] at H
      have c5b0 : decide (a1 < 1) = true := decide_eq_true c5
      clear c5
      (first | rw [c5b0] | (simp only [i64_w, i32_w]; rw [c5b0]) | skip)
      have H' := Aside0.mk H
      clear H
      go_wp2
      go_meet
      case rel => exact ⟨_, (true), (by first | rfl | (simp; done) | (simp [*]; done)), H', ⟨by first | omega | exact Nat.le_refl _⟩, ⟨by repeat (first | (with_reducible first | exact HB.out | apply below_alloc | apply pw_below_drewN | apply below_drew1) | exact HB.out)⟩⟩
    · rw [if_neg c5] at H
      have c5b0 : decide (a1 < 1) = false := decide_eq_false c5
      clear c5
      (first | rw [c5b0] | (simp only [i64_w, i32_w]; rw [c5b0]) | skip)
      have H' := Aside0.mk H
      clear H
      go_wp2
      go_meet
      case rel => exact ⟨_, (decide (a2 > (l0.length : Int))), (by first | rfl | (simp; done) | (simp [*]; done)), H', ⟨by first | omega | exact Nat.le_refl _⟩, ⟨by repeat (first | (with_reducible first | exact HB.out | apply below_alloc | apply pw_below_drewN | apply below_drew1) | exact HB.out)⟩⟩
  case rest =>
    clear HC4
    try clear c2
    try clear p2
    try clear c5
    try clear c5b0
    obtain ⟨kq, x15_3, rfl, HA, HJ3, HB⟩ := hcut
    cases kq with
    | zero => exact absurd HA.out (by simp [plan_Windows.j0])
    | succ kj3 =>
      have H := HA.out
      clear HA
      simp only [plan_Windows.j0] at H
      by_cases c6 : x15_3 = true
      · subst c6
        have H1 : (some true) = some r := by rw [if_pos rfl] at H; exact H
        clear H
        have H := H1
        clear H1
        obtain rfl := Option.some.inj H
        go_wp2
        go_ret
        exact ⟨by first | rfl | (simp [errW_none, errW_some] <;> rfl) | (simp [*, errW_none, errW_some] <;> rfl), by repeat (first | (with_reducible first | exact HB.out | apply below_alloc | apply pw_below_drewN | apply below_drew1) | exact HB.out)⟩
      · replace c6 := Bool.eq_false_iff.mpr c6
        subst c6
        have H1 : (if a2 < 1 then (plan_Windows.j1 kj3 l0 a1 a2 true) else (plan_Windows.j1 kj3 l0 a1 a2 (decide (a1 > (l0.length : Int))))) = some r := by rw [if_neg (show ¬ (false = true) by decide)] at H; exact H
        clear H
        have H := H1
        clear H1
        have HC7 := Aside0.mk H
        clear H
        go_upto_region 3 with (fail)
        go_cut [23] (fun v23 wc => ∃ (kq : Nat) (x23_6 : Bool), v23 = .bool x23_6 ∧ Aside0 (plan_Windows.j1 kq l0 a1 a2 x23_6 = some r) ∧ Aside0 (kq ≤ kj3) ∧ Aside0 (Below w.heap.size w wc))
        case first =>
          have H := HC7.out
          clear HC7
          by_cases c8 : a2 < 1
          · rw [if_pos c8] at H
            have c8b0 : decide (a2 < 1) = true := decide_eq_true c8
            clear c8
            (first | rw [c8b0] | (simp only [i64_w, i32_w]; rw [c8b0]) | skip)
            have H' := Aside0.mk H
            clear H
            go_wp2
            go_meet
            case rel => exact ⟨_, (true), (by first | rfl | (simp; done) | (simp [*]; done)), H', ⟨by have := HJ3.out; first | omega | exact Nat.le_refl _⟩, ⟨by repeat (first | (with_reducible first | exact HB.out | apply below_alloc | apply pw_below_drewN | apply below_drew1) | exact HB.out)⟩⟩
          · rw [if_neg c8] at H
            have c8b0 : decide (a2 < 1) = false := decide_eq_false c8
            clear c8
            (first | rw [c8b0] | (simp only [i64_w, i32_w]; rw [c8b0]) | skip)
            have H' := Aside0.mk H
            clear H
            go_wp2
            go_meet
            case rel => exact ⟨_, (decide (a1 > (l0.length : Int))), (by first | rfl | (simp; done) | (simp [*]; done)), H', ⟨by have := HJ3.out; first | omega | exact Nat.le_refl _⟩, ⟨by repeat (first | (with_reducible first | exact HB.out | apply below_alloc | apply pw_below_drewN | apply below_drew1) | exact HB.out)⟩⟩
        case rest =>
          clear HC7
          try clear c2
          try clear p2
          try clear c5
          try clear c5b0
          try clear c6
          try clear c8
          try clear c8b0
          try clear p2
          obtain ⟨kq, x23_6, rfl, HA, HJ6, HB⟩ := hcut
          cases kq with
          | zero => exact absurd HA.out (by simp [plan_Windows.j1])
          | succ kj6 =>
            have H := HA.out
            clear HA
            simp only [plan_Windows.j1] at H
            by_cases c9 : x23_6 = true
            · subst c9
              have H1 : (some false) = some r := by rw [if_pos rfl] at H; exact H
              clear H
              have H := H1
              clear H1
              obtain rfl := Option.some.inj H
              go_wp2
              go_ret
              exact ⟨by first | rfl | (simp [errW_none, errW_some] <;> rfl) | (simp [*, errW_none, errW_some] <;> rfl), by repeat (first | (with_reducible first | exact HB.out | apply below_alloc | apply pw_below_drewN | apply below_drew1) | exact HB.out)⟩
            · replace c9 := Bool.eq_false_iff.mpr c9
              subst c9
              have H1 : (plan_Windows.l0 kj6 l0 a2 a1 0) = some r := by rw [if_neg (show ¬ (false = true) by decide)] at H; exact H
              clear H
              have H := H1
              clear H1
              have H' := Aside0.mk H
              clear H
              go_wp2
              go_loopg [25] kj6 (fun kq v25 w' => ∃ (x25_3 : Int), v25 = .int .i64 x25_3 ∧ Aside0 (plan_Windows.l0 kq l0 a2 a1 x25_3 = some r) ∧ Aside0 (kq ≤ kj6) ∧ Aside0 (Below w.heap.size w w'))
              case atStart => exact ⟨(0), (by first | rfl | (simp; done) | (simp [*]; done)), H', ⟨Nat.le_refl _⟩, ⟨by repeat (first | (with_reducible first | exact HB.out | apply below_alloc | apply pw_below_drewN | apply below_drew1) | exact HB.out)⟩⟩
              case round =>
                clear H'
                try clear c2
                try clear p2
                try clear c5
                try clear c5b0
                try clear c6
                try clear c8
                try clear c8b0
                try clear c9
                try clear p2
                obtain ⟨x25_3, rfl, HA, HK3, HB⟩ := hrel
                cases gk with
                | zero => exact absurd HA.out (by simp [plan_Windows.l0])
                | succ k3 =>
                  have H := HA.out
                  clear HA
                  simp only [plan_Windows.l0] at H
                  by_cases c10 : x25_3 < a1
                  · rw [if_pos c10] at H
                    have c10b0 : decide (x25_3 < a1) = true := decide_eq_true c10
                    clear c10
                    replace H := Option.bind_eq_some_iff.mp H
                    obtain ⟨t290, A110, H⟩ := H
                    replace H : (if t290 ≥ a2 then (some false) else (plan_Windows.l0 k3 l0 a2 a1 (wrap64 (x25_3 + 1)))) = some r := H
                    have A11 := Aside0.mk A110
                    clear A110
                    by_cases c12 : t290 ≥ a2
                    · rw [if_pos c12] at H
                      have c12b0 : decide (a2 ≤ t290) = true := decide_eq_true c12
                      clear c12
                      obtain rfl := Option.some.inj H
                      go_wp2_with (first | ((with_reducible refine gate_callee (f := 24) rfl ?_); refine goesL_ (some 30) rfl rfl Try.func24 (by kernel_rfl) rfl #[.slice A0 l0.length c0, .int .i64 x25_3] rfl (by (try simp only [List.map_toArray, List.map_cons, List.map_nil]); first | done | rfl | (simp only [List.length_drop, List.length_take]; rfl)) ?_; (with_reducible refine (plan_Gap.calls k3 _ _ l0 x25_3 t290 _ ?side1 ?side2 A11.out).mono ?_); (case side1 => repeat (first | exact (Kd.C_below HR0.out HB.out) | (with_reducible refine Kd.C_alloc ?_ _) | (with_reducible refine Kd.C_drewN ?_ _) | (with_reducible refine Kd.C_drew ?_))); (case side2 => exact HC0.out); rintro e w13 ⟨rfl, hb⟩; refine ⟨_, rfl, ?_⟩; have n0_ := Aside0.mk (below_step (by repeat (first | (with_reducible first | exact HB.out | apply below_alloc | apply pw_below_drewN | apply below_drew1) | exact HB.out)) hb); clear HB; have HB := n0_; clear n0_; (try clear hb); (try clear hb2); (try clear hk); (try clear hi)))
                      go_ret
                      exact ⟨by first | rfl | (simp [errW_none, errW_some] <;> rfl) | (simp [*, errW_none, errW_some] <;> rfl), by repeat (first | (with_reducible first | exact HB.out | apply below_alloc | apply pw_below_drewN | apply below_drew1) | exact HB.out)⟩
                    · rw [if_neg c12] at H
                      have c12b0 : decide (a2 ≤ t290) = false := decide_eq_false c12
                      clear c12
                      have H' := Aside0.mk H
                      clear H
                      go_wp2_with (first | ((with_reducible refine gate_callee (f := 24) rfl ?_); refine goesL_ (some 30) rfl rfl Try.func24 (by kernel_rfl) rfl #[.slice A0 l0.length c0, .int .i64 x25_3] rfl (by (try simp only [List.map_toArray, List.map_cons, List.map_nil]); first | done | rfl | (simp only [List.length_drop, List.length_take]; rfl)) ?_; (with_reducible refine (plan_Gap.calls k3 _ _ l0 x25_3 t290 _ ?side1 ?side2 A11.out).mono ?_); (case side1 => repeat (first | exact (Kd.C_below HR0.out HB.out) | (with_reducible refine Kd.C_alloc ?_ _) | (with_reducible refine Kd.C_drewN ?_ _) | (with_reducible refine Kd.C_drew ?_))); (case side2 => exact HC0.out); rintro e w14 ⟨rfl, hb⟩; refine ⟨_, rfl, ?_⟩; have n0_ := Aside0.mk (below_step (by repeat (first | (with_reducible first | exact HB.out | apply below_alloc | apply pw_below_drewN | apply below_drew1) | exact HB.out)) hb); clear HB; have HB := n0_; clear n0_; (try clear hb); (try clear hb2); (try clear hk); (try clear hi)))
                      go_roundg k3
                      case measure => have := HJ3.out; have := HJ6.out; have := HK3.out; omega
                      case rel => exact ⟨(wrap64 (x25_3 + 1)), (by first | rfl | (simp; done) | (simp [*]; done)), H', ⟨by have := HJ3.out; have := HJ6.out; have := HK3.out; omega⟩, ⟨by repeat (first | (with_reducible first | exact HB.out | apply below_alloc | apply pw_below_drewN | apply below_drew1) | exact HB.out)⟩⟩
                  · rw [if_neg c10] at H
                    have c10b0 : decide (x25_3 < a1) = false := decide_eq_false c10
                    clear c10
                    obtain rfl := Option.some.inj H
                    go_wp2
                    go_ret
                    exact ⟨by first | rfl | (simp [errW_none, errW_some] <;> rfl) | (simp [*, errW_none, errW_some] <;> rfl), by repeat (first | (with_reducible first | exact HB.out | apply below_alloc | apply pw_below_drewN | apply below_drew1) | exact HB.out)⟩

end Go.Proofs.Ytlhlhlnfojgfgaa.P
