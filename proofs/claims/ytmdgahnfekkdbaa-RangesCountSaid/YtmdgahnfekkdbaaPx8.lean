/- Contracts of the Go functions that this claim's law reaches (plain Lean functions with the same answers), written by a program of this session over the kit's print; Lean checks all of it. -/
import Derived.Test.YtmdgahnfekkdbaaPx0
import Derived.Test.YtmdgahnfekkdbaaPx4
import Derived.Test.YtmdgahnfekkdbaaPx6
namespace Go.Proofs.Ytmdgahnfekkdbaa.P
open Go.RowKit Go.Proofs.YtmdgahnfekkdbaaW.PrintWords Go.Proofs.YtmdgahnfekkdbaaW.PrintLast Go.Proofs.YtmdgahnfekkdbaaW.PrintMore
attribute [local go_sem] max2_int min2_int max_two min_two max_three min_three max_four min_four   -- for this text's walks alone
set_option linter.unusedVariables false
set_option linter.unusedSimpArgs false

/-! ### dustmanlaw10_RangesAll: function 5 -/
def dustmanlaw10_RangesAll.l0 : Nat → Int → Int → List (S24) → Int → Int → Option (Bool)
  | 0, _, _, _, _, _ => none
  | k + 1, x6, x7, x8, x9, x10 => if x10 < (x8.length : Int) then (if 0 ≤ x10 then (if ((rd_T24 x8 x10).f0) = x9 then (if ((rd_T24 x8 x10).f1) < x9 then (some false) else (if x10 < (wrap64 ((x8.length : Int) - 1)) then (if ((rd_T24 x8 x10).f1) = (wrap64 (x9 + x7)) then (if ((rd_T24 x8 x10).f1) > (wrap64 (x9 + x7)) then (some false) else (if ((rd_T24 x8 x10).f1) = x9 then (if x6 > 0 then (some false) else (dustmanlaw10_RangesAll.l0 k x6 x7 x8 ((rd_T24 x8 x10).f1) (wrap64 (x10 + 1)))) else (dustmanlaw10_RangesAll.l0 k x6 x7 x8 ((rd_T24 x8 x10).f1) (wrap64 (x10 + 1))))) else (some false)) else (if ((rd_T24 x8 x10).f1) > (wrap64 (x9 + x7)) then (some false) else (if ((rd_T24 x8 x10).f1) = x9 then (if x6 > 0 then (some false) else (dustmanlaw10_RangesAll.l0 k x6 x7 x8 ((rd_T24 x8 x10).f1) (wrap64 (x10 + 1)))) else (dustmanlaw10_RangesAll.l0 k x6 x7 x8 ((rd_T24 x8 x10).f1) (wrap64 (x10 + 1))))))) else (some false)) else (none)) else (if x9 = x6 then (some (decide ((x8.length : Int) > 0))) else (some false))
def dustmanlaw10_RangesAll.f (k : Nat) (a0 : Int) (a1 : Int) : Option (Bool) := (dustmanlaw10_awake.f).bind fun t130 => (if t130 = true then ((ranges_All.f (wrap64 (a0)) (mx (wrap64 (a1)) 1)).bind fun t131 => (dustmanlaw10_RangesAll.l0 k (wrap64 (a0)) (mx (wrap64 (a1)) 1) t131 0 0)) else (some false))
theorem dustmanlaw10_RangesAll.mono_l : ∀ k, (∀ y0 y1 y2 y3 y4, LeO (dustmanlaw10_RangesAll.l0 k y0 y1 y2 y3 y4) (dustmanlaw10_RangesAll.l0 (k + 1) y0 y1 y2 y3 y4))
  | 0 => fun _ _ _ _ _ r h => by simp [dustmanlaw10_RangesAll.l0] at h
  | k + 1 => by
    have ih0 := dustmanlaw10_RangesAll.mono_l k
    · intro y0 y1 y2 y3 y4
      unfold dustmanlaw10_RangesAll.l0
      repeat' first
      | (with_reducible exact ih0 _ _ _ _ _)
      | (with_reducible exact LeO.refl _)
      | (with_reducible exact LeO.none _)
      | (with_reducible refine LeO.ite ?_ ?_)
      | (with_reducible refine LeO.bind ?_ (fun _ => ?_))
      | exact ih0 _ _ _ _ _
      | exact LeO.none _
      | refine LeO.ite ?_ ?_
      | refine LeO.bind ?_ (fun _ => ?_)
theorem dustmanlaw10_RangesAll.mono : ∀ a0 a1 k, LeO (dustmanlaw10_RangesAll.f k a0 a1) (dustmanlaw10_RangesAll.f (k + 1) a0 a1) := by
  intro a0 a1 k
  have ih0 := dustmanlaw10_RangesAll.mono_l k
  unfold dustmanlaw10_RangesAll.f
  repeat' first
      | (with_reducible exact ih0 _ _ _ _ _)
      | (with_reducible exact LeO.refl _)
      | (with_reducible exact LeO.none _)
      | (with_reducible refine LeO.ite ?_ ?_)
      | (with_reducible refine LeO.bind ?_ (fun _ => ?_))
      | exact ih0 _ _ _ _ _
      | exact LeO.none _
      | refine LeO.ite ?_ ?_
      | refine LeO.bind ?_ (fun _ => ?_)
set_option maxHeartbeats 8000000 in
set_option maxRecDepth 100000 in
theorem dustmanlaw10_RangesAll.calls (k : Nat) (a0 : Int) (a1 : Int) (r : Bool) (w : World) (h : dustmanlaw10_RangesAll.f k a0 a1 = some r) :
    Calls Try.prog 5 #[.int .u8 a0, .int .u8 a1] w fun e w' => e = .returned (.bool r) ∧ Below w.heap.size w w' := by
  have HB := Aside0.mk (Below.refl w.heap.size w)
  have H : ((dustmanlaw10_awake.f).bind fun t130 => (if t130 = true then ((ranges_All.f (wrap64 (a0)) (mx (wrap64 (a1)) 1)).bind fun t131 => (dustmanlaw10_RangesAll.l0 k (wrap64 (a0)) (mx (wrap64 (a1)) 1) t131 0 0)) else (some false))) = some r := h
  clear h
  replace H := Option.bind_eq_some_iff.mp H
  obtain ⟨t130, A30, H⟩ := H
  replace H : (if t130 = true then ((ranges_All.f (wrap64 (a0)) (mx (wrap64 (a1)) 1)).bind fun t131 => (dustmanlaw10_RangesAll.l0 k (wrap64 (a0)) (mx (wrap64 (a1)) 1) t131 0 0)) else (some false)) = some r := H
  have A3 := Aside0.mk A30
  clear A30
  by_cases c4 : t130 = true
  · subst c4
    have H1 : ((ranges_All.f (wrap64 (a0)) (mx (wrap64 (a1)) 1)).bind fun t131 => (dustmanlaw10_RangesAll.l0 k (wrap64 (a0)) (mx (wrap64 (a1)) 1) t131 0 0)) = some r := by rw [if_pos rfl] at H; exact H
    clear H
    have H := H1
    clear H1
    obtain ⟨ji5, hji5⟩ : ∃ j_ : Int, (mx (wrap64 (a1)) 1) = j_ := ⟨_, rfl⟩
    replace H : ((ranges_All.f (wrap64 (a0)) (ji5)).bind fun t131 => (dustmanlaw10_RangesAll.l0 k (wrap64 (a0)) ji5 t131 0 0)) = some r := by first | (rw [hji5] at H; exact H) | (simp only [hji5] at H ⊢; exact H)
    (try rw [hji5] at A3)
    (try (have hji5l : 1 ≤ ji5 := by (rw [← hji5]; unfold mx; (repeat' split) <;> omega)))
    (try (have hji5m : 0 ≤ ji5 := by omega))
    have hji5_ : (if (wrap64 (a1)) < 1 then 1 else (wrap64 (a1))) = ji5 := hji5
    replace H := Option.bind_eq_some_iff.mp H
    obtain ⟨t131, A60, H⟩ := H
    replace H : (dustmanlaw10_RangesAll.l0 k (wrap64 (a0)) ji5 t131 0 0) = some r := H
    have A6 := Aside0.mk A60
    clear A60
    have H' := Aside0.mk H
    clear H
    go_enter Try.func5, Try.ntmps5
    go_wp2_with (first | ((with_reducible refine gate_callee (f := 8) rfl ?_); refine goesL_ (some 11) rfl rfl Try.func8 (by kernel_rfl) rfl #[] rfl (by (try simp only [List.map_toArray, List.map_cons, List.map_nil]); first | done | rfl | (simp only [List.length_drop, List.length_take]; rfl)) ?_; (with_reducible refine (dustmanlaw10_awake.calls  true _ A3.out).mono ?_); rintro e w7 ⟨rfl, hb⟩; refine ⟨_, rfl, ?_⟩; have n0_ := Aside0.mk (below_step (by repeat (first | (with_reducible first | exact HB.out | apply below_alloc | apply pw_below_drewN | apply below_drew1) | exact HB.out)) hb); clear HB; have HB := n0_; clear n0_; (try clear hb); (try clear hb2); (try clear hk); (try clear hi)) | ((with_reducible refine gate_callee (f := 13) rfl ?_); refine goesL_ (some 21) rfl rfl Try.func13 (by kernel_rfl) rfl #[.int .i64 (wrap64 (a0)), .int .i64 ji5] rfl (by (try simp only [List.map_toArray, List.map_cons, List.map_nil]); first | done | (simp only [hji5]; rfl) | rfl | (simp only [List.length_drop, List.length_take]; rfl)) ?_; (with_reducible refine (ranges_All.calls (wrap64 (a0)) ji5 t131 _ A6.out).mono ?_); rintro e w8 ⟨v132, rfl, ho0, hb⟩; refine ⟨_, rfl, ?_⟩; have n0_ := Aside0.mk (Kd.R_lower ho0 (below_size (by repeat (first | (with_reducible first | exact HB.out | apply below_alloc | apply pw_below_drewN | apply below_drew1) | exact HB.out)))); have n1_ := Aside0.mk (below_step (by repeat (first | (with_reducible first | exact HB.out | apply below_alloc | apply pw_below_drewN | apply below_drew1) | exact HB.out)) hb); clear HB; have HO133 := n0_; have HB := n1_; clear n0_ n1_; (try clear hb); (try clear hb2); (try clear hk); (try clear hi); (try clear ho0)))
    go_loopg [9, 10] k (fun kq v9 v10 w' => ∃ (x9_1 : Int) (x10_1 : Int), v9 = .int .i64 x9_1 ∧ v10 = .int .i64 x10_1 ∧ Aside0 (dustmanlaw10_RangesAll.l0 kq (wrap64 (a0)) ji5 t131 x9_1 x10_1 = some r) ∧ Aside0 (kq ≤ k) ∧ Aside0 (Kd.R k24 24 w' w.heap.size (fun _ => True) v132 t131) ∧ Aside0 (Below w.heap.size w w'))
    case atStart => exact ⟨(0), (0), (by first | rfl | (simp; done) | (simp [*]; done)), (by first | rfl | (simp; done) | (simp [*]; done)), H', ⟨Nat.le_refl _⟩, ⟨by (with_reducible repeat (first | apply Kd.R_alloc | apply Kd.R_drewN | apply Kd.R_drew)); exact HO133.out⟩, ⟨by repeat (first | (with_reducible first | exact HB.out | apply below_alloc | apply pw_below_drewN | apply below_drew1) | exact HB.out)⟩⟩
    case round =>
      clear H'
      try clear c1
      try clear p2
      try clear c4
      try clear c5
      try clear p6
      try clear c8
      obtain ⟨x9_1, x10_1, rfl, rfl, HA, HK1, HO_8, HB⟩ := hrel
      cases gk with
      | zero => exact absurd HA.out (by simp [dustmanlaw10_RangesAll.l0])
      | succ k1 =>
        have H := HA.out
        clear HA
        simp only [dustmanlaw10_RangesAll.l0] at H
        by_cases c9 : x10_1 < (t131.length : Int)
        · rw [if_pos c9] at H
          have c9b0 : decide (x10_1 < (t131.length : Int)) = true := decide_eq_true c9
          clear c9
          by_cases c10 : 0 ≤ x10_1
          · rw [if_pos c10] at H
            have c10b0 : decide (0 ≤ x10_1) = true := decide_eq_true c10
            clear c10
            by_cases c11 : ((rd_T24 t131 x10_1).f0) = x9_1
            · rw [if_pos c11] at H
              have c11b0 : (((rd_T24 t131 x10_1).f0) == x9_1) = true := beq_iff_eq.mpr c11
              have c11b1 : (((rd_T24 t131 x10_1).f0) != x9_1) = false := bne_eq_false_iff_eq.mpr c11
              clear c11
              by_cases c12 : ((rd_T24 t131 x10_1).f1) < x9_1
              · rw [if_pos c12] at H
                have c12b0 : decide (((rd_T24 t131 x10_1).f1) < x9_1) = true := decide_eq_true c12
                clear c12
                obtain rfl := Option.some.inj H
                obtain ⟨Ao13, co13, eo13⟩ := Kd.R_slice HO_8.out
                subst eo13
                have p134 : 0 ≤ (x10_1 : Int) := of_decide_eq_true (by first | (with_reducible assumption) | assumption)
                have q134 : x10_1 < (t131.length : Int) := of_decide_eq_true (by first | (with_reducible assumption) | assumption)
                obtain ⟨ad134, e134, hx134_0, hx134_1⟩ := at_T24 (Kd.R_reads' HO_8.out).2.2 x10_1 p134 q134
                cases e134
                replace p134 := eq_true p134
                replace q134 := eq_true q134
                have p135 : 0 ≤ (x10_1 : Int) := of_decide_eq_true (by first | (with_reducible assumption) | assumption)
                have q135 : x10_1 < (t131.length : Int) := of_decide_eq_true (by first | (with_reducible assumption) | assumption)
                obtain ⟨ad135, e135, hx135_0, hx135_1⟩ := at_T24 (Kd.R_reads' HO_8.out).2.2 x10_1 p135 q135
                obtain rfl : ad134 = ad135 := (by injection e135)
                replace p135 := eq_true p135
                replace q135 := eq_true q135
                go_wp2
                go_ret
                exact ⟨by first | rfl | (simp [errW_none, errW_some] <;> rfl) | (simp only [← hji5]; first | rfl | (simp [errW_none, errW_some] <;> rfl)) | (simp [*, errW_none, errW_some] <;> rfl), by repeat (first | (with_reducible first | exact HB.out | apply below_alloc | apply pw_below_drewN | apply below_drew1) | exact HB.out)⟩
              · rw [if_neg c12] at H
                have c12b0 : decide (((rd_T24 t131 x10_1).f1) < x9_1) = false := decide_eq_false c12
                clear c12
                by_cases c14 : x10_1 < (wrap64 ((t131.length : Int) - 1))
                · rw [if_pos c14] at H
                  have c14b0 : decide (x10_1 < (wrap64 ((t131.length : Int) - 1))) = true := decide_eq_true c14
                  clear c14
                  by_cases c15 : ((rd_T24 t131 x10_1).f1) = (wrap64 (x9_1 + ji5))
                  · rw [if_pos c15] at H
                    have c15b0 : (((rd_T24 t131 x10_1).f1) == (wrap64 (x9_1 + ji5))) = true := beq_iff_eq.mpr c15
                    have c15b1 : (((rd_T24 t131 x10_1).f1) != (wrap64 (x9_1 + ji5))) = false := bne_eq_false_iff_eq.mpr c15
                    clear c15
                    by_cases c16 : ((rd_T24 t131 x10_1).f1) > (wrap64 (x9_1 + ji5))
                    · rw [if_pos c16] at H
                      have c16b0 : decide ((wrap64 (x9_1 + ji5)) < ((rd_T24 t131 x10_1).f1)) = true := decide_eq_true c16
                      clear c16
                      obtain rfl := Option.some.inj H
                      obtain ⟨Ao17, co17, eo17⟩ := Kd.R_slice HO_8.out
                      subst eo17
                      have p134 : 0 ≤ (x10_1 : Int) := of_decide_eq_true (by first | (with_reducible assumption) | assumption)
                      have q134 : x10_1 < (t131.length : Int) := of_decide_eq_true (by first | (with_reducible assumption) | assumption)
                      obtain ⟨ad134, e134, hx134_0, hx134_1⟩ := at_T24 (Kd.R_reads' HO_8.out).2.2 x10_1 p134 q134
                      cases e134
                      replace p134 := eq_true p134
                      replace q134 := eq_true q134
                      have p135 : 0 ≤ (x10_1 : Int) := of_decide_eq_true (by first | (with_reducible assumption) | assumption)
                      have q135 : x10_1 < (t131.length : Int) := of_decide_eq_true (by first | (with_reducible assumption) | assumption)
                      obtain ⟨ad135, e135, hx135_0, hx135_1⟩ := at_T24 (Kd.R_reads' HO_8.out).2.2 x10_1 p135 q135
                      obtain rfl : ad134 = ad135 := (by injection e135)
                      replace p135 := eq_true p135
                      replace q135 := eq_true q135
                      have p136 : 0 ≤ (x10_1 : Int) := of_decide_eq_true (by first | (with_reducible assumption) | assumption)
                      have q136 : x10_1 < (t131.length : Int) := of_decide_eq_true (by first | (with_reducible assumption) | assumption)
                      obtain ⟨ad136, e136, hx136_0, hx136_1⟩ := at_T24 (Kd.R_reads' HO_8.out).2.2 x10_1 p136 q136
                      obtain rfl : ad134 = ad136 := (by injection e136)
                      replace p136 := eq_true p136
                      replace q136 := eq_true q136
                      have p137 : 0 ≤ (x10_1 : Int) := of_decide_eq_true (by first | (with_reducible assumption) | assumption)
                      have q137 : x10_1 < (t131.length : Int) := of_decide_eq_true (by first | (with_reducible assumption) | assumption)
                      obtain ⟨ad137, e137, hx137_0, hx137_1⟩ := at_T24 (Kd.R_reads' HO_8.out).2.2 x10_1 p137 q137
                      obtain rfl : ad134 = ad137 := (by injection e137)
                      replace p137 := eq_true p137
                      replace q137 := eq_true q137
                      go_wp2
                      go_ret
                      exact ⟨by first | rfl | (simp [errW_none, errW_some] <;> rfl) | (simp only [← hji5]; first | rfl | (simp [errW_none, errW_some] <;> rfl)) | (simp [*, errW_none, errW_some] <;> rfl), by repeat (first | (with_reducible first | exact HB.out | apply below_alloc | apply pw_below_drewN | apply below_drew1) | exact HB.out)⟩
                    · rw [if_neg c16] at H
                      have c16b0 : decide ((wrap64 (x9_1 + ji5)) < ((rd_T24 t131 x10_1).f1)) = false := decide_eq_false c16
                      clear c16
                      by_cases c18 : ((rd_T24 t131 x10_1).f1) = x9_1
                      · rw [if_pos c18] at H
                        have c18b0 : (((rd_T24 t131 x10_1).f1) == x9_1) = true := beq_iff_eq.mpr c18
                        have c18b1 : (((rd_T24 t131 x10_1).f1) != x9_1) = false := bne_eq_false_iff_eq.mpr c18
                        clear c18
                        by_cases c19 : (wrap64 (a0)) > 0
                        · rw [if_pos c19] at H
                          have c19b0 : decide (0 < (wrap64 (a0))) = true := decide_eq_true c19
                          clear c19
                          obtain rfl := Option.some.inj H
                          obtain ⟨Ao20, co20, eo20⟩ := Kd.R_slice HO_8.out
                          subst eo20
                          have p134 : 0 ≤ (x10_1 : Int) := of_decide_eq_true (by first | (with_reducible assumption) | assumption)
                          have q134 : x10_1 < (t131.length : Int) := of_decide_eq_true (by first | (with_reducible assumption) | assumption)
                          obtain ⟨ad134, e134, hx134_0, hx134_1⟩ := at_T24 (Kd.R_reads' HO_8.out).2.2 x10_1 p134 q134
                          cases e134
                          replace p134 := eq_true p134
                          replace q134 := eq_true q134
                          have p135 : 0 ≤ (x10_1 : Int) := of_decide_eq_true (by first | (with_reducible assumption) | assumption)
                          have q135 : x10_1 < (t131.length : Int) := of_decide_eq_true (by first | (with_reducible assumption) | assumption)
                          obtain ⟨ad135, e135, hx135_0, hx135_1⟩ := at_T24 (Kd.R_reads' HO_8.out).2.2 x10_1 p135 q135
                          obtain rfl : ad134 = ad135 := (by injection e135)
                          replace p135 := eq_true p135
                          replace q135 := eq_true q135
                          have p136 : 0 ≤ (x10_1 : Int) := of_decide_eq_true (by first | (with_reducible assumption) | assumption)
                          have q136 : x10_1 < (t131.length : Int) := of_decide_eq_true (by first | (with_reducible assumption) | assumption)
                          obtain ⟨ad136, e136, hx136_0, hx136_1⟩ := at_T24 (Kd.R_reads' HO_8.out).2.2 x10_1 p136 q136
                          obtain rfl : ad134 = ad136 := (by injection e136)
                          replace p136 := eq_true p136
                          replace q136 := eq_true q136
                          have p137 : 0 ≤ (x10_1 : Int) := of_decide_eq_true (by first | (with_reducible assumption) | assumption)
                          have q137 : x10_1 < (t131.length : Int) := of_decide_eq_true (by first | (with_reducible assumption) | assumption)
                          obtain ⟨ad137, e137, hx137_0, hx137_1⟩ := at_T24 (Kd.R_reads' HO_8.out).2.2 x10_1 p137 q137
                          obtain rfl : ad134 = ad137 := (by injection e137)
                          replace p137 := eq_true p137
                          replace q137 := eq_true q137
                          have p138 : 0 ≤ (x10_1 : Int) := of_decide_eq_true (by first | (with_reducible assumption) | assumption)
                          have q138 : x10_1 < (t131.length : Int) := of_decide_eq_true (by first | (with_reducible assumption) | assumption)
                          obtain ⟨ad138, e138, hx138_0, hx138_1⟩ := at_T24 (Kd.R_reads' HO_8.out).2.2 x10_1 p138 q138
                          obtain rfl : ad134 = ad138 := (by injection e138)
                          replace p138 := eq_true p138
                          replace q138 := eq_true q138
                          go_wp2
                          go_ret
                          exact ⟨by first | rfl | (simp [errW_none, errW_some] <;> rfl) | (simp only [← hji5]; first | rfl | (simp [errW_none, errW_some] <;> rfl)) | (simp [*, errW_none, errW_some] <;> rfl), by repeat (first | (with_reducible first | exact HB.out | apply below_alloc | apply pw_below_drewN | apply below_drew1) | exact HB.out)⟩
                        · rw [if_neg c19] at H
                          have c19b0 : decide (0 < (wrap64 (a0))) = false := decide_eq_false c19
                          clear c19
                          have H' := Aside0.mk H
                          clear H
                          obtain ⟨Ao21, co21, eo21⟩ := Kd.R_slice HO_8.out
                          subst eo21
                          have p134 : 0 ≤ (x10_1 : Int) := of_decide_eq_true (by first | (with_reducible assumption) | assumption)
                          have q134 : x10_1 < (t131.length : Int) := of_decide_eq_true (by first | (with_reducible assumption) | assumption)
                          obtain ⟨ad134, e134, hx134_0, hx134_1⟩ := at_T24 (Kd.R_reads' HO_8.out).2.2 x10_1 p134 q134
                          cases e134
                          replace p134 := eq_true p134
                          replace q134 := eq_true q134
                          have p135 : 0 ≤ (x10_1 : Int) := of_decide_eq_true (by first | (with_reducible assumption) | assumption)
                          have q135 : x10_1 < (t131.length : Int) := of_decide_eq_true (by first | (with_reducible assumption) | assumption)
                          obtain ⟨ad135, e135, hx135_0, hx135_1⟩ := at_T24 (Kd.R_reads' HO_8.out).2.2 x10_1 p135 q135
                          obtain rfl : ad134 = ad135 := (by injection e135)
                          replace p135 := eq_true p135
                          replace q135 := eq_true q135
                          have p136 : 0 ≤ (x10_1 : Int) := of_decide_eq_true (by first | (with_reducible assumption) | assumption)
                          have q136 : x10_1 < (t131.length : Int) := of_decide_eq_true (by first | (with_reducible assumption) | assumption)
                          obtain ⟨ad136, e136, hx136_0, hx136_1⟩ := at_T24 (Kd.R_reads' HO_8.out).2.2 x10_1 p136 q136
                          obtain rfl : ad134 = ad136 := (by injection e136)
                          replace p136 := eq_true p136
                          replace q136 := eq_true q136
                          have p137 : 0 ≤ (x10_1 : Int) := of_decide_eq_true (by first | (with_reducible assumption) | assumption)
                          have q137 : x10_1 < (t131.length : Int) := of_decide_eq_true (by first | (with_reducible assumption) | assumption)
                          obtain ⟨ad137, e137, hx137_0, hx137_1⟩ := at_T24 (Kd.R_reads' HO_8.out).2.2 x10_1 p137 q137
                          obtain rfl : ad134 = ad137 := (by injection e137)
                          replace p137 := eq_true p137
                          replace q137 := eq_true q137
                          have p138 : 0 ≤ (x10_1 : Int) := of_decide_eq_true (by first | (with_reducible assumption) | assumption)
                          have q138 : x10_1 < (t131.length : Int) := of_decide_eq_true (by first | (with_reducible assumption) | assumption)
                          obtain ⟨ad138, e138, hx138_0, hx138_1⟩ := at_T24 (Kd.R_reads' HO_8.out).2.2 x10_1 p138 q138
                          obtain rfl : ad134 = ad138 := (by injection e138)
                          replace p138 := eq_true p138
                          replace q138 := eq_true q138
                          have p139 : 0 ≤ (x10_1 : Int) := of_decide_eq_true (by first | (with_reducible assumption) | assumption)
                          have q139 : x10_1 < (t131.length : Int) := of_decide_eq_true (by first | (with_reducible assumption) | assumption)
                          obtain ⟨ad139, e139, hx139_0, hx139_1⟩ := at_T24 (Kd.R_reads' HO_8.out).2.2 x10_1 p139 q139
                          obtain rfl : ad134 = ad139 := (by injection e139)
                          replace p139 := eq_true p139
                          replace q139 := eq_true q139
                          go_wp2
                          go_roundg k1
                          case measure => have := HK1.out; omega
                          case rel => exact ⟨((rd_T24 t131 x10_1).f1), (wrap64 (x10_1 + 1)), (by first | rfl | (simp; done) | (simp [*]; done)), (by first | rfl | (simp; done) | (simp [*]; done)), H', ⟨by have := HK1.out; omega⟩, ⟨by (with_reducible repeat (first | apply Kd.R_alloc | apply Kd.R_drewN | apply Kd.R_drew)); exact HO_8.out⟩, ⟨by repeat (first | (with_reducible first | exact HB.out | apply below_alloc | apply pw_below_drewN | apply below_drew1) | exact HB.out)⟩⟩
                      · rw [if_neg c18] at H
                        have c18b0 : (((rd_T24 t131 x10_1).f1) == x9_1) = false := beq_eq_false_iff_ne.mpr c18
                        have c18b1 : (((rd_T24 t131 x10_1).f1) != x9_1) = true := bne_iff_ne.mpr c18
                        have H' := Aside0.mk H
                        clear H
                        obtain ⟨Ao22, co22, eo22⟩ := Kd.R_slice HO_8.out
                        subst eo22
                        have p134 : 0 ≤ (x10_1 : Int) := of_decide_eq_true (by first | (with_reducible assumption) | assumption)
                        have q134 : x10_1 < (t131.length : Int) := of_decide_eq_true (by first | (with_reducible assumption) | assumption)
                        obtain ⟨ad134, e134, hx134_0, hx134_1⟩ := at_T24 (Kd.R_reads' HO_8.out).2.2 x10_1 p134 q134
                        cases e134
                        replace p134 := eq_true p134
                        replace q134 := eq_true q134
                        have p135 : 0 ≤ (x10_1 : Int) := of_decide_eq_true (by first | (with_reducible assumption) | assumption)
                        have q135 : x10_1 < (t131.length : Int) := of_decide_eq_true (by first | (with_reducible assumption) | assumption)
                        obtain ⟨ad135, e135, hx135_0, hx135_1⟩ := at_T24 (Kd.R_reads' HO_8.out).2.2 x10_1 p135 q135
                        obtain rfl : ad134 = ad135 := (by injection e135)
                        replace p135 := eq_true p135
                        replace q135 := eq_true q135
                        have p136 : 0 ≤ (x10_1 : Int) := of_decide_eq_true (by first | (with_reducible assumption) | assumption)
                        have q136 : x10_1 < (t131.length : Int) := of_decide_eq_true (by first | (with_reducible assumption) | assumption)
                        obtain ⟨ad136, e136, hx136_0, hx136_1⟩ := at_T24 (Kd.R_reads' HO_8.out).2.2 x10_1 p136 q136
                        obtain rfl : ad134 = ad136 := (by injection e136)
                        replace p136 := eq_true p136
                        replace q136 := eq_true q136
                        have p137 : 0 ≤ (x10_1 : Int) := of_decide_eq_true (by first | (with_reducible assumption) | assumption)
                        have q137 : x10_1 < (t131.length : Int) := of_decide_eq_true (by first | (with_reducible assumption) | assumption)
                        obtain ⟨ad137, e137, hx137_0, hx137_1⟩ := at_T24 (Kd.R_reads' HO_8.out).2.2 x10_1 p137 q137
                        obtain rfl : ad134 = ad137 := (by injection e137)
                        replace p137 := eq_true p137
                        replace q137 := eq_true q137
                        have p138 : 0 ≤ (x10_1 : Int) := of_decide_eq_true (by first | (with_reducible assumption) | assumption)
                        have q138 : x10_1 < (t131.length : Int) := of_decide_eq_true (by first | (with_reducible assumption) | assumption)
                        obtain ⟨ad138, e138, hx138_0, hx138_1⟩ := at_T24 (Kd.R_reads' HO_8.out).2.2 x10_1 p138 q138
                        obtain rfl : ad134 = ad138 := (by injection e138)
                        replace p138 := eq_true p138
                        replace q138 := eq_true q138
                        have p140 : 0 ≤ (x10_1 : Int) := of_decide_eq_true (by first | (with_reducible assumption) | assumption)
                        have q140 : x10_1 < (t131.length : Int) := of_decide_eq_true (by first | (with_reducible assumption) | assumption)
                        obtain ⟨ad140, e140, hx140_0, hx140_1⟩ := at_T24 (Kd.R_reads' HO_8.out).2.2 x10_1 p140 q140
                        obtain rfl : ad134 = ad140 := (by injection e140)
                        replace p140 := eq_true p140
                        replace q140 := eq_true q140
                        go_wp2
                        go_roundg k1
                        case measure => have := HK1.out; omega
                        case rel => exact ⟨((rd_T24 t131 x10_1).f1), (wrap64 (x10_1 + 1)), (by first | rfl | (simp; done) | (simp [*]; done)), (by first | rfl | (simp; done) | (simp [*]; done)), H', ⟨by have := HK1.out; omega⟩, ⟨by (with_reducible repeat (first | apply Kd.R_alloc | apply Kd.R_drewN | apply Kd.R_drew)); exact HO_8.out⟩, ⟨by repeat (first | (with_reducible first | exact HB.out | apply below_alloc | apply pw_below_drewN | apply below_drew1) | exact HB.out)⟩⟩
                  · rw [if_neg c15] at H
                    have c15b0 : (((rd_T24 t131 x10_1).f1) == (wrap64 (x9_1 + ji5))) = false := beq_eq_false_iff_ne.mpr c15
                    have c15b1 : (((rd_T24 t131 x10_1).f1) != (wrap64 (x9_1 + ji5))) = true := bne_iff_ne.mpr c15
                    obtain rfl := Option.some.inj H
                    obtain ⟨Ao23, co23, eo23⟩ := Kd.R_slice HO_8.out
                    subst eo23
                    have p134 : 0 ≤ (x10_1 : Int) := of_decide_eq_true (by first | (with_reducible assumption) | assumption)
                    have q134 : x10_1 < (t131.length : Int) := of_decide_eq_true (by first | (with_reducible assumption) | assumption)
                    obtain ⟨ad134, e134, hx134_0, hx134_1⟩ := at_T24 (Kd.R_reads' HO_8.out).2.2 x10_1 p134 q134
                    cases e134
                    replace p134 := eq_true p134
                    replace q134 := eq_true q134
                    have p135 : 0 ≤ (x10_1 : Int) := of_decide_eq_true (by first | (with_reducible assumption) | assumption)
                    have q135 : x10_1 < (t131.length : Int) := of_decide_eq_true (by first | (with_reducible assumption) | assumption)
                    obtain ⟨ad135, e135, hx135_0, hx135_1⟩ := at_T24 (Kd.R_reads' HO_8.out).2.2 x10_1 p135 q135
                    obtain rfl : ad134 = ad135 := (by injection e135)
                    replace p135 := eq_true p135
                    replace q135 := eq_true q135
                    have p136 : 0 ≤ (x10_1 : Int) := of_decide_eq_true (by first | (with_reducible assumption) | assumption)
                    have q136 : x10_1 < (t131.length : Int) := of_decide_eq_true (by first | (with_reducible assumption) | assumption)
                    obtain ⟨ad136, e136, hx136_0, hx136_1⟩ := at_T24 (Kd.R_reads' HO_8.out).2.2 x10_1 p136 q136
                    obtain rfl : ad134 = ad136 := (by injection e136)
                    replace p136 := eq_true p136
                    replace q136 := eq_true q136
                    go_wp2
                    go_ret
                    exact ⟨by first | rfl | (simp [errW_none, errW_some] <;> rfl) | (simp only [← hji5]; first | rfl | (simp [errW_none, errW_some] <;> rfl)) | (simp [*, errW_none, errW_some] <;> rfl), by repeat (first | (with_reducible first | exact HB.out | apply below_alloc | apply pw_below_drewN | apply below_drew1) | exact HB.out)⟩
                · rw [if_neg c14] at H
                  have c14b0 : decide (x10_1 < (wrap64 ((t131.length : Int) - 1))) = false := decide_eq_false c14
                  clear c14
                  by_cases c24 : ((rd_T24 t131 x10_1).f1) > (wrap64 (x9_1 + ji5))
                  · rw [if_pos c24] at H
                    have c24b0 : decide ((wrap64 (x9_1 + ji5)) < ((rd_T24 t131 x10_1).f1)) = true := decide_eq_true c24
                    clear c24
                    obtain rfl := Option.some.inj H
                    obtain ⟨Ao25, co25, eo25⟩ := Kd.R_slice HO_8.out
                    subst eo25
                    have p134 : 0 ≤ (x10_1 : Int) := of_decide_eq_true (by first | (with_reducible assumption) | assumption)
                    have q134 : x10_1 < (t131.length : Int) := of_decide_eq_true (by first | (with_reducible assumption) | assumption)
                    obtain ⟨ad134, e134, hx134_0, hx134_1⟩ := at_T24 (Kd.R_reads' HO_8.out).2.2 x10_1 p134 q134
                    cases e134
                    replace p134 := eq_true p134
                    replace q134 := eq_true q134
                    have p135 : 0 ≤ (x10_1 : Int) := of_decide_eq_true (by first | (with_reducible assumption) | assumption)
                    have q135 : x10_1 < (t131.length : Int) := of_decide_eq_true (by first | (with_reducible assumption) | assumption)
                    obtain ⟨ad135, e135, hx135_0, hx135_1⟩ := at_T24 (Kd.R_reads' HO_8.out).2.2 x10_1 p135 q135
                    obtain rfl : ad134 = ad135 := (by injection e135)
                    replace p135 := eq_true p135
                    replace q135 := eq_true q135
                    have p141 : 0 ≤ (x10_1 : Int) := of_decide_eq_true (by first | (with_reducible assumption) | assumption)
                    have q141 : x10_1 < (t131.length : Int) := of_decide_eq_true (by first | (with_reducible assumption) | assumption)
                    obtain ⟨ad141, e141, hx141_0, hx141_1⟩ := at_T24 (Kd.R_reads' HO_8.out).2.2 x10_1 p141 q141
                    obtain rfl : ad134 = ad141 := (by injection e141)
                    replace p141 := eq_true p141
                    replace q141 := eq_true q141
                    go_wp2
                    go_ret
                    exact ⟨by first | rfl | (simp [errW_none, errW_some] <;> rfl) | (simp only [← hji5]; first | rfl | (simp [errW_none, errW_some] <;> rfl)) | (simp [*, errW_none, errW_some] <;> rfl), by repeat (first | (with_reducible first | exact HB.out | apply below_alloc | apply pw_below_drewN | apply below_drew1) | exact HB.out)⟩
                  · rw [if_neg c24] at H
                    have c24b0 : decide ((wrap64 (x9_1 + ji5)) < ((rd_T24 t131 x10_1).f1)) = false := decide_eq_false c24
                    clear c24
                    by_cases c26 : ((rd_T24 t131 x10_1).f1) = x9_1
                    · rw [if_pos c26] at H
                      have c26b0 : (((rd_T24 t131 x10_1).f1) == x9_1) = true := beq_iff_eq.mpr c26
                      have c26b1 : (((rd_T24 t131 x10_1).f1) != x9_1) = false := bne_eq_false_iff_eq.mpr c26
                      clear c26
                      by_cases c27 : (wrap64 (a0)) > 0
                      · rw [if_pos c27] at H
                        have c27b0 : decide (0 < (wrap64 (a0))) = true := decide_eq_true c27
                        clear c27
                        obtain rfl := Option.some.inj H
                        obtain ⟨Ao28, co28, eo28⟩ := Kd.R_slice HO_8.out
                        subst eo28
                        have p134 : 0 ≤ (x10_1 : Int) := of_decide_eq_true (by first | (with_reducible assumption) | assumption)
                        have q134 : x10_1 < (t131.length : Int) := of_decide_eq_true (by first | (with_reducible assumption) | assumption)
                        obtain ⟨ad134, e134, hx134_0, hx134_1⟩ := at_T24 (Kd.R_reads' HO_8.out).2.2 x10_1 p134 q134
                        cases e134
                        replace p134 := eq_true p134
                        replace q134 := eq_true q134
                        have p135 : 0 ≤ (x10_1 : Int) := of_decide_eq_true (by first | (with_reducible assumption) | assumption)
                        have q135 : x10_1 < (t131.length : Int) := of_decide_eq_true (by first | (with_reducible assumption) | assumption)
                        obtain ⟨ad135, e135, hx135_0, hx135_1⟩ := at_T24 (Kd.R_reads' HO_8.out).2.2 x10_1 p135 q135
                        obtain rfl : ad134 = ad135 := (by injection e135)
                        replace p135 := eq_true p135
                        replace q135 := eq_true q135
                        have p141 : 0 ≤ (x10_1 : Int) := of_decide_eq_true (by first | (with_reducible assumption) | assumption)
                        have q141 : x10_1 < (t131.length : Int) := of_decide_eq_true (by first | (with_reducible assumption) | assumption)
                        obtain ⟨ad141, e141, hx141_0, hx141_1⟩ := at_T24 (Kd.R_reads' HO_8.out).2.2 x10_1 p141 q141
                        obtain rfl : ad134 = ad141 := (by injection e141)
                        replace p141 := eq_true p141
                        replace q141 := eq_true q141
                        have p142 : 0 ≤ (x10_1 : Int) := of_decide_eq_true (by first | (with_reducible assumption) | assumption)
                        have q142 : x10_1 < (t131.length : Int) := of_decide_eq_true (by first | (with_reducible assumption) | assumption)
                        obtain ⟨ad142, e142, hx142_0, hx142_1⟩ := at_T24 (Kd.R_reads' HO_8.out).2.2 x10_1 p142 q142
                        obtain rfl : ad134 = ad142 := (by injection e142)
                        replace p142 := eq_true p142
                        replace q142 := eq_true q142
                        go_wp2
                        go_ret
                        exact ⟨by first | rfl | (simp [errW_none, errW_some] <;> rfl) | (simp only [← hji5]; first | rfl | (simp [errW_none, errW_some] <;> rfl)) | (simp [*, errW_none, errW_some] <;> rfl), by repeat (first | (with_reducible first | exact HB.out | apply below_alloc | apply pw_below_drewN | apply below_drew1) | exact HB.out)⟩
                      · rw [if_neg c27] at H
                        have c27b0 : decide (0 < (wrap64 (a0))) = false := decide_eq_false c27
                        clear c27
                        have H' := Aside0.mk H
                        clear H
                        obtain ⟨Ao29, co29, eo29⟩ := Kd.R_slice HO_8.out
                        subst eo29
                        have p134 : 0 ≤ (x10_1 : Int) := of_decide_eq_true (by first | (with_reducible assumption) | assumption)
                        have q134 : x10_1 < (t131.length : Int) := of_decide_eq_true (by first | (with_reducible assumption) | assumption)
                        obtain ⟨ad134, e134, hx134_0, hx134_1⟩ := at_T24 (Kd.R_reads' HO_8.out).2.2 x10_1 p134 q134
                        cases e134
                        replace p134 := eq_true p134
                        replace q134 := eq_true q134
                        have p135 : 0 ≤ (x10_1 : Int) := of_decide_eq_true (by first | (with_reducible assumption) | assumption)
                        have q135 : x10_1 < (t131.length : Int) := of_decide_eq_true (by first | (with_reducible assumption) | assumption)
                        obtain ⟨ad135, e135, hx135_0, hx135_1⟩ := at_T24 (Kd.R_reads' HO_8.out).2.2 x10_1 p135 q135
                        obtain rfl : ad134 = ad135 := (by injection e135)
                        replace p135 := eq_true p135
                        replace q135 := eq_true q135
                        have p141 : 0 ≤ (x10_1 : Int) := of_decide_eq_true (by first | (with_reducible assumption) | assumption)
                        have q141 : x10_1 < (t131.length : Int) := of_decide_eq_true (by first | (with_reducible assumption) | assumption)
                        obtain ⟨ad141, e141, hx141_0, hx141_1⟩ := at_T24 (Kd.R_reads' HO_8.out).2.2 x10_1 p141 q141
                        obtain rfl : ad134 = ad141 := (by injection e141)
                        replace p141 := eq_true p141
                        replace q141 := eq_true q141
                        have p142 : 0 ≤ (x10_1 : Int) := of_decide_eq_true (by first | (with_reducible assumption) | assumption)
                        have q142 : x10_1 < (t131.length : Int) := of_decide_eq_true (by first | (with_reducible assumption) | assumption)
                        obtain ⟨ad142, e142, hx142_0, hx142_1⟩ := at_T24 (Kd.R_reads' HO_8.out).2.2 x10_1 p142 q142
                        obtain rfl : ad134 = ad142 := (by injection e142)
                        replace p142 := eq_true p142
                        replace q142 := eq_true q142
                        have p143 : 0 ≤ (x10_1 : Int) := of_decide_eq_true (by first | (with_reducible assumption) | assumption)
                        have q143 : x10_1 < (t131.length : Int) := of_decide_eq_true (by first | (with_reducible assumption) | assumption)
                        obtain ⟨ad143, e143, hx143_0, hx143_1⟩ := at_T24 (Kd.R_reads' HO_8.out).2.2 x10_1 p143 q143
                        obtain rfl : ad134 = ad143 := (by injection e143)
                        replace p143 := eq_true p143
                        replace q143 := eq_true q143
                        go_wp2
                        go_roundg k1
                        case measure => have := HK1.out; omega
                        case rel => exact ⟨((rd_T24 t131 x10_1).f1), (wrap64 (x10_1 + 1)), (by first | rfl | (simp; done) | (simp [*]; done)), (by first | rfl | (simp; done) | (simp [*]; done)), H', ⟨by have := HK1.out; omega⟩, ⟨by (with_reducible repeat (first | apply Kd.R_alloc | apply Kd.R_drewN | apply Kd.R_drew)); exact HO_8.out⟩, ⟨by repeat (first | (with_reducible first | exact HB.out | apply below_alloc | apply pw_below_drewN | apply below_drew1) | exact HB.out)⟩⟩
                    · rw [if_neg c26] at H
                      have c26b0 : (((rd_T24 t131 x10_1).f1) == x9_1) = false := beq_eq_false_iff_ne.mpr c26
                      have c26b1 : (((rd_T24 t131 x10_1).f1) != x9_1) = true := bne_iff_ne.mpr c26
                      have H' := Aside0.mk H
                      clear H
                      obtain ⟨Ao30, co30, eo30⟩ := Kd.R_slice HO_8.out
                      subst eo30
                      have p134 : 0 ≤ (x10_1 : Int) := of_decide_eq_true (by first | (with_reducible assumption) | assumption)
                      have q134 : x10_1 < (t131.length : Int) := of_decide_eq_true (by first | (with_reducible assumption) | assumption)
                      obtain ⟨ad134, e134, hx134_0, hx134_1⟩ := at_T24 (Kd.R_reads' HO_8.out).2.2 x10_1 p134 q134
                      cases e134
                      replace p134 := eq_true p134
                      replace q134 := eq_true q134
                      have p135 : 0 ≤ (x10_1 : Int) := of_decide_eq_true (by first | (with_reducible assumption) | assumption)
                      have q135 : x10_1 < (t131.length : Int) := of_decide_eq_true (by first | (with_reducible assumption) | assumption)
                      obtain ⟨ad135, e135, hx135_0, hx135_1⟩ := at_T24 (Kd.R_reads' HO_8.out).2.2 x10_1 p135 q135
                      obtain rfl : ad134 = ad135 := (by injection e135)
                      replace p135 := eq_true p135
                      replace q135 := eq_true q135
                      have p141 : 0 ≤ (x10_1 : Int) := of_decide_eq_true (by first | (with_reducible assumption) | assumption)
                      have q141 : x10_1 < (t131.length : Int) := of_decide_eq_true (by first | (with_reducible assumption) | assumption)
                      obtain ⟨ad141, e141, hx141_0, hx141_1⟩ := at_T24 (Kd.R_reads' HO_8.out).2.2 x10_1 p141 q141
                      obtain rfl : ad134 = ad141 := (by injection e141)
                      replace p141 := eq_true p141
                      replace q141 := eq_true q141
                      have p142 : 0 ≤ (x10_1 : Int) := of_decide_eq_true (by first | (with_reducible assumption) | assumption)
                      have q142 : x10_1 < (t131.length : Int) := of_decide_eq_true (by first | (with_reducible assumption) | assumption)
                      obtain ⟨ad142, e142, hx142_0, hx142_1⟩ := at_T24 (Kd.R_reads' HO_8.out).2.2 x10_1 p142 q142
                      obtain rfl : ad134 = ad142 := (by injection e142)
                      replace p142 := eq_true p142
                      replace q142 := eq_true q142
                      have p144 : 0 ≤ (x10_1 : Int) := of_decide_eq_true (by first | (with_reducible assumption) | assumption)
                      have q144 : x10_1 < (t131.length : Int) := of_decide_eq_true (by first | (with_reducible assumption) | assumption)
                      obtain ⟨ad144, e144, hx144_0, hx144_1⟩ := at_T24 (Kd.R_reads' HO_8.out).2.2 x10_1 p144 q144
                      obtain rfl : ad134 = ad144 := (by injection e144)
                      replace p144 := eq_true p144
                      replace q144 := eq_true q144
                      go_wp2
                      go_roundg k1
                      case measure => have := HK1.out; omega
                      case rel => exact ⟨((rd_T24 t131 x10_1).f1), (wrap64 (x10_1 + 1)), (by first | rfl | (simp; done) | (simp [*]; done)), (by first | rfl | (simp; done) | (simp [*]; done)), H', ⟨by have := HK1.out; omega⟩, ⟨by (with_reducible repeat (first | apply Kd.R_alloc | apply Kd.R_drewN | apply Kd.R_drew)); exact HO_8.out⟩, ⟨by repeat (first | (with_reducible first | exact HB.out | apply below_alloc | apply pw_below_drewN | apply below_drew1) | exact HB.out)⟩⟩
            · rw [if_neg c11] at H
              have c11b0 : (((rd_T24 t131 x10_1).f0) == x9_1) = false := beq_eq_false_iff_ne.mpr c11
              have c11b1 : (((rd_T24 t131 x10_1).f0) != x9_1) = true := bne_iff_ne.mpr c11
              obtain rfl := Option.some.inj H
              obtain ⟨Ao31, co31, eo31⟩ := Kd.R_slice HO_8.out
              subst eo31
              have p134 : 0 ≤ (x10_1 : Int) := of_decide_eq_true (by first | (with_reducible assumption) | assumption)
              have q134 : x10_1 < (t131.length : Int) := of_decide_eq_true (by first | (with_reducible assumption) | assumption)
              obtain ⟨ad134, e134, hx134_0, hx134_1⟩ := at_T24 (Kd.R_reads' HO_8.out).2.2 x10_1 p134 q134
              cases e134
              replace p134 := eq_true p134
              replace q134 := eq_true q134
              go_wp2
              go_ret
              exact ⟨by first | rfl | (simp [errW_none, errW_some] <;> rfl) | (simp only [← hji5]; first | rfl | (simp [errW_none, errW_some] <;> rfl)) | (simp [*, errW_none, errW_some] <;> rfl), by repeat (first | (with_reducible first | exact HB.out | apply below_alloc | apply pw_below_drewN | apply below_drew1) | exact HB.out)⟩
          · rw [if_neg c10] at H
            exact absurd H (by simp)
        · rw [if_neg c9] at H
          have c9b0 : decide (x10_1 < (t131.length : Int)) = false := decide_eq_false c9
          clear c9
          by_cases c32 : x9_1 = (wrap64 (a0))
          · rw [if_pos c32] at H
            have c32b0 : (x9_1 == (wrap64 (a0))) = true := beq_iff_eq.mpr c32
            have c32b1 : (x9_1 != (wrap64 (a0))) = false := bne_eq_false_iff_eq.mpr c32
            clear c32
            obtain rfl := Option.some.inj H
            obtain ⟨Ao33, co33, eo33⟩ := Kd.R_slice HO_8.out
            subst eo33
            go_wp2
            go_ret
            exact ⟨by first | rfl | (simp [errW_none, errW_some] <;> rfl) | (simp only [← hji5]; first | rfl | (simp [errW_none, errW_some] <;> rfl)) | (simp [*, errW_none, errW_some] <;> rfl), by repeat (first | (with_reducible first | exact HB.out | apply below_alloc | apply pw_below_drewN | apply below_drew1) | exact HB.out)⟩
          · rw [if_neg c32] at H
            have c32b0 : (x9_1 == (wrap64 (a0))) = false := beq_eq_false_iff_ne.mpr c32
            have c32b1 : (x9_1 != (wrap64 (a0))) = true := bne_iff_ne.mpr c32
            obtain rfl := Option.some.inj H
            obtain ⟨Ao34, co34, eo34⟩ := Kd.R_slice HO_8.out
            subst eo34
            go_wp2
            go_ret
            exact ⟨by first | rfl | (simp [errW_none, errW_some] <;> rfl) | (simp only [← hji5]; first | rfl | (simp [errW_none, errW_some] <;> rfl)) | (simp [*, errW_none, errW_some] <;> rfl), by repeat (first | (with_reducible first | exact HB.out | apply below_alloc | apply pw_below_drewN | apply below_drew1) | exact HB.out)⟩
  · replace c4 := Bool.eq_false_iff.mpr c4
    subst c4
    have H1 : (some false) = some r := by rw [if_neg (show ¬ (false = true) by decide)] at H; exact H
    clear H
    have H := H1
    clear H1
    obtain rfl := Option.some.inj H
    go_enter Try.func5, Try.ntmps5
    go_wp2_with (first | ((with_reducible refine gate_callee (f := 8) rfl ?_); refine goesL_ (some 11) rfl rfl Try.func8 (by kernel_rfl) rfl #[] rfl (by (try simp only [List.map_toArray, List.map_cons, List.map_nil]); first | done | rfl | (simp only [List.length_drop, List.length_take]; rfl)) ?_; (with_reducible refine (dustmanlaw10_awake.calls  false _ A3.out).mono ?_); rintro e w35 ⟨rfl, hb⟩; refine ⟨_, rfl, ?_⟩; have n0_ := Aside0.mk (below_step (by repeat (first | (with_reducible first | exact HB.out | apply below_alloc | apply pw_below_drewN | apply below_drew1) | exact HB.out)) hb); clear HB; have HB := n0_; clear n0_; (try clear hb); (try clear hb2); (try clear hk); (try clear hi)))
    go_ret
    exact ⟨by first | rfl | (simp [errW_none, errW_some] <;> rfl) | (simp [*, errW_none, errW_some] <;> rfl), by repeat (first | (with_reducible first | exact HB.out | apply below_alloc | apply pw_below_drewN | apply below_drew1) | exact HB.out)⟩

/-- THE ONE PURE STATEMENT of dustmanlaw10_RangesAll: yours. -/
def dustmanlaw10_RangesAll.Pure : Prop := ∀ (a0 : Int) (a1 : Int), (Lit.int .u8 a0).wf = true → (Lit.int .u8 a1).wf = true → ∃ k, dustmanlaw10_RangesAll.f k a0 a1 = some true
theorem dustmanlaw10_RangesAll.walk (P : dustmanlaw10_RangesAll.Pure) (a0 : Int) (a1 : Int) (w : World) (w0 : (Lit.int .u8 a0).wf = true) (w1 : (Lit.int .u8 a1).wf = true) :
    Calls Try.prog 5 #[.int .u8 a0, .int .u8 a1] w fun e w' => e = .returned (.bool true) ∧ Below w.heap.size w w' := by
  obtain ⟨k, h⟩ := P a0 a1 w0 w1
  refine (dustmanlaw10_RangesAll.calls k a0 a1 true w h).mono ?_
  rintro e w' ⟨rfl, hd⟩
  exact ⟨rfl, hd⟩

/-! ### dustmanlaw10_RangesOnce: function 6 -/
def dustmanlaw10_RangesOnce.l0 : Nat → Int → Int → Int → List (S24) → Int → Int → Option (Bool)
  | 0, _, _, _, _, _, _ => none
  | k + 1, x2, x8, x9, x10, x11, x12 => if x12 < (x10.length : Int) then (if 0 ≤ x12 then (if ((rd_T24 x10 x12).f0) ≤ (wrap64 (x2)) then (if (wrap64 (x2)) < ((rd_T24 x10 x12).f1) then (dustmanlaw10_RangesOnce.l0 k x2 x8 x9 x10 (wrap64 (x11 + 1)) (wrap64 (x12 + 1))) else (dustmanlaw10_RangesOnce.l0 k x2 x8 x9 x10 x11 (wrap64 (x12 + 1)))) else (dustmanlaw10_RangesOnce.l0 k x2 x8 x9 x10 x11 (wrap64 (x12 + 1)))) else (none)) else (if x11 = 1 then (if (wrap64 (x2)) < x8 then (if (mx x9 1) = 0 then (none) else (if (x10.length : Int) ≤ (wrap64 (1 + (wrap64 (Int.tdiv (wrap64 ((wrap64 (x8 + (mx x9 1))) - 1)) (mx x9 1))))) then (some true) else (if x11 = 0 then (some (decide ((wrap64 (x2)) ≥ x8))) else (some false)))) else (if x11 = 0 then (some (decide ((wrap64 (x2)) ≥ x8))) else (some false))) else (if x11 = 0 then (some (decide ((wrap64 (x2)) ≥ x8))) else (some false)))
def dustmanlaw10_RangesOnce.f (k : Nat) (a0 : Int) (a1 : Int) (a2 : Int) : Option (Bool) := (dustmanlaw10_awake.f).bind fun t145 => (if t145 = true then ((ranges_All.f (wrap64 (a0)) (wrap64 (a1))).bind fun t146 => (dustmanlaw10_RangesOnce.l0 k a2 (wrap64 (a0)) (wrap64 (a1)) t146 0 0)) else (some false))
theorem dustmanlaw10_RangesOnce.mono_l : ∀ k, (∀ y0 y1 y2 y3 y4 y5, LeO (dustmanlaw10_RangesOnce.l0 k y0 y1 y2 y3 y4 y5) (dustmanlaw10_RangesOnce.l0 (k + 1) y0 y1 y2 y3 y4 y5))
  | 0 => fun _ _ _ _ _ _ r h => by simp [dustmanlaw10_RangesOnce.l0] at h
  | k + 1 => by
    have ih0 := dustmanlaw10_RangesOnce.mono_l k
    · intro y0 y1 y2 y3 y4 y5
      unfold dustmanlaw10_RangesOnce.l0
      repeat' first
      | (with_reducible exact ih0 _ _ _ _ _ _)
      | (with_reducible exact LeO.refl _)
      | (with_reducible exact LeO.none _)
      | (with_reducible refine LeO.ite ?_ ?_)
      | (with_reducible refine LeO.bind ?_ (fun _ => ?_))
      | exact ih0 _ _ _ _ _ _
      | exact LeO.none _
      | refine LeO.ite ?_ ?_
      | refine LeO.bind ?_ (fun _ => ?_)
theorem dustmanlaw10_RangesOnce.mono : ∀ a0 a1 a2 k, LeO (dustmanlaw10_RangesOnce.f k a0 a1 a2) (dustmanlaw10_RangesOnce.f (k + 1) a0 a1 a2) := by
  intro a0 a1 a2 k
  have ih0 := dustmanlaw10_RangesOnce.mono_l k
  unfold dustmanlaw10_RangesOnce.f
  repeat' first
      | (with_reducible exact ih0 _ _ _ _ _ _)
      | (with_reducible exact LeO.refl _)
      | (with_reducible exact LeO.none _)
      | (with_reducible refine LeO.ite ?_ ?_)
      | (with_reducible refine LeO.bind ?_ (fun _ => ?_))
      | exact ih0 _ _ _ _ _ _
      | exact LeO.none _
      | refine LeO.ite ?_ ?_
      | refine LeO.bind ?_ (fun _ => ?_)
set_option maxHeartbeats 8000000 in
set_option maxRecDepth 100000 in
theorem dustmanlaw10_RangesOnce.calls (k : Nat) (a0 : Int) (a1 : Int) (a2 : Int) (r : Bool) (w : World) (h : dustmanlaw10_RangesOnce.f k a0 a1 a2 = some r) :
    Calls Try.prog 6 #[.int .u8 a0, .int .u8 a1, .int .u8 a2] w fun e w' => e = .returned (.bool r) ∧ Below w.heap.size w w' := by
  have HB := Aside0.mk (Below.refl w.heap.size w)
  have H : ((dustmanlaw10_awake.f).bind fun t145 => (if t145 = true then ((ranges_All.f (wrap64 (a0)) (wrap64 (a1))).bind fun t146 => (dustmanlaw10_RangesOnce.l0 k a2 (wrap64 (a0)) (wrap64 (a1)) t146 0 0)) else (some false))) = some r := h
  clear h
  replace H := Option.bind_eq_some_iff.mp H
  obtain ⟨t145, A40, H⟩ := H
  replace H : (if t145 = true then ((ranges_All.f (wrap64 (a0)) (wrap64 (a1))).bind fun t146 => (dustmanlaw10_RangesOnce.l0 k a2 (wrap64 (a0)) (wrap64 (a1)) t146 0 0)) else (some false)) = some r := H
  have A4 := Aside0.mk A40
  clear A40
  by_cases c5 : t145 = true
  · subst c5
    have H1 : ((ranges_All.f (wrap64 (a0)) (wrap64 (a1))).bind fun t146 => (dustmanlaw10_RangesOnce.l0 k a2 (wrap64 (a0)) (wrap64 (a1)) t146 0 0)) = some r := by rw [if_pos rfl] at H; exact H
    clear H
    have H := H1
    clear H1
    replace H := Option.bind_eq_some_iff.mp H
    obtain ⟨t146, A60, H⟩ := H
    replace H : (dustmanlaw10_RangesOnce.l0 k a2 (wrap64 (a0)) (wrap64 (a1)) t146 0 0) = some r := H
    have A6 := Aside0.mk A60
    clear A60
    have H' := Aside0.mk H
    clear H
    go_enter Try.func6, Try.ntmps6
    go_wp2_with (first | ((with_reducible refine gate_callee (f := 8) rfl ?_); refine goesL_ (some 14) rfl rfl Try.func8 (by kernel_rfl) rfl #[] rfl (by (try simp only [List.map_toArray, List.map_cons, List.map_nil]); first | done | rfl | (simp only [List.length_drop, List.length_take]; rfl)) ?_; (with_reducible refine (dustmanlaw10_awake.calls  true _ A4.out).mono ?_); rintro e w7 ⟨rfl, hb⟩; refine ⟨_, rfl, ?_⟩; have n0_ := Aside0.mk (below_step (by repeat (first | (with_reducible first | exact HB.out | apply below_alloc | apply pw_below_drewN | apply below_drew1) | exact HB.out)) hb); clear HB; have HB := n0_; clear n0_; (try clear hb); (try clear hb2); (try clear hk); (try clear hi)) | ((with_reducible refine gate_callee (f := 13) rfl ?_); refine goesL_ (some 23) rfl rfl Try.func13 (by kernel_rfl) rfl #[.int .i64 (wrap64 (a0)), .int .i64 (wrap64 (a1))] rfl (by (try simp only [List.map_toArray, List.map_cons, List.map_nil]); first | done | rfl | (simp only [List.length_drop, List.length_take]; rfl)) ?_; (with_reducible refine (ranges_All.calls (wrap64 (a0)) (wrap64 (a1)) t146 _ A6.out).mono ?_); rintro e w8 ⟨v147, rfl, ho0, hb⟩; refine ⟨_, rfl, ?_⟩; have n0_ := Aside0.mk (Kd.R_lower ho0 (below_size (by repeat (first | (with_reducible first | exact HB.out | apply below_alloc | apply pw_below_drewN | apply below_drew1) | exact HB.out)))); have n1_ := Aside0.mk (below_step (by repeat (first | (with_reducible first | exact HB.out | apply below_alloc | apply pw_below_drewN | apply below_drew1) | exact HB.out)) hb); clear HB; have HO148 := n0_; have HB := n1_; clear n0_ n1_; (try clear hb); (try clear hb2); (try clear hk); (try clear hi); (try clear ho0)))
    go_loopg [11, 12] k (fun kq v11 v12 w' => ∃ (x11_1 : Int) (x12_1 : Int), v11 = .int .i64 x11_1 ∧ v12 = .int .i64 x12_1 ∧ Aside0 (dustmanlaw10_RangesOnce.l0 kq a2 (wrap64 (a0)) (wrap64 (a1)) t146 x11_1 x12_1 = some r) ∧ Aside0 (kq ≤ k) ∧ Aside0 (Kd.R k24 24 w' w.heap.size (fun _ => True) v147 t146) ∧ Aside0 (Below w.heap.size w w'))
    case atStart => exact ⟨(0), (0), (by first | rfl | (simp; done) | (simp [*]; done)), (by first | rfl | (simp; done) | (simp [*]; done)), H', ⟨Nat.le_refl _⟩, ⟨by (with_reducible repeat (first | apply Kd.R_alloc | apply Kd.R_drewN | apply Kd.R_drew)); exact HO148.out⟩, ⟨by repeat (first | (with_reducible first | exact HB.out | apply below_alloc | apply pw_below_drewN | apply below_drew1) | exact HB.out)⟩⟩
    case round =>
      clear H'
      try clear c1
      try clear p2
      try clear c5
      try clear c6
      try clear p6
      try clear c8
      obtain ⟨x11_1, x12_1, rfl, rfl, HA, HK1, HO_10, HB⟩ := hrel
      cases gk with
      | zero => exact absurd HA.out (by simp [dustmanlaw10_RangesOnce.l0])
      | succ k1 =>
        have H := HA.out
        clear HA
        simp only [dustmanlaw10_RangesOnce.l0] at H
        by_cases c9 : x12_1 < (t146.length : Int)
        · rw [if_pos c9] at H
          have c9b0 : decide (x12_1 < (t146.length : Int)) = true := decide_eq_true c9
          clear c9
          by_cases c10 : 0 ≤ x12_1
          · rw [if_pos c10] at H
            have c10b0 : decide (0 ≤ x12_1) = true := decide_eq_true c10
            clear c10
            by_cases c11 : ((rd_T24 t146 x12_1).f0) ≤ (wrap64 (a2))
            · rw [if_pos c11] at H
              have c11b0 : decide (((rd_T24 t146 x12_1).f0) ≤ (wrap64 (a2))) = true := decide_eq_true c11
              clear c11
              by_cases c12 : (wrap64 (a2)) < ((rd_T24 t146 x12_1).f1)
              · rw [if_pos c12] at H
                have c12b0 : decide ((wrap64 (a2)) < ((rd_T24 t146 x12_1).f1)) = true := decide_eq_true c12
                clear c12
                have H' := Aside0.mk H
                clear H
                obtain ⟨Ao13, co13, eo13⟩ := Kd.R_slice HO_10.out
                subst eo13
                have p149 : 0 ≤ (x12_1 : Int) := of_decide_eq_true (by first | (with_reducible assumption) | assumption)
                have q149 : x12_1 < (t146.length : Int) := of_decide_eq_true (by first | (with_reducible assumption) | assumption)
                obtain ⟨ad149, e149, hx149_0, hx149_1⟩ := at_T24 (Kd.R_reads' HO_10.out).2.2 x12_1 p149 q149
                cases e149
                replace p149 := eq_true p149
                replace q149 := eq_true q149
                have p150 : 0 ≤ (x12_1 : Int) := of_decide_eq_true (by first | (with_reducible assumption) | assumption)
                have q150 : x12_1 < (t146.length : Int) := of_decide_eq_true (by first | (with_reducible assumption) | assumption)
                obtain ⟨ad150, e150, hx150_0, hx150_1⟩ := at_T24 (Kd.R_reads' HO_10.out).2.2 x12_1 p150 q150
                obtain rfl : ad149 = ad150 := (by injection e150)
                replace p150 := eq_true p150
                replace q150 := eq_true q150
                go_wp2
                go_roundg k1
                case measure => have := HK1.out; omega
                case rel => exact ⟨(wrap64 (x11_1 + 1)), (wrap64 (x12_1 + 1)), (by first | rfl | (simp; done) | (simp [*]; done)), (by first | rfl | (simp; done) | (simp [*]; done)), H', ⟨by have := HK1.out; omega⟩, ⟨by (with_reducible repeat (first | apply Kd.R_alloc | apply Kd.R_drewN | apply Kd.R_drew)); exact HO_10.out⟩, ⟨by repeat (first | (with_reducible first | exact HB.out | apply below_alloc | apply pw_below_drewN | apply below_drew1) | exact HB.out)⟩⟩
              · rw [if_neg c12] at H
                have c12b0 : decide ((wrap64 (a2)) < ((rd_T24 t146 x12_1).f1)) = false := decide_eq_false c12
                clear c12
                have H' := Aside0.mk H
                clear H
                obtain ⟨Ao14, co14, eo14⟩ := Kd.R_slice HO_10.out
                subst eo14
                have p149 : 0 ≤ (x12_1 : Int) := of_decide_eq_true (by first | (with_reducible assumption) | assumption)
                have q149 : x12_1 < (t146.length : Int) := of_decide_eq_true (by first | (with_reducible assumption) | assumption)
                obtain ⟨ad149, e149, hx149_0, hx149_1⟩ := at_T24 (Kd.R_reads' HO_10.out).2.2 x12_1 p149 q149
                cases e149
                replace p149 := eq_true p149
                replace q149 := eq_true q149
                have p150 : 0 ≤ (x12_1 : Int) := of_decide_eq_true (by first | (with_reducible assumption) | assumption)
                have q150 : x12_1 < (t146.length : Int) := of_decide_eq_true (by first | (with_reducible assumption) | assumption)
                obtain ⟨ad150, e150, hx150_0, hx150_1⟩ := at_T24 (Kd.R_reads' HO_10.out).2.2 x12_1 p150 q150
                obtain rfl : ad149 = ad150 := (by injection e150)
                replace p150 := eq_true p150
                replace q150 := eq_true q150
                go_wp2
                go_roundg k1
                case measure => have := HK1.out; omega
                case rel => exact ⟨(x11_1), (wrap64 (x12_1 + 1)), (by first | rfl | (simp; done) | (simp [*]; done)), (by first | rfl | (simp; done) | (simp [*]; done)), H', ⟨by have := HK1.out; omega⟩, ⟨by (with_reducible repeat (first | apply Kd.R_alloc | apply Kd.R_drewN | apply Kd.R_drew)); exact HO_10.out⟩, ⟨by repeat (first | (with_reducible first | exact HB.out | apply below_alloc | apply pw_below_drewN | apply below_drew1) | exact HB.out)⟩⟩
            · rw [if_neg c11] at H
              have c11b0 : decide (((rd_T24 t146 x12_1).f0) ≤ (wrap64 (a2))) = false := decide_eq_false c11
              clear c11
              have H' := Aside0.mk H
              clear H
              obtain ⟨Ao15, co15, eo15⟩ := Kd.R_slice HO_10.out
              subst eo15
              have p149 : 0 ≤ (x12_1 : Int) := of_decide_eq_true (by first | (with_reducible assumption) | assumption)
              have q149 : x12_1 < (t146.length : Int) := of_decide_eq_true (by first | (with_reducible assumption) | assumption)
              obtain ⟨ad149, e149, hx149_0, hx149_1⟩ := at_T24 (Kd.R_reads' HO_10.out).2.2 x12_1 p149 q149
              cases e149
              replace p149 := eq_true p149
              replace q149 := eq_true q149
              go_wp2
              go_roundg k1
              case measure => have := HK1.out; omega
              case rel => exact ⟨(x11_1), (wrap64 (x12_1 + 1)), (by first | rfl | (simp; done) | (simp [*]; done)), (by first | rfl | (simp; done) | (simp [*]; done)), H', ⟨by have := HK1.out; omega⟩, ⟨by (with_reducible repeat (first | apply Kd.R_alloc | apply Kd.R_drewN | apply Kd.R_drew)); exact HO_10.out⟩, ⟨by repeat (first | (with_reducible first | exact HB.out | apply below_alloc | apply pw_below_drewN | apply below_drew1) | exact HB.out)⟩⟩
          · rw [if_neg c10] at H
            exact absurd H (by simp)
        · rw [if_neg c9] at H
          have c9b0 : decide (x12_1 < (t146.length : Int)) = false := decide_eq_false c9
          clear c9
          obtain ⟨ji16, hji16⟩ : ∃ j_ : Int, (mx (wrap64 (a1)) 1) = j_ := ⟨_, rfl⟩
          replace H : (if x11_1 = 1 then (if (wrap64 (a2)) < (wrap64 (a0)) then (if (ji16) = 0 then (none) else (if (t146.length : Int) ≤ (wrap64 (1 + (wrap64 (Int.tdiv (wrap64 ((wrap64 ((wrap64 (a0)) + (ji16))) - 1)) (ji16))))) then (some true) else (if x11_1 = 0 then (some (decide ((wrap64 (a2)) ≥ (wrap64 (a0))))) else (some false)))) else (if x11_1 = 0 then (some (decide ((wrap64 (a2)) ≥ (wrap64 (a0))))) else (some false))) else (if x11_1 = 0 then (some (decide ((wrap64 (a2)) ≥ (wrap64 (a0))))) else (some false))) = some r := by first | (rw [hji16] at H; exact H) | (simp only [hji16] at H ⊢; exact H)
          (try (have hji16l : 1 ≤ ji16 := by (rw [← hji16]; unfold mx; (repeat' split) <;> omega)))
          (try (have hji16m : 0 ≤ ji16 := by omega))
          have hji16_ : (if (wrap64 (a1)) < 1 then 1 else (wrap64 (a1))) = ji16 := hji16
          by_cases c17 : x11_1 = 1
          · rw [if_pos c17] at H
            have c17b0 : (x11_1 == 1) = true := beq_iff_eq.mpr c17
            have c17b1 : (x11_1 != 1) = false := bne_eq_false_iff_eq.mpr c17
            clear c17
            by_cases c18 : (wrap64 (a2)) < (wrap64 (a0))
            · rw [if_pos c18] at H
              have c18b0 : decide ((wrap64 (a2)) < (wrap64 (a0))) = true := decide_eq_true c18
              clear c18
              by_cases c19 : (ji16) = 0
              · rw [if_pos c19] at H
                exact absurd H (by simp)
              · rw [if_neg c19] at H
                have c19b0 : ((ji16) == 0) = false := beq_eq_false_iff_ne.mpr c19
                have c19b1 : ((ji16) != 0) = true := bne_iff_ne.mpr c19
                by_cases c20 : (t146.length : Int) ≤ (wrap64 (1 + (wrap64 (Int.tdiv (wrap64 ((wrap64 ((wrap64 (a0)) + (ji16))) - 1)) (ji16)))))
                · rw [if_pos c20] at H
                  have c20b0 : decide ((t146.length : Int) ≤ (wrap64 (1 + (wrap64 (Int.tdiv (wrap64 ((wrap64 ((wrap64 (a0)) + (ji16))) - 1)) (ji16)))))) = true := decide_eq_true c20
                  clear c20
                  obtain rfl := Option.some.inj H
                  obtain ⟨Ao21, co21, eo21⟩ := Kd.R_slice HO_10.out
                  subst eo21
                  go_wp2
                  go_ret
                  exact ⟨by first | rfl | (simp [errW_none, errW_some] <;> rfl) | (simp only [← hji16]; first | rfl | (simp [errW_none, errW_some] <;> rfl)) | (simp [*, errW_none, errW_some] <;> rfl), by repeat (first | (with_reducible first | exact HB.out | apply below_alloc | apply pw_below_drewN | apply below_drew1) | exact HB.out)⟩
                · rw [if_neg c20] at H
                  have c20b0 : decide ((t146.length : Int) ≤ (wrap64 (1 + (wrap64 (Int.tdiv (wrap64 ((wrap64 ((wrap64 (a0)) + (ji16))) - 1)) (ji16)))))) = false := decide_eq_false c20
                  clear c20
                  by_cases c22 : x11_1 = 0
                  · rw [if_pos c22] at H
                    have c22b0 : (x11_1 == 0) = true := beq_iff_eq.mpr c22
                    have c22b1 : (x11_1 != 0) = false := bne_eq_false_iff_eq.mpr c22
                    clear c22
                    obtain rfl := Option.some.inj H
                    obtain ⟨Ao23, co23, eo23⟩ := Kd.R_slice HO_10.out
                    subst eo23
                    go_wp2
                    go_ret
                    exact ⟨by first | rfl | (simp [errW_none, errW_some] <;> rfl) | (simp only [← hji16]; first | rfl | (simp [errW_none, errW_some] <;> rfl)) | (simp [*, errW_none, errW_some] <;> rfl), by repeat (first | (with_reducible first | exact HB.out | apply below_alloc | apply pw_below_drewN | apply below_drew1) | exact HB.out)⟩
                  · rw [if_neg c22] at H
                    have c22b0 : (x11_1 == 0) = false := beq_eq_false_iff_ne.mpr c22
                    have c22b1 : (x11_1 != 0) = true := bne_iff_ne.mpr c22
                    obtain rfl := Option.some.inj H
                    obtain ⟨Ao24, co24, eo24⟩ := Kd.R_slice HO_10.out
                    subst eo24
                    go_wp2
                    go_ret
                    exact ⟨by first | rfl | (simp [errW_none, errW_some] <;> rfl) | (simp only [← hji16]; first | rfl | (simp [errW_none, errW_some] <;> rfl)) | (simp [*, errW_none, errW_some] <;> rfl), by repeat (first | (with_reducible first | exact HB.out | apply below_alloc | apply pw_below_drewN | apply below_drew1) | exact HB.out)⟩
            · rw [if_neg c18] at H
              have c18b0 : decide ((wrap64 (a2)) < (wrap64 (a0))) = false := decide_eq_false c18
              clear c18
              by_cases c25 : x11_1 = 0
              · rw [if_pos c25] at H
                have c25b0 : (x11_1 == 0) = true := beq_iff_eq.mpr c25
                have c25b1 : (x11_1 != 0) = false := bne_eq_false_iff_eq.mpr c25
                clear c25
                obtain rfl := Option.some.inj H
                obtain ⟨Ao26, co26, eo26⟩ := Kd.R_slice HO_10.out
                subst eo26
                go_wp2
                go_ret
                exact ⟨by first | rfl | (simp [errW_none, errW_some] <;> rfl) | (simp only [← hji16]; first | rfl | (simp [errW_none, errW_some] <;> rfl)) | (simp [*, errW_none, errW_some] <;> rfl), by repeat (first | (with_reducible first | exact HB.out | apply below_alloc | apply pw_below_drewN | apply below_drew1) | exact HB.out)⟩
              · rw [if_neg c25] at H
                have c25b0 : (x11_1 == 0) = false := beq_eq_false_iff_ne.mpr c25
                have c25b1 : (x11_1 != 0) = true := bne_iff_ne.mpr c25
                obtain rfl := Option.some.inj H
                obtain ⟨Ao27, co27, eo27⟩ := Kd.R_slice HO_10.out
                subst eo27
                go_wp2
                go_ret
                exact ⟨by first | rfl | (simp [errW_none, errW_some] <;> rfl) | (simp only [← hji16]; first | rfl | (simp [errW_none, errW_some] <;> rfl)) | (simp [*, errW_none, errW_some] <;> rfl), by repeat (first | (with_reducible first | exact HB.out | apply below_alloc | apply pw_below_drewN | apply below_drew1) | exact HB.out)⟩
          · rw [if_neg c17] at H
            have c17b0 : (x11_1 == 1) = false := beq_eq_false_iff_ne.mpr c17
            have c17b1 : (x11_1 != 1) = true := bne_iff_ne.mpr c17
            by_cases c28 : x11_1 = 0
            · rw [if_pos c28] at H
              have c28b0 : (x11_1 == 0) = true := beq_iff_eq.mpr c28
              have c28b1 : (x11_1 != 0) = false := bne_eq_false_iff_eq.mpr c28
              clear c28
              obtain rfl := Option.some.inj H
              obtain ⟨Ao29, co29, eo29⟩ := Kd.R_slice HO_10.out
              subst eo29
              go_wp2
              go_ret
              exact ⟨by first | rfl | (simp [errW_none, errW_some] <;> rfl) | (simp only [← hji16]; first | rfl | (simp [errW_none, errW_some] <;> rfl)) | (simp [*, errW_none, errW_some] <;> rfl), by repeat (first | (with_reducible first | exact HB.out | apply below_alloc | apply pw_below_drewN | apply below_drew1) | exact HB.out)⟩
            · rw [if_neg c28] at H
              have c28b0 : (x11_1 == 0) = false := beq_eq_false_iff_ne.mpr c28
              have c28b1 : (x11_1 != 0) = true := bne_iff_ne.mpr c28
              obtain rfl := Option.some.inj H
              obtain ⟨Ao30, co30, eo30⟩ := Kd.R_slice HO_10.out
              subst eo30
              go_wp2
              go_ret
              exact ⟨by first | rfl | (simp [errW_none, errW_some] <;> rfl) | (simp only [← hji16]; first | rfl | (simp [errW_none, errW_some] <;> rfl)) | (simp [*, errW_none, errW_some] <;> rfl), by repeat (first | (with_reducible first | exact HB.out | apply below_alloc | apply pw_below_drewN | apply below_drew1) | exact HB.out)⟩
  · replace c5 := Bool.eq_false_iff.mpr c5
    subst c5
    have H1 : (some false) = some r := by rw [if_neg (show ¬ (false = true) by decide)] at H; exact H
    clear H
    have H := H1
    clear H1
    obtain rfl := Option.some.inj H
    go_enter Try.func6, Try.ntmps6
    go_wp2_with (first | ((with_reducible refine gate_callee (f := 8) rfl ?_); refine goesL_ (some 14) rfl rfl Try.func8 (by kernel_rfl) rfl #[] rfl (by (try simp only [List.map_toArray, List.map_cons, List.map_nil]); first | done | rfl | (simp only [List.length_drop, List.length_take]; rfl)) ?_; (with_reducible refine (dustmanlaw10_awake.calls  false _ A4.out).mono ?_); rintro e w31 ⟨rfl, hb⟩; refine ⟨_, rfl, ?_⟩; have n0_ := Aside0.mk (below_step (by repeat (first | (with_reducible first | exact HB.out | apply below_alloc | apply pw_below_drewN | apply below_drew1) | exact HB.out)) hb); clear HB; have HB := n0_; clear n0_; (try clear hb); (try clear hb2); (try clear hk); (try clear hi)))
    go_ret
    exact ⟨by first | rfl | (simp [errW_none, errW_some] <;> rfl) | (simp [*, errW_none, errW_some] <;> rfl), by repeat (first | (with_reducible first | exact HB.out | apply below_alloc | apply pw_below_drewN | apply below_drew1) | exact HB.out)⟩

/-- THE ONE PURE STATEMENT of dustmanlaw10_RangesOnce: yours. -/
def dustmanlaw10_RangesOnce.Pure : Prop := ∀ (a0 : Int) (a1 : Int) (a2 : Int), (Lit.int .u8 a0).wf = true → (Lit.int .u8 a1).wf = true → (Lit.int .u8 a2).wf = true → ∃ k, dustmanlaw10_RangesOnce.f k a0 a1 a2 = some true
theorem dustmanlaw10_RangesOnce.walk (P : dustmanlaw10_RangesOnce.Pure) (a0 : Int) (a1 : Int) (a2 : Int) (w : World) (w0 : (Lit.int .u8 a0).wf = true) (w1 : (Lit.int .u8 a1).wf = true) (w2 : (Lit.int .u8 a2).wf = true) :
    Calls Try.prog 6 #[.int .u8 a0, .int .u8 a1, .int .u8 a2] w fun e w' => e = .returned (.bool true) ∧ Below w.heap.size w w' := by
  obtain ⟨k, h⟩ := P a0 a1 a2 w0 w1 w2
  refine (dustmanlaw10_RangesOnce.calls k a0 a1 a2 true w h).mono ?_
  rintro e w' ⟨rfl, hd⟩
  exact ⟨rfl, hd⟩

end Go.Proofs.Ytmdgahnfekkdbaa.P
