/- Contracts of the Go functions that this claim's law reaches (plain Lean functions with the same answers), written by a program of this session over the kit's print; Lean checks all of it. -/
import Derived.Test.YtmdgahnfekkdbaaPx0
import Derived.Test.YtmdgahnfekkdbaaPx3
import Derived.Test.YtmdgahnfekkdbaaPx5
import Derived.Test.YtmdgahnfekkdbaaPx6
namespace Go.Proofs.Ytmdgahnfekkdbaa.P
open Go.RowKit Go.Proofs.YtmdgahnfekkdbaaW.PrintWords Go.Proofs.YtmdgahnfekkdbaaW.PrintLast Go.Proofs.YtmdgahnfekkdbaaW.PrintMore
attribute [local go_sem] max2_int min2_int max_two min_two max_three min_three max_four min_four   -- for this text's walks alone
set_option linter.unusedVariables false
set_option linter.unusedSimpArgs false

/-! ### dustmanlaw10_RangesJoin: function 7 -/
def dustmanlaw10_RangesJoin.f (k : Nat) (a0 : Int) (a1 : Int) (a2 : Int) (a3 : Int) : Option (Bool) := (dustmanlaw10_awake.f).bind fun t151 => (if t151 = true then ((ranges_Count.f (wrap64 (a0)) 1).bind fun t152 => (if t152 = (mx (wrap64 (a0)) 1) then ((ranges_Count.f (wrap64 (a0)) (wrap64 (mx a2 a3))).bind fun t153 => ((ranges_Count.f (wrap64 (a0)) (wrap64 (mn a2 a3))).bind fun t154 => (if t153 ≤ t154 then ((ranges_Count.f (wrap64 ((wrap64 (a0)) + (wrap64 (a1)))) (wrap64 (mn a2 a3))).bind fun t155 => ((ranges_Count.f (wrap64 (a0)) (wrap64 (mn a2 a3))).bind fun t156 => (if t155 ≥ t156 then ((ranges_Most.f k (([wrap64 (a0), wrap64 ((wrap64 (a0)) + (wrap64 (a1)))] : List Int)) (wrap64 (mn a2 a3))).bind fun t160 => ((ranges_Count.f (wrap64 (a0)) (wrap64 (mn a2 a3))).bind fun t161 => ((ranges_Count.f (wrap64 ((wrap64 (a0)) + (wrap64 (a1)))) (wrap64 (mn a2 a3))).bind fun t162 => (some (t160 == (wrap64 (t161 + t162))))))) else (some false)))) else (some false)))) else (some false))) else (some false))
theorem dustmanlaw10_RangesJoin.mono : ∀ a0 a1 a2 a3 k, LeO (dustmanlaw10_RangesJoin.f k a0 a1 a2 a3) (dustmanlaw10_RangesJoin.f (k + 1) a0 a1 a2 a3) := by
  intro a0 a1 a2 a3 k
  unfold dustmanlaw10_RangesJoin.f
  repeat' first
      | (with_reducible exact ranges_Most.mono _ _ _)
      | (with_reducible exact LeO.refl _)
      | (with_reducible exact LeO.none _)
      | (with_reducible refine LeO.ite ?_ ?_)
      | (with_reducible refine LeO.bind ?_ (fun _ => ?_))
      | exact ranges_Most.mono _ _ _
      | exact LeO.none _
      | refine LeO.ite ?_ ?_
      | refine LeO.bind ?_ (fun _ => ?_)
set_option maxHeartbeats 8000000 in
set_option maxRecDepth 100000 in
theorem dustmanlaw10_RangesJoin.calls (k : Nat) (a0 : Int) (a1 : Int) (a2 : Int) (a3 : Int) (r : Bool) (w : World) (h : dustmanlaw10_RangesJoin.f k a0 a1 a2 a3 = some r) :
    Calls Try.prog 7 #[.int .u8 a0, .int .u8 a1, .int .u8 a2, .int .u8 a3] w fun e w' => e = .returned (.bool r) ∧ Below w.heap.size w w' := by
  have HB := Aside0.mk (Below.refl w.heap.size w)
  have H : ((dustmanlaw10_awake.f).bind fun t151 => (if t151 = true then ((ranges_Count.f (wrap64 (a0)) 1).bind fun t152 => (if t152 = (mx (wrap64 (a0)) 1) then ((ranges_Count.f (wrap64 (a0)) (wrap64 (mx a2 a3))).bind fun t153 => ((ranges_Count.f (wrap64 (a0)) (wrap64 (mn a2 a3))).bind fun t154 => (if t153 ≤ t154 then ((ranges_Count.f (wrap64 ((wrap64 (a0)) + (wrap64 (a1)))) (wrap64 (mn a2 a3))).bind fun t155 => ((ranges_Count.f (wrap64 (a0)) (wrap64 (mn a2 a3))).bind fun t156 => (if t155 ≥ t156 then ((ranges_Most.f k (([wrap64 (a0), wrap64 ((wrap64 (a0)) + (wrap64 (a1)))] : List Int)) (wrap64 (mn a2 a3))).bind fun t160 => ((ranges_Count.f (wrap64 (a0)) (wrap64 (mn a2 a3))).bind fun t161 => ((ranges_Count.f (wrap64 ((wrap64 (a0)) + (wrap64 (a1)))) (wrap64 (mn a2 a3))).bind fun t162 => (some (t160 == (wrap64 (t161 + t162))))))) else (some false)))) else (some false)))) else (some false))) else (some false))) = some r := h
  clear h
  replace H := Option.bind_eq_some_iff.mp H
  obtain ⟨t151, A50, H⟩ := H
  replace H : (if t151 = true then ((ranges_Count.f (wrap64 (a0)) 1).bind fun t152 => (if t152 = (mx (wrap64 (a0)) 1) then ((ranges_Count.f (wrap64 (a0)) (wrap64 (mx a2 a3))).bind fun t153 => ((ranges_Count.f (wrap64 (a0)) (wrap64 (mn a2 a3))).bind fun t154 => (if t153 ≤ t154 then ((ranges_Count.f (wrap64 ((wrap64 (a0)) + (wrap64 (a1)))) (wrap64 (mn a2 a3))).bind fun t155 => ((ranges_Count.f (wrap64 (a0)) (wrap64 (mn a2 a3))).bind fun t156 => (if t155 ≥ t156 then ((ranges_Most.f k (([wrap64 (a0), wrap64 ((wrap64 (a0)) + (wrap64 (a1)))] : List Int)) (wrap64 (mn a2 a3))).bind fun t160 => ((ranges_Count.f (wrap64 (a0)) (wrap64 (mn a2 a3))).bind fun t161 => ((ranges_Count.f (wrap64 ((wrap64 (a0)) + (wrap64 (a1)))) (wrap64 (mn a2 a3))).bind fun t162 => (some (t160 == (wrap64 (t161 + t162))))))) else (some false)))) else (some false)))) else (some false))) else (some false)) = some r := H
  have A5 := Aside0.mk A50
  clear A50
  by_cases c6 : t151 = true
  · subst c6
    have H1 : ((ranges_Count.f (wrap64 (a0)) 1).bind fun t152 => (if t152 = (mx (wrap64 (a0)) 1) then ((ranges_Count.f (wrap64 (a0)) (wrap64 (mx a2 a3))).bind fun t153 => ((ranges_Count.f (wrap64 (a0)) (wrap64 (mn a2 a3))).bind fun t154 => (if t153 ≤ t154 then ((ranges_Count.f (wrap64 ((wrap64 (a0)) + (wrap64 (a1)))) (wrap64 (mn a2 a3))).bind fun t155 => ((ranges_Count.f (wrap64 (a0)) (wrap64 (mn a2 a3))).bind fun t156 => (if t155 ≥ t156 then ((ranges_Most.f k (([wrap64 (a0), wrap64 ((wrap64 (a0)) + (wrap64 (a1)))] : List Int)) (wrap64 (mn a2 a3))).bind fun t160 => ((ranges_Count.f (wrap64 (a0)) (wrap64 (mn a2 a3))).bind fun t161 => ((ranges_Count.f (wrap64 ((wrap64 (a0)) + (wrap64 (a1)))) (wrap64 (mn a2 a3))).bind fun t162 => (some (t160 == (wrap64 (t161 + t162))))))) else (some false)))) else (some false)))) else (some false))) = some r := by rw [if_pos rfl] at H; exact H
    clear H
    have H := H1
    clear H1
    obtain ⟨ji7, hji7⟩ : ∃ j_ : Int, (mn a2 a3) = j_ := ⟨_, rfl⟩
    replace H : ((ranges_Count.f (wrap64 (a0)) 1).bind fun t152 => (if t152 = (mx (wrap64 (a0)) 1) then ((ranges_Count.f (wrap64 (a0)) (wrap64 (mx a2 a3))).bind fun t153 => ((ranges_Count.f (wrap64 (a0)) (wrap64 (ji7))).bind fun t154 => (if t153 ≤ t154 then ((ranges_Count.f (wrap64 ((wrap64 (a0)) + (wrap64 (a1)))) (wrap64 (ji7))).bind fun t155 => ((ranges_Count.f (wrap64 (a0)) (wrap64 (ji7))).bind fun t156 => (if t155 ≥ t156 then ((ranges_Most.f k (([wrap64 (a0), wrap64 ((wrap64 (a0)) + (wrap64 (a1)))] : List Int)) (wrap64 (ji7))).bind fun t160 => ((ranges_Count.f (wrap64 (a0)) (wrap64 (ji7))).bind fun t161 => ((ranges_Count.f (wrap64 ((wrap64 (a0)) + (wrap64 (a1)))) (wrap64 (ji7))).bind fun t162 => (some (t160 == (wrap64 (t161 + t162))))))) else (some false)))) else (some false)))) else (some false))) = some r := by first | (rw [hji7] at H; exact H) | (simp only [hji7] at H ⊢; exact H)
    (try rw [hji7] at A5)
    have hji7_ : (if a3 < a2 then a3 else a2) = ji7 := hji7
    obtain ⟨ji8, hji8⟩ : ∃ j_ : Int, (mx a2 a3) = j_ := ⟨_, rfl⟩
    replace H : ((ranges_Count.f (wrap64 (a0)) 1).bind fun t152 => (if t152 = (mx (wrap64 (a0)) 1) then ((ranges_Count.f (wrap64 (a0)) (wrap64 (ji8))).bind fun t153 => ((ranges_Count.f (wrap64 (a0)) (wrap64 (ji7))).bind fun t154 => (if t153 ≤ t154 then ((ranges_Count.f (wrap64 ((wrap64 (a0)) + (wrap64 (a1)))) (wrap64 (ji7))).bind fun t155 => ((ranges_Count.f (wrap64 (a0)) (wrap64 (ji7))).bind fun t156 => (if t155 ≥ t156 then ((ranges_Most.f k (([wrap64 (a0), wrap64 ((wrap64 (a0)) + (wrap64 (a1)))] : List Int)) (wrap64 (ji7))).bind fun t160 => ((ranges_Count.f (wrap64 (a0)) (wrap64 (ji7))).bind fun t161 => ((ranges_Count.f (wrap64 ((wrap64 (a0)) + (wrap64 (a1)))) (wrap64 (ji7))).bind fun t162 => (some (t160 == (wrap64 (t161 + t162))))))) else (some false)))) else (some false)))) else (some false))) = some r := by first | (rw [hji8] at H; exact H) | (simp only [hji8] at H ⊢; exact H)
    (try rw [hji8] at A5)
    have hji8_ : (if a2 < a3 then a3 else a2) = ji8 := hji8
    replace H := Option.bind_eq_some_iff.mp H
    obtain ⟨t152, A90, H⟩ := H
    replace H : (if t152 = (mx (wrap64 (a0)) 1) then ((ranges_Count.f (wrap64 (a0)) (wrap64 (ji8))).bind fun t153 => ((ranges_Count.f (wrap64 (a0)) (wrap64 (ji7))).bind fun t154 => (if t153 ≤ t154 then ((ranges_Count.f (wrap64 ((wrap64 (a0)) + (wrap64 (a1)))) (wrap64 (ji7))).bind fun t155 => ((ranges_Count.f (wrap64 (a0)) (wrap64 (ji7))).bind fun t156 => (if t155 ≥ t156 then ((ranges_Most.f k (([wrap64 (a0), wrap64 ((wrap64 (a0)) + (wrap64 (a1)))] : List Int)) (wrap64 (ji7))).bind fun t160 => ((ranges_Count.f (wrap64 (a0)) (wrap64 (ji7))).bind fun t161 => ((ranges_Count.f (wrap64 ((wrap64 (a0)) + (wrap64 (a1)))) (wrap64 (ji7))).bind fun t162 => (some (t160 == (wrap64 (t161 + t162))))))) else (some false)))) else (some false)))) else (some false)) = some r := H
    have A9 := Aside0.mk A90
    clear A90
    obtain ⟨ji10, hji10⟩ : ∃ j_ : Int, (mx (wrap64 (a0)) 1) = j_ := ⟨_, rfl⟩
    replace H : (if t152 = (ji10) then ((ranges_Count.f (wrap64 (a0)) (wrap64 (ji8))).bind fun t153 => ((ranges_Count.f (wrap64 (a0)) (wrap64 (ji7))).bind fun t154 => (if t153 ≤ t154 then ((ranges_Count.f (wrap64 ((wrap64 (a0)) + (wrap64 (a1)))) (wrap64 (ji7))).bind fun t155 => ((ranges_Count.f (wrap64 (a0)) (wrap64 (ji7))).bind fun t156 => (if t155 ≥ t156 then ((ranges_Most.f k (([wrap64 (a0), wrap64 ((wrap64 (a0)) + (wrap64 (a1)))] : List Int)) (wrap64 (ji7))).bind fun t160 => ((ranges_Count.f (wrap64 (a0)) (wrap64 (ji7))).bind fun t161 => ((ranges_Count.f (wrap64 ((wrap64 (a0)) + (wrap64 (a1)))) (wrap64 (ji7))).bind fun t162 => (some (t160 == (wrap64 (t161 + t162))))))) else (some false)))) else (some false)))) else (some false)) = some r := by first | (rw [hji10] at H; exact H) | (simp only [hji10] at H ⊢; exact H)
    (try rw [hji10] at A5)
    (try rw [hji10] at A9)
    (try (have hji10l : 1 ≤ ji10 := by (rw [← hji10]; unfold mx; (repeat' split) <;> omega)))
    (try (have hji10m : 0 ≤ ji10 := by omega))
    have hji10_ : (if (wrap64 (a0)) < 1 then 1 else (wrap64 (a0))) = ji10 := hji10
    by_cases c11 : t152 = (ji10)
    · rw [if_pos c11] at H
      have c11b0 : (t152 == (ji10)) = true := beq_iff_eq.mpr c11
      have c11b1 : (t152 != (ji10)) = false := bne_eq_false_iff_eq.mpr c11
      clear c11
      replace H := Option.bind_eq_some_iff.mp H
      obtain ⟨t153, A120, H⟩ := H
      replace H : ((ranges_Count.f (wrap64 (a0)) (wrap64 (ji7))).bind fun t154 => (if t153 ≤ t154 then ((ranges_Count.f (wrap64 ((wrap64 (a0)) + (wrap64 (a1)))) (wrap64 (ji7))).bind fun t155 => ((ranges_Count.f (wrap64 (a0)) (wrap64 (ji7))).bind fun t156 => (if t155 ≥ t156 then ((ranges_Most.f k (([wrap64 (a0), wrap64 ((wrap64 (a0)) + (wrap64 (a1)))] : List Int)) (wrap64 (ji7))).bind fun t160 => ((ranges_Count.f (wrap64 (a0)) (wrap64 (ji7))).bind fun t161 => ((ranges_Count.f (wrap64 ((wrap64 (a0)) + (wrap64 (a1)))) (wrap64 (ji7))).bind fun t162 => (some (t160 == (wrap64 (t161 + t162))))))) else (some false)))) else (some false))) = some r := H
      have A12 := Aside0.mk A120
      clear A120
      replace H := Option.bind_eq_some_iff.mp H
      obtain ⟨t154, A130, H⟩ := H
      replace H : (if t153 ≤ t154 then ((ranges_Count.f (wrap64 ((wrap64 (a0)) + (wrap64 (a1)))) (wrap64 (ji7))).bind fun t155 => ((ranges_Count.f (wrap64 (a0)) (wrap64 (ji7))).bind fun t156 => (if t155 ≥ t156 then ((ranges_Most.f k (([wrap64 (a0), wrap64 ((wrap64 (a0)) + (wrap64 (a1)))] : List Int)) (wrap64 (ji7))).bind fun t160 => ((ranges_Count.f (wrap64 (a0)) (wrap64 (ji7))).bind fun t161 => ((ranges_Count.f (wrap64 ((wrap64 (a0)) + (wrap64 (a1)))) (wrap64 (ji7))).bind fun t162 => (some (t160 == (wrap64 (t161 + t162))))))) else (some false)))) else (some false)) = some r := H
      have A13 := Aside0.mk A130
      clear A130
      by_cases c14 : t153 ≤ t154
      · rw [if_pos c14] at H
        have c14b0 : decide (t153 ≤ t154) = true := decide_eq_true c14
        clear c14
        replace H := Option.bind_eq_some_iff.mp H
        obtain ⟨t155, A150, H⟩ := H
        replace H : ((ranges_Count.f (wrap64 (a0)) (wrap64 (ji7))).bind fun t156 => (if t155 ≥ t156 then ((ranges_Most.f k (([wrap64 (a0), wrap64 ((wrap64 (a0)) + (wrap64 (a1)))] : List Int)) (wrap64 (ji7))).bind fun t160 => ((ranges_Count.f (wrap64 (a0)) (wrap64 (ji7))).bind fun t161 => ((ranges_Count.f (wrap64 ((wrap64 (a0)) + (wrap64 (a1)))) (wrap64 (ji7))).bind fun t162 => (some (t160 == (wrap64 (t161 + t162))))))) else (some false))) = some r := H
        have A15 := Aside0.mk A150
        clear A150
        replace H := Option.bind_eq_some_iff.mp H
        obtain ⟨t156, A160, H⟩ := H
        replace H : (if t155 ≥ t156 then ((ranges_Most.f k (([wrap64 (a0), wrap64 ((wrap64 (a0)) + (wrap64 (a1)))] : List Int)) (wrap64 (ji7))).bind fun t160 => ((ranges_Count.f (wrap64 (a0)) (wrap64 (ji7))).bind fun t161 => ((ranges_Count.f (wrap64 ((wrap64 (a0)) + (wrap64 (a1)))) (wrap64 (ji7))).bind fun t162 => (some (t160 == (wrap64 (t161 + t162))))))) else (some false)) = some r := H
        have A16 := Aside0.mk A160
        clear A160
        by_cases c17 : t155 ≥ t156
        · rw [if_pos c17] at H
          have c17b0 : decide (t156 ≤ t155) = true := decide_eq_true c17
          clear c17
          obtain ⟨y157, hy157⟩ : ∃ y_ : List Int, y_ = (([wrap64 (a0), wrap64 ((wrap64 (a0)) + (wrap64 (a1)))] : List Int)) := ⟨_, rfl⟩
          replace H : ((ranges_Most.f k y157 (wrap64 (ji7))).bind fun t160 => ((ranges_Count.f (wrap64 (a0)) (wrap64 (ji7))).bind fun t161 => ((ranges_Count.f (wrap64 ((wrap64 (a0)) + (wrap64 (a1)))) (wrap64 (ji7))).bind fun t162 => (some (t160 == (wrap64 (t161 + t162))))))) = some r := by first | (rw [hy157]; with_reducible exact H) | (have H2_ := (Option.bind_some _ _).symm.trans H; rw [hy157]; with_reducible exact H2_) | (have H2_ := (Option.bind_some _ _).symm.trans H; with_reducible exact H2_) | with_reducible exact H | (rw [hy157]; exact H) | exact H
          have Ny157 := Aside0.mk hy157
          clear hy157
          replace H := Option.bind_eq_some_iff.mp H
          obtain ⟨t160, A180, H⟩ := H
          replace H : ((ranges_Count.f (wrap64 (a0)) (wrap64 (ji7))).bind fun t161 => ((ranges_Count.f (wrap64 ((wrap64 (a0)) + (wrap64 (a1)))) (wrap64 (ji7))).bind fun t162 => (some (t160 == (wrap64 (t161 + t162)))))) = some r := H
          have A18 := Aside0.mk A180
          clear A180
          replace H := Option.bind_eq_some_iff.mp H
          obtain ⟨t161, A190, H⟩ := H
          replace H : ((ranges_Count.f (wrap64 ((wrap64 (a0)) + (wrap64 (a1)))) (wrap64 (ji7))).bind fun t162 => (some (t160 == (wrap64 (t161 + t162))))) = some r := H
          have A19 := Aside0.mk A190
          clear A190
          replace H := Option.bind_eq_some_iff.mp H
          obtain ⟨t162, A200, H⟩ := H
          replace H : (some (t160 == (wrap64 (t161 + t162)))) = some r := H
          have A20 := Aside0.mk A200
          clear A200
          obtain rfl := Option.some.inj H
          obtain rfl : t154 = t156 := Option.some.inj (A13.out.symm.trans A16.out)
          obtain rfl : t154 = t161 := Option.some.inj (A13.out.symm.trans A19.out)
          obtain rfl : t155 = t162 := Option.some.inj (A15.out.symm.trans A20.out)
          go_enter Try.func7, Try.ntmps7
          go_wp2_with (first | ((with_reducible refine gate_callee (f := 8) rfl ?_); refine goesL_ (some 14) rfl rfl Try.func8 (by kernel_rfl) rfl #[] rfl (by (try simp only [List.map_toArray, List.map_cons, List.map_nil]); first | done | rfl | (simp only [List.length_drop, List.length_take]; rfl)) ?_; (with_reducible refine (dustmanlaw10_awake.calls  true _ A5.out).mono ?_); rintro e w21 ⟨rfl, hb⟩; refine ⟨_, rfl, ?_⟩; have n0_ := Aside0.mk (below_step (by repeat (first | (with_reducible first | exact HB.out | apply below_alloc | apply pw_below_drewN | apply below_drew1) | exact HB.out)) hb); clear HB; have HB := n0_; clear n0_; (try clear hb); (try clear hb2); (try clear hk); (try clear hi)) | ((with_reducible refine gate_callee (f := 12) rfl ?_); refine goesL_ (some 32) rfl rfl Try.func12 (by kernel_rfl) rfl #[.int .i64 (wrap64 (a0)), .int .i64 1] rfl (by (try simp only [List.map_toArray, List.map_cons, List.map_nil]); first | done | rfl | (simp only [List.length_drop, List.length_take]; rfl)) ?_; (with_reducible refine (ranges_Count.calls (wrap64 (a0)) 1 t152 _ A9.out).mono ?_); rintro e w22 ⟨rfl, hb⟩; refine ⟨_, rfl, ?_⟩; have n0_ := Aside0.mk (below_step (by repeat (first | (with_reducible first | exact HB.out | apply below_alloc | apply pw_below_drewN | apply below_drew1) | exact HB.out)) hb); clear HB; have HB := n0_; clear n0_; (try clear hb); (try clear hb2); (try clear hk); (try clear hi)) | (go_at_call 12; (with_reducible refine (ranges_Count.calls (wrap64 (a0)) (wrap64 (ji8)) t153 _ A12.out).mono ?_); rintro e w23 ⟨rfl, hb⟩; have n0_ := Aside0.mk (below_step (by repeat (first | (with_reducible first | exact HB.out | apply below_alloc | apply pw_below_drewN | apply below_drew1) | exact HB.out)) hb); clear HB; have HB := n0_; clear n0_; (try clear hb); (try clear hb2); (try clear hk); (try clear hi)) | (go_at_call 12; (with_reducible refine (ranges_Count.calls (wrap64 (a0)) (wrap64 (ji7)) t154 _ A13.out).mono ?_); rintro e w24 ⟨rfl, hb⟩; have n0_ := Aside0.mk (below_step (by repeat (first | (with_reducible first | exact HB.out | apply below_alloc | apply pw_below_drewN | apply below_drew1) | exact HB.out)) hb); clear HB; have HB := n0_; clear n0_; (try clear hb); (try clear hb2); (try clear hk); (try clear hi)) | (go_at_call 12; (with_reducible refine (ranges_Count.calls (wrap64 ((wrap64 (a0)) + (wrap64 (a1)))) (wrap64 (ji7)) t155 _ A15.out).mono ?_); rintro e w25 ⟨rfl, hb⟩; have n0_ := Aside0.mk (below_step (by repeat (first | (with_reducible first | exact HB.out | apply below_alloc | apply pw_below_drewN | apply below_drew1) | exact HB.out)) hb); clear HB; have HB := n0_; clear n0_; (try clear hb); (try clear hb2); (try clear hk); (try clear hi)) | (go_at_call 12; (with_reducible refine (ranges_Count.calls (wrap64 (a0)) (wrap64 (ji7)) t156 _ A16.out).mono ?_); rintro e w26 ⟨rfl, hb⟩; have n0_ := Aside0.mk (below_step (by repeat (first | (with_reducible first | exact HB.out | apply below_alloc | apply pw_below_drewN | apply below_drew1) | exact HB.out)) hb); clear HB; have HB := n0_; clear n0_; (try clear hb); (try clear hb2); (try clear hk); (try clear hi)) | ((with_reducible refine gate_dst (N := 57) rfl ?_); (try (refine gate_guard (by rfl) ?_; dsimp only)); refine Kd.R_lit (Kd.int .i64) _ 3 ?hg (N := 57) ?hd (xs := ([wrap64 (a0), wrap64 ((wrap64 (a0)) + (wrap64 (a1)))] : List Int)) (inner := [.int .i64 (wrap64 (a0)), .int .i64 (wrap64 ((wrap64 (a0)) + (wrap64 (a1))))]) (ok := fun _ => True) (okp := fun _ => True) ?hr ?hp (fun _ hk => hk) trivial (Below.refl _ _) (Nat.le_refl _) (by simp) ?_; (case hd => rfl); (case hg => rfl); (case hr => first | (go_simp; done) | (go_simp; rfl)); (case hp => exact (Reps.one (show Kd.M (Kd.int .i64) _ _ _ (wrap64 (a0)) [.int .i64 (wrap64 (a0))] from rfl) (Reps.one (show Kd.M (Kd.int .i64) _ _ _ (wrap64 ((wrap64 (a0)) + (wrap64 (a1)))) [.int .i64 (wrap64 ((wrap64 (a0)) + (wrap64 (a1))))] from rfl) (Reps.none _ _)))); intro v158 w27 ho28 hb hg_ hnew_; clear hg_ hnew_; (first | rw [← Ny157.out] at ho28 | (simp only [Int.reduceToNat] at ho28; rw [← Ny157.out] at ho28)); have n0_ := Aside0.mk (Kd.R_lower ho28 (below_size (by repeat (first | (with_reducible first | exact HB.out | apply below_alloc | apply pw_below_drewN | apply below_drew1) | exact HB.out)))); have n1_ := Aside0.mk (below_step (by repeat (first | (with_reducible first | exact HB.out | apply below_alloc | apply pw_below_drewN | apply below_drew1) | exact HB.out)) hb); clear HB; have HO159 := n0_; have HB := n1_; clear n0_ n1_; clear hb ho28; obtain ⟨Ao29, co29, eo29⟩ := Kd.R_slice HO159.out; subst eo29) | (go_at_call 14; (with_reducible refine (ranges_Most.calls k _ _ y157 (wrap64 (ji7)) t160 _ ?side1 ?side2 A18.out).mono ?_); (case side1 => repeat (first | exact (Kd.R_reads' HO159.out).2.2 | (with_reducible refine Kd.C_alloc ?_ _) | (with_reducible refine Kd.C_drewN ?_ _) | (with_reducible refine Kd.C_drew ?_))); (case side2 => exact (Kd.R_reads' HO159.out).2.1); rintro e w30 ⟨rfl, hb⟩; have n0_ := Aside0.mk (Kd.R_below (by (with_reducible repeat (first | apply Kd.R_alloc | apply Kd.R_drewN | apply Kd.R_drew)); exact HO159.out) hb); have n1_ := Aside0.mk (below_step (by repeat (first | (with_reducible first | exact HB.out | apply below_alloc | apply pw_below_drewN | apply below_drew1) | exact HB.out)) hb); clear HO159; clear HB; have HO159 := n0_; have HB := n1_; clear n0_ n1_; (try clear hb); (try clear hb2); (try clear hk); (try clear hi)) | (go_at_call 12; (with_reducible refine (ranges_Count.calls (wrap64 (a0)) (wrap64 (ji7)) t161 _ A19.out).mono ?_); rintro e w31 ⟨rfl, hb⟩; have n0_ := Aside0.mk (Kd.R_below (by (with_reducible repeat (first | apply Kd.R_alloc | apply Kd.R_drewN | apply Kd.R_drew)); exact HO159.out) hb); have n1_ := Aside0.mk (below_step (by repeat (first | (with_reducible first | exact HB.out | apply below_alloc | apply pw_below_drewN | apply below_drew1) | exact HB.out)) hb); clear HO159; clear HB; have HO159 := n0_; have HB := n1_; clear n0_ n1_; (try clear hb); (try clear hb2); (try clear hk); (try clear hi)) | (go_at_call 12; (with_reducible refine (ranges_Count.calls (wrap64 ((wrap64 (a0)) + (wrap64 (a1)))) (wrap64 (ji7)) t162 _ A20.out).mono ?_); rintro e w32 ⟨rfl, hb⟩; have n0_ := Aside0.mk (Kd.R_below (by (with_reducible repeat (first | apply Kd.R_alloc | apply Kd.R_drewN | apply Kd.R_drew)); exact HO159.out) hb); have n1_ := Aside0.mk (below_step (by repeat (first | (with_reducible first | exact HB.out | apply below_alloc | apply pw_below_drewN | apply below_drew1) | exact HB.out)) hb); clear HO159; clear HB; have HO159 := n0_; have HB := n1_; clear n0_ n1_; (try clear hb); (try clear hb2); (try clear hk); (try clear hi)))
          go_ret
          exact ⟨by first | rfl | (simp [errW_none, errW_some] <;> rfl) | (simp only [← hji7, ← hji8, ← hji10]; first | rfl | (simp [errW_none, errW_some] <;> rfl)) | (simp [*, errW_none, errW_some] <;> rfl), by repeat (first | (with_reducible first | exact HB.out | apply below_alloc | apply pw_below_drewN | apply below_drew1) | exact HB.out)⟩
        · rw [if_neg c17] at H
          have c17b0 : decide (t156 ≤ t155) = false := decide_eq_false c17
          clear c17
          obtain rfl := Option.some.inj H
          obtain rfl : t154 = t156 := Option.some.inj (A13.out.symm.trans A16.out)
          go_enter Try.func7, Try.ntmps7
          go_wp2_with (first | ((with_reducible refine gate_callee (f := 8) rfl ?_); refine goesL_ (some 14) rfl rfl Try.func8 (by kernel_rfl) rfl #[] rfl (by (try simp only [List.map_toArray, List.map_cons, List.map_nil]); first | done | rfl | (simp only [List.length_drop, List.length_take]; rfl)) ?_; (with_reducible refine (dustmanlaw10_awake.calls  true _ A5.out).mono ?_); rintro e w33 ⟨rfl, hb⟩; refine ⟨_, rfl, ?_⟩; have n0_ := Aside0.mk (below_step (by repeat (first | (with_reducible first | exact HB.out | apply below_alloc | apply pw_below_drewN | apply below_drew1) | exact HB.out)) hb); clear HB; have HB := n0_; clear n0_; (try clear hb); (try clear hb2); (try clear hk); (try clear hi)) | ((with_reducible refine gate_callee (f := 12) rfl ?_); refine goesL_ (some 32) rfl rfl Try.func12 (by kernel_rfl) rfl #[.int .i64 (wrap64 (a0)), .int .i64 1] rfl (by (try simp only [List.map_toArray, List.map_cons, List.map_nil]); first | done | rfl | (simp only [List.length_drop, List.length_take]; rfl)) ?_; (with_reducible refine (ranges_Count.calls (wrap64 (a0)) 1 t152 _ A9.out).mono ?_); rintro e w34 ⟨rfl, hb⟩; refine ⟨_, rfl, ?_⟩; have n0_ := Aside0.mk (below_step (by repeat (first | (with_reducible first | exact HB.out | apply below_alloc | apply pw_below_drewN | apply below_drew1) | exact HB.out)) hb); clear HB; have HB := n0_; clear n0_; (try clear hb); (try clear hb2); (try clear hk); (try clear hi)) | (go_at_call 12; (with_reducible refine (ranges_Count.calls (wrap64 (a0)) (wrap64 (ji8)) t153 _ A12.out).mono ?_); rintro e w35 ⟨rfl, hb⟩; have n0_ := Aside0.mk (below_step (by repeat (first | (with_reducible first | exact HB.out | apply below_alloc | apply pw_below_drewN | apply below_drew1) | exact HB.out)) hb); clear HB; have HB := n0_; clear n0_; (try clear hb); (try clear hb2); (try clear hk); (try clear hi)) | (go_at_call 12; (with_reducible refine (ranges_Count.calls (wrap64 (a0)) (wrap64 (ji7)) t154 _ A13.out).mono ?_); rintro e w36 ⟨rfl, hb⟩; have n0_ := Aside0.mk (below_step (by repeat (first | (with_reducible first | exact HB.out | apply below_alloc | apply pw_below_drewN | apply below_drew1) | exact HB.out)) hb); clear HB; have HB := n0_; clear n0_; (try clear hb); (try clear hb2); (try clear hk); (try clear hi)) | (go_at_call 12; (with_reducible refine (ranges_Count.calls (wrap64 ((wrap64 (a0)) + (wrap64 (a1)))) (wrap64 (ji7)) t155 _ A15.out).mono ?_); rintro e w37 ⟨rfl, hb⟩; have n0_ := Aside0.mk (below_step (by repeat (first | (with_reducible first | exact HB.out | apply below_alloc | apply pw_below_drewN | apply below_drew1) | exact HB.out)) hb); clear HB; have HB := n0_; clear n0_; (try clear hb); (try clear hb2); (try clear hk); (try clear hi)) | (go_at_call 12; (with_reducible refine (ranges_Count.calls (wrap64 (a0)) (wrap64 (ji7)) t156 _ A16.out).mono ?_); rintro e w38 ⟨rfl, hb⟩; have n0_ := Aside0.mk (below_step (by repeat (first | (with_reducible first | exact HB.out | apply below_alloc | apply pw_below_drewN | apply below_drew1) | exact HB.out)) hb); clear HB; have HB := n0_; clear n0_; (try clear hb); (try clear hb2); (try clear hk); (try clear hi)))
          go_ret
          exact ⟨by first | rfl | (simp [errW_none, errW_some] <;> rfl) | (simp only [← hji7, ← hji8, ← hji10]; first | rfl | (simp [errW_none, errW_some] <;> rfl)) | (simp [*, errW_none, errW_some] <;> rfl), by repeat (first | (with_reducible first | exact HB.out | apply below_alloc | apply pw_below_drewN | apply below_drew1) | exact HB.out)⟩
      · rw [if_neg c14] at H
        have c14b0 : decide (t153 ≤ t154) = false := decide_eq_false c14
        clear c14
        obtain rfl := Option.some.inj H
        go_enter Try.func7, Try.ntmps7
        go_wp2_with (first | ((with_reducible refine gate_callee (f := 8) rfl ?_); refine goesL_ (some 14) rfl rfl Try.func8 (by kernel_rfl) rfl #[] rfl (by (try simp only [List.map_toArray, List.map_cons, List.map_nil]); first | done | rfl | (simp only [List.length_drop, List.length_take]; rfl)) ?_; (with_reducible refine (dustmanlaw10_awake.calls  true _ A5.out).mono ?_); rintro e w39 ⟨rfl, hb⟩; refine ⟨_, rfl, ?_⟩; have n0_ := Aside0.mk (below_step (by repeat (first | (with_reducible first | exact HB.out | apply below_alloc | apply pw_below_drewN | apply below_drew1) | exact HB.out)) hb); clear HB; have HB := n0_; clear n0_; (try clear hb); (try clear hb2); (try clear hk); (try clear hi)) | ((with_reducible refine gate_callee (f := 12) rfl ?_); refine goesL_ (some 32) rfl rfl Try.func12 (by kernel_rfl) rfl #[.int .i64 (wrap64 (a0)), .int .i64 1] rfl (by (try simp only [List.map_toArray, List.map_cons, List.map_nil]); first | done | rfl | (simp only [List.length_drop, List.length_take]; rfl)) ?_; (with_reducible refine (ranges_Count.calls (wrap64 (a0)) 1 t152 _ A9.out).mono ?_); rintro e w40 ⟨rfl, hb⟩; refine ⟨_, rfl, ?_⟩; have n0_ := Aside0.mk (below_step (by repeat (first | (with_reducible first | exact HB.out | apply below_alloc | apply pw_below_drewN | apply below_drew1) | exact HB.out)) hb); clear HB; have HB := n0_; clear n0_; (try clear hb); (try clear hb2); (try clear hk); (try clear hi)) | (go_at_call 12; (with_reducible refine (ranges_Count.calls (wrap64 (a0)) (wrap64 (ji8)) t153 _ A12.out).mono ?_); rintro e w41 ⟨rfl, hb⟩; have n0_ := Aside0.mk (below_step (by repeat (first | (with_reducible first | exact HB.out | apply below_alloc | apply pw_below_drewN | apply below_drew1) | exact HB.out)) hb); clear HB; have HB := n0_; clear n0_; (try clear hb); (try clear hb2); (try clear hk); (try clear hi)) | (go_at_call 12; (with_reducible refine (ranges_Count.calls (wrap64 (a0)) (wrap64 (ji7)) t154 _ A13.out).mono ?_); rintro e w42 ⟨rfl, hb⟩; have n0_ := Aside0.mk (below_step (by repeat (first | (with_reducible first | exact HB.out | apply below_alloc | apply pw_below_drewN | apply below_drew1) | exact HB.out)) hb); clear HB; have HB := n0_; clear n0_; (try clear hb); (try clear hb2); (try clear hk); (try clear hi)))
        go_ret
        exact ⟨by first | rfl | (simp [errW_none, errW_some] <;> rfl) | (simp only [← hji7, ← hji8, ← hji10]; first | rfl | (simp [errW_none, errW_some] <;> rfl)) | (simp [*, errW_none, errW_some] <;> rfl), by repeat (first | (with_reducible first | exact HB.out | apply below_alloc | apply pw_below_drewN | apply below_drew1) | exact HB.out)⟩
    · rw [if_neg c11] at H
      have c11b0 : (t152 == (ji10)) = false := beq_eq_false_iff_ne.mpr c11
      have c11b1 : (t152 != (ji10)) = true := bne_iff_ne.mpr c11
      obtain rfl := Option.some.inj H
      go_enter Try.func7, Try.ntmps7
      go_wp2_with (first | ((with_reducible refine gate_callee (f := 8) rfl ?_); refine goesL_ (some 14) rfl rfl Try.func8 (by kernel_rfl) rfl #[] rfl (by (try simp only [List.map_toArray, List.map_cons, List.map_nil]); first | done | rfl | (simp only [List.length_drop, List.length_take]; rfl)) ?_; (with_reducible refine (dustmanlaw10_awake.calls  true _ A5.out).mono ?_); rintro e w43 ⟨rfl, hb⟩; refine ⟨_, rfl, ?_⟩; have n0_ := Aside0.mk (below_step (by repeat (first | (with_reducible first | exact HB.out | apply below_alloc | apply pw_below_drewN | apply below_drew1) | exact HB.out)) hb); clear HB; have HB := n0_; clear n0_; (try clear hb); (try clear hb2); (try clear hk); (try clear hi)) | ((with_reducible refine gate_callee (f := 12) rfl ?_); refine goesL_ (some 32) rfl rfl Try.func12 (by kernel_rfl) rfl #[.int .i64 (wrap64 (a0)), .int .i64 1] rfl (by (try simp only [List.map_toArray, List.map_cons, List.map_nil]); first | done | rfl | (simp only [List.length_drop, List.length_take]; rfl)) ?_; (with_reducible refine (ranges_Count.calls (wrap64 (a0)) 1 t152 _ A9.out).mono ?_); rintro e w44 ⟨rfl, hb⟩; refine ⟨_, rfl, ?_⟩; have n0_ := Aside0.mk (below_step (by repeat (first | (with_reducible first | exact HB.out | apply below_alloc | apply pw_below_drewN | apply below_drew1) | exact HB.out)) hb); clear HB; have HB := n0_; clear n0_; (try clear hb); (try clear hb2); (try clear hk); (try clear hi)))
      go_ret
      exact ⟨by first | rfl | (simp [errW_none, errW_some] <;> rfl) | (simp only [← hji7, ← hji8, ← hji10]; first | rfl | (simp [errW_none, errW_some] <;> rfl)) | (simp [*, errW_none, errW_some] <;> rfl), by repeat (first | (with_reducible first | exact HB.out | apply below_alloc | apply pw_below_drewN | apply below_drew1) | exact HB.out)⟩
  · replace c6 := Bool.eq_false_iff.mpr c6
    subst c6
    have H1 : (some false) = some r := by rw [if_neg (show ¬ (false = true) by decide)] at H; exact H
    clear H
    have H := H1
    clear H1
    obtain rfl := Option.some.inj H
    go_enter Try.func7, Try.ntmps7
    go_wp2_with (first | ((with_reducible refine gate_callee (f := 8) rfl ?_); refine goesL_ (some 14) rfl rfl Try.func8 (by kernel_rfl) rfl #[] rfl (by (try simp only [List.map_toArray, List.map_cons, List.map_nil]); first | done | rfl | (simp only [List.length_drop, List.length_take]; rfl)) ?_; (with_reducible refine (dustmanlaw10_awake.calls  false _ A5.out).mono ?_); rintro e w45 ⟨rfl, hb⟩; refine ⟨_, rfl, ?_⟩; have n0_ := Aside0.mk (below_step (by repeat (first | (with_reducible first | exact HB.out | apply below_alloc | apply pw_below_drewN | apply below_drew1) | exact HB.out)) hb); clear HB; have HB := n0_; clear n0_; (try clear hb); (try clear hb2); (try clear hk); (try clear hi)))
    go_ret
    exact ⟨by first | rfl | (simp [errW_none, errW_some] <;> rfl) | (simp [*, errW_none, errW_some] <;> rfl), by repeat (first | (with_reducible first | exact HB.out | apply below_alloc | apply pw_below_drewN | apply below_drew1) | exact HB.out)⟩

/-- THE ONE PURE STATEMENT of dustmanlaw10_RangesJoin: yours. -/
def dustmanlaw10_RangesJoin.Pure : Prop := ∀ (a0 : Int) (a1 : Int) (a2 : Int) (a3 : Int), (Lit.int .u8 a0).wf = true → (Lit.int .u8 a1).wf = true → (Lit.int .u8 a2).wf = true → (Lit.int .u8 a3).wf = true → ∃ k, dustmanlaw10_RangesJoin.f k a0 a1 a2 a3 = some true
theorem dustmanlaw10_RangesJoin.walk (P : dustmanlaw10_RangesJoin.Pure) (a0 : Int) (a1 : Int) (a2 : Int) (a3 : Int) (w : World) (w0 : (Lit.int .u8 a0).wf = true) (w1 : (Lit.int .u8 a1).wf = true) (w2 : (Lit.int .u8 a2).wf = true) (w3 : (Lit.int .u8 a3).wf = true) :
    Calls Try.prog 7 #[.int .u8 a0, .int .u8 a1, .int .u8 a2, .int .u8 a3] w fun e w' => e = .returned (.bool true) ∧ Below w.heap.size w w' := by
  obtain ⟨k, h⟩ := P a0 a1 a2 a3 w0 w1 w2 w3
  refine (dustmanlaw10_RangesJoin.calls k a0 a1 a2 a3 true w h).mono ?_
  rintro e w' ⟨rfl, hd⟩
  exact ⟨rfl, hd⟩

end Go.Proofs.Ytmdgahnfekkdbaa.P
