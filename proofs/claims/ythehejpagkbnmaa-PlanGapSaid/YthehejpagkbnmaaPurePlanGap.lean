/- Stretches wider than the longest one without each have all, no narrower ones do; for every input. -/
import Derived.Test.YthehejpagkbnmaaLem2
namespace Go.Proofs.Ythehejpagkbnmaa.Pure
open Go.RowKit Go.Proofs.Ythehejpagkbnmaa.P Go.Proofs.YthehejpagkbnmaaW.PrintWords Go.Proofs.YthehejpagkbnmaaW.PrintLast Go.Proofs.YthehejpagkbnmaaW.PrintMore

theorem gap_all (l : List Int) (n : Nat) (hn : 1 ≤ n ∧ n ≤ 4) (hl : l.length ≤ 60) : ∀ (d w m : Nat), n - w = d → w ≤ n → m ≤ l.length → (∀ v : Nat, v < w → mxr v l ≤ m) → (m = 0 ∨ ∃ v : Nat, v < w ∧ mxr v l = m) →
    Ev (fun k => dustmanlaw03_PlanGap.l0 k l (n : Int) (m : Int) (w : Int)) true := by
  intro d
  induction d with
  | zero =>
    intro w m hd hw hm hub hex
    have HEX := Aside0.mk hex
    clear hex
    have hlt : ∀ v : Int, 0 ≤ v → v < n → mxr v l ≤ m := fun v h0 h1 => by
      have := hub v.toNat (by omega)
      rw [Int.toNat_of_nonneg h0] at this
      exact this
    have h1 : WinP l n (m + 1) := by
      by_cases h : (m : Int) + 1 > l.length
      · exact Or.inr (Or.inl h)
      · refine Or.inr (Or.inr ⟨by omega, ?_, fun v h0 h1 => by have := hlt v h0 h1; omega⟩)
        have := all_le l n (fun v hv => by
          have h3 := hub v (by omega)
          have := mem_of_mxr l v (by omega)
          exact this)
        omega
    have hE1 := (planwin_is l n (m + 1) (by omega) (by omega)).yes h1
    refine Ev.step (f := fun k => (plan_Windows.f k l (n : Int) ((m : Int) + 1)).bind fun t189 => (if t189 = true then (if (m : Int) = 0 then (some true) else ((plan_Windows.f k l (n : Int) (m : Int)).bind fun t190 => (some (!t190)))) else (some false))) (fun k => ?_) (Ev.bind hE1 ?_)
    · simp only [dustmanlaw03_PlanGap.l0]
      rw [if_neg (by omega), if_pos (by omega), if_pos (by omega), wrap_in (by omega) (by omega)]
    · by_cases hm0 : m = 0
      · exact Ev.congr (f := fun _ => some true) (fun k => by rw [if_pos rfl, if_pos (by omega)]) (Ev.now _)
      · have h2 : ¬ WinP l n m := by
          intro h
          rcases h with h | h | ⟨h3, h4, h5⟩
          · omega
          · omega
          · rcases HEX.out with h | ⟨v, hv, he⟩
            · exact hm0 h
            · have := h5 v (by omega) (by omega)
              omega
        have hE2 := (planwin_is l n m (by omega) (by omega)).no h2
        refine Ev.congr (f := fun k => (plan_Windows.f k l (n : Int) (m : Int)).bind fun t190 => (some (!t190))) (fun k => by rw [if_pos rfl, if_neg (by omega)]) (Ev.bind hE2 (Ev.now _))
  | succ d ih =>
    intro w m hd hw hm hub hex
    have HEX := Aside0.mk hex
    clear hex
    have hg := gap_is l w (by omega)
    have hmx : mx (m : Int) ((mxr w l : Nat) : Int) = ((max m (mxr w l) : Nat) : Int) := by unfold mx; split <;> omega
    have hle := (mxr_le w l).2
    refine Ev.step (f := fun k => (plan_Gap.f k l (w : Int)).bind fun t188 => (dustmanlaw03_PlanGap.l0 k l (n : Int) (mx (m : Int) t188) (wrap64 ((w : Int) + 1)))) (fun k => ?_) (Ev.bind hg ?_)
    · simp only [dustmanlaw03_PlanGap.l0]
      rw [if_pos (by omega)]
    · refine Ev.congr (fun k => ?_) (ih (w + 1) (max m (mxr w l)) (by omega) (by omega) (by omega) ?_ ?_)
      · rw [hmx, wrap_in (by omega) (by omega), nat1]
      · intro v hv
        by_cases e : v = w
        · subst e
          omega
        · have := hub v (by omega)
          omega
      · by_cases h : mxr w l ≤ m
        · rw [show max m (mxr w l) = m by omega]
          rcases HEX.out with h | ⟨v, hv, he⟩
          · exact Or.inl h
          · exact Or.inr ⟨v, by omega, he⟩
        · exact Or.inr ⟨w, by omega, by omega⟩
theorem PlanGap : dustmanlaw03_PlanGap.Pure := by
  intro l0 a1 _ _ _ h1
  have hb := u8_bd h1
  refine Ev.rounds (g := fun k => dustmanlaw03_PlanGap.f k l0 a1) (Ev.congr (fun k => by simp only [dustmanlaw03_PlanGap.f]; rfl) (Ev.bind awake_is ?_))
  have quick : Ev (fun k => dustmanlaw03_PlanGap.j0 k l0 a1 true) true := Ev.step (f := fun _ => some true) (fun k => by simp only [dustmanlaw03_PlanGap.j0]; rw [if_pos trivial]) (Ev.now _)
  by_cases h : (l0.length : Int) > 60
  · exact Ev.congr (fun k => by rw [if_pos rfl, if_pos h]) quick
  by_cases h0 : l0.length = 0
  · exact Ev.congr (fun k => by rw [if_pos rfl, if_neg h, show ((l0.length : Int) == 0) = true by rw [beq_iff_eq]; omega]) quick
  refine Ev.congr (fun k => by rw [if_pos rfl, if_neg h, show ((l0.length : Int) == 0) = false by rw [beq_eq_false_iff_ne]; omega]) ?_
  obtain ⟨n, hn⟩ : ∃ n : Nat, (n : Int) = a1 % 4 + 1 := ⟨(a1 % 4 + 1).toNat, by omega⟩
  refine Ev.step (fun k => ?_) (gap_all l0 n (by omega) (by omega) n 0 0 (by omega) (by omega) (by omega) (fun v hv => by omega) (Or.inl rfl))
  simp only [dustmanlaw03_PlanGap.j0]
  rw [if_neg (by simp), Int.tmod_eq_emod_of_nonneg (by omega), wrap_in (x := a1 % 4) (by omega) (by omega), wrap_in (by omega) (by omega), hn]
  rfl

end Go.Proofs.Ythehejpagkbnmaa.Pure
