/- Whose turn it is, of any periods, however often, is the document's; for every input. -/
import Derived.Test.YthehejpagkbnmaaLem4
namespace Go.Proofs.Ythehejpagkbnmaa.Pure
open Go.RowKit Go.Proofs.Ythehejpagkbnmaa.P Go.Proofs.YthehejpagkbnmaaW.PrintWords Go.Proofs.YthehejpagkbnmaaW.PrintLast Go.Proofs.YthehejpagkbnmaaW.PrintMore

theorem PlanOrder : dustmanlaw03_PlanOrder.Pure := by
  intro l0 a1 _ _ _ _
  refine Ev.rounds (g := fun k => dustmanlaw03_PlanOrder.f k l0 a1) (Ev.congr (fun k => by simp only [dustmanlaw03_PlanOrder.f]; rfl) (Ev.bind awake_is ?_))
  have quick : Ev (fun k => dustmanlaw03_PlanOrder.j0 k l0 a1 true) true := Ev.step (f := fun _ => some true) (fun k => by simp only [dustmanlaw03_PlanOrder.j0]; rw [if_pos trivial]) (Ev.now _)
  by_cases h : (l0.length : Int) > 20
  · exact Ev.congr (fun k => by rw [if_pos rfl, if_pos h]) quick
  by_cases h2 : a1 > 200
  · exact Ev.congr (fun k => by rw [if_pos rfl, if_neg h, decide_eq_true h2]) quick
  refine Ev.congr (fun k => by rw [if_pos rfl, if_neg h, decide_eq_false h2]) ?_
  obtain ⟨r, hr, hp, hl⟩ : ∃ r, Ev (fun k => dustmanref03_Order.f k l0 a1) r ∧ plan_Order.f l0 a1 = some r ∧ r.length ≤ 1000000 := by
    by_cases h0 : l0.length = 0
    · refine ⟨[], Ev.congr (f := fun _ => some []) (fun k => ?_) (Ev.now _), ?_, by simp⟩
      · simp only [dustmanref03_Order.f]
        rw [if_pos (by omega)]
      · unfold plan_Order.f
        rw [if_pos (Or.inl h0)]
    · obtain ⟨r, h3, h4, h5⟩ := plan_some l0 a1 h0 (by omega) (by omega)
      obtain ⟨s, h6, h7, h8⟩ := ref_some l0 a1 h0 (by omega) (by omega)
      obtain rfl := turns_one _ _ r s _ (by omega) h5 h8
      exact ⟨r, h6, h3, by omega⟩
  refine Ev.step (f := fun k => (plan_Order.f l0 a1).bind fun t142 => ((dustmanref03_Order.f k l0 a1).bind fun t145 => ((dustmanref03_Same.f k t142 t145).bind fun t148 => (some t148)))) (fun k => ?_) ?_
  · simp only [dustmanlaw03_PlanOrder.j0]
    rw [if_neg (by simp)]
  · refine Ev.congr (f := fun k => (dustmanref03_Order.f k l0 a1).bind fun t145 => ((dustmanref03_Same.f k r t145).bind fun t148 => (some t148))) (fun k => by rw [hp, Option.bind_some]) (Ev.bind hr (Ev.bind (same_is r hl) (Ev.now _)))

end Go.Proofs.Ythehejpagkbnmaa.Pure
