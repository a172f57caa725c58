/- Whether each stretch of turns has all, and the longest one without one, are the document's; for every input. -/
import Derived.Test.YthehejpagkbnmaaLem2
namespace Go.Proofs.Ythehejpagkbnmaa.Pure
open Go.RowKit Go.Proofs.Ythehejpagkbnmaa.P Go.Proofs.YthehejpagkbnmaaW.PrintWords Go.Proofs.YthehejpagkbnmaaW.PrintLast Go.Proofs.YthehejpagkbnmaaW.PrintMore

theorem PlanWindows : dustmanlaw03_PlanWindows.Pure := by
  intro l0 a1 a2 a3 _ _ _ _ _ _
  refine Ev.rounds (g := fun k => dustmanlaw03_PlanWindows.f k l0 a1 a2 a3) (Ev.congr (fun k => by simp only [dustmanlaw03_PlanWindows.f]; rfl) (Ev.bind awake_is ?_))
  have quick : Ev (fun k => dustmanlaw03_PlanWindows.j0 k l0 a1 a2 a3 true) true := Ev.step (f := fun _ => some true) (fun k => by simp only [dustmanlaw03_PlanWindows.j0]; rw [if_pos trivial]) (Ev.now _)
  by_cases h : (l0.length : Int) > 60
  · exact Ev.congr (fun k => by rw [if_pos rfl, if_pos h]) quick
  by_cases h2 : a1 > 60
  · exact Ev.congr (fun k => by rw [if_pos rfl, if_neg h, decide_eq_true h2]) quick
  refine Ev.congr (fun k => by rw [if_pos rfl, if_neg h, decide_eq_false h2]) ?_
  have hW : ∃ b, Ev (fun k => plan_Windows.f k l0 a1 a2) b ∧ Ev (fun k => dustmanref03_Windows.f k l0 a1 a2) b := by
    have t1 := planwin_is l0 a1 a2 (by omega) (by omega)
    have t2 := refwin_is l0 a1 a2 (by omega) (by omega)
    by_cases hp : WinP l0 a1 a2
    · exact ⟨true, t1.yes hp, t2.yes hp⟩
    · exact ⟨false, t1.no hp, t2.no hp⟩
  obtain ⟨b, w1, w2⟩ := hW
  have g1 := gap_is l0 a3 (by omega)
  have g2 := refgap_is l0 a3 (by omega)
  refine Ev.step (f := fun k => (plan_Windows.f k l0 a1 a2).bind fun t152 => ((dustmanref03_Windows.f k l0 a1 a2).bind fun t153 => (if (t152 == t153) = true then ((plan_Gap.f k l0 a3).bind fun t154 => ((dustmanref03_Gap.f k l0 a3).bind fun t155 => (some (t154 == t155)))) else (some false)))) (fun k => ?_) (Ev.bind w1 (Ev.bind w2 (Ev.congr (fun k => by rw [if_pos (by simp)]) (Ev.bind g1 (Ev.bind g2 ?_)))))
  · simp only [dustmanlaw03_PlanWindows.j0]
    rw [if_neg (by simp)]
  · exact Ev.congr (f := fun _ => some true) (fun k => by rw [beq_self_eq_true]) (Ev.now _)

end Go.Proofs.Ythehejpagkbnmaa.Pure
