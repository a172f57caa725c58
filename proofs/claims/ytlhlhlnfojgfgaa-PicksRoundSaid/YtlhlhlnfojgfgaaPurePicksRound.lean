/- Picks by turns, and those that leave nobody out, are the document's, whatever is told; for every input. -/
import Derived.Test.YtlhlhlnfojgfgaaLem2
namespace Go.Proofs.Ytlhlhlnfojgfgaa.Pure
open Go.RowKit Go.Proofs.Ytlhlhlnfojgfgaa.P Go.Proofs.YtlhlhlnfojgfgaaW.PrintWords Go.Proofs.YtlhlhlnfojgfgaaW.PrintLast Go.Proofs.YtlhlhlnfojgfgaaW.PrintMore

theorem whos_loop (a0 a1 a2 a3 : Int) (l : List S34) (hl : l.length ≤ 60) (next : Ev (fun k => (picks_Round.f k a0 a1 a2 a3).bind fun t253 => ((dustmanref04_Round.f k a0 a1 a2 a3).bind fun t256 => ((dustmanlaw04_same.f k t253 t256).bind fun t259 => (if t259 = true then ((picks_Fair.f k l a0).bind fun t260 => ((dustmanlaw04_model.f k l).bind fun t263 => ((dustmanref04_Fair.f k t263 a0).bind fun t266 => ((dustmanlaw04_same.f k t260 t266).bind fun t269 => (some t269))))) else (some false))))) true) :
    ∀ (d i : Nat), l.length - i = d → i ≤ l.length → Ev (fun k => dustmanlaw04_PicksRound.l0 k a0 a1 a2 a3 l (whos l) (i : Int)) true := by
  have hw : (whos l).length = l.length := by simp [whos]
  intro d
  induction d with
  | zero =>
    intro i hd hi
    refine Ev.step (fun k => ?_) next
    simp only [dustmanlaw04_PicksRound.l0]
    rw [if_neg (by omega)]
  | succ d ih =>
    intro i hd hi
    have hlt : i < l.length := by omega
    have e : (whos l).getD i 0 = (l.getD i z34).f0 := by simp [whos, List.getD, hlt]
    refine Ev.step (fun k => ?_) (ih (i + 1) (by omega) (by omega))
    simp only [dustmanlaw04_PicksRound.l0]
    rw [if_pos (by omega), if_pos (by omega), if_pos (by omega), rdn, rd34, if_pos e, wrap_in (by omega) (by omega), nat1]
theorem PicksRound : ∀ (a0 : Int), (Lit.int .i64 a0).wf = true → ∀ (a1 : Int), (Lit.int .i64 a1).wf = true → ∀ (a2 : Int), (Lit.int .i64 a2).wf = true → ∀ (a3 : Int), (Lit.int .i64 a3).wf = true → ∀ (l : List S34), ∃ k, dustmanlaw04_PicksRound.f k a0 a1 a2 a3 l = some true := by
  intro a0 _ a1 _ a2 _ a3 _ l
  refine Ev.rounds ?_
  unfold dustmanlaw04_PicksRound.f
  refine Ev.bind awake_is ?_
  simp only [if_true]
  by_cases h : (l.length : Int) > 60
  · simp only [if_pos h]
    exact Ev.now _
  · simp only [if_neg h]
    refine Ev.bind (who_is l (by omega)) ?_
    have hw : ((whos l).length : Int) = (l.length : Int) := by simp [whos]
    simp only [if_pos hw]
    refine whos_loop a0 a1 a2 a3 l (by omega) ?_ l.length 0 (by omega) (by omega)
    obtain ⟨n, hN, hn⟩ : ∃ n : Nat, mn (mx a0 0) 16 = n ∧ n ≤ 16 := by
      refine ⟨(mn (mx a0 0) 16).toNat, ?_, ?_⟩
      · unfold mn mx
        split <;> split <;> omega
      · unfold mn mx
        split <;> split <;> omega
    obtain ⟨rl, hr1, hr2, hr3⟩ : ∃ rl : List S34, rl.length ≤ 1000000 ∧ Ev (fun k => picks_Round.f k a0 a1 a2 a3) rl ∧ Ev (fun k => dustmanref04_Round.f k a0 a1 a2 a3) (rl.map to47) := by
      by_cases hc : 1 ≤ a0 ∧ 1 ≤ a1 ∧ a0 * a1 ≤ 10000
      · exact ⟨_, by simp [turns]; omega, round_some a0 a1 a2 a3 hc.1 hc.2.1 hc.2.2, refround_some a0 a1 a2 a3 hc.1 hc.2.1 hc.2.2⟩
      · exact ⟨[], by simp, round_none a0 a1 a2 a3 hc, refround_none a0 a1 a2 a3 hc⟩
    have hf := fairL_length n l
    have hfl : (fairL n l).length ≤ 1000000 := by
      have : l.length * (n + 1) ≤ 60 * 17 := Nat.mul_le_mul (by omega) (by omega)
      omega
    refine Ev.bind hr2 (Ev.bind hr3 (Ev.bind (same_is rl hr1) ?_))
    simp only [if_true]
    exact Ev.bind (fair_is l a0 n hN hn (by omega)) (Ev.bind (model_is l (by omega)) (Ev.bind (reffair_is l a0 n hN hn (by omega)) (Ev.bind (same_is _ hfl) (Ev.now _))))

end Go.Proofs.Ytlhlhlnfojgfgaa.Pure
