/- The longest stretch without one in two lists, and stretches that have all, against those of both together; for every input. -/
import Derived.Test.YthehejpagkbnmaaLem2
namespace Go.Proofs.Ythehejpagkbnmaa.Pure
open Go.RowKit Go.Proofs.Ythehejpagkbnmaa.P Go.Proofs.YthehejpagkbnmaaW.PrintWords Go.Proofs.YthehejpagkbnmaaW.PrintLast Go.Proofs.YthehejpagkbnmaaW.PrintMore

theorem run_join (v : Int) : ∀ a b : List Int, run v a ≤ run v (a ++ b) ∧ run v (a ++ b) ≤ run v a + run v b
  | [], b => by simp [run]
  | x :: a, b => by
    have := run_join v a b
    simp only [List.cons_append, run]
    split <;> omega
theorem mxr_join (v : Int) : ∀ a b : List Int, mxr v a ≤ mxr v (a ++ b) ∧ mxr v b ≤ mxr v (a ++ b) ∧ mxr v (a ++ b) ≤ mxr v a + mxr v b
  | [], b => by simp [mxr]
  | x :: a, b => by
    have h1 := mxr_join v a b
    have h2 := run_join v (x :: a) b
    have h3 := run_le_mxr v b
    rw [List.cons_append] at h2
    simp only [List.cons_append, mxr]
    omega
theorem win_part (a c : List Int) (n k : Int) (hk : 1 ≤ k) (hm : ∀ v, mxr v a ≤ mxr v c) (hl : a.length ≤ c.length) (h : WinP c n k) : WinP a n k := by
  rcases h with h | h | ⟨h1, h2, h3⟩
  · exact Or.inl h
  · exact Or.inr (Or.inl (by omega))
  · by_cases hka : k > a.length
    · exact Or.inr (Or.inl hka)
    · refine Or.inr (Or.inr ⟨hk, ?_, fun w h0 hw => by have := hm w; have := h3 w h0 hw; omega⟩)
      have := all_le a n.toNat (fun v hv => mem_of_mxr a v (by have := hm v; have := h3 v (by omega) (by omega); omega))
      omega
theorem PlanParts : dustmanlaw03_PlanParts.Pure := by
  intro l0 l1 a2 a3 a4 _ _ _ _ _ _ _ h3 h4
  have b3 := u8_bd h3
  have b4 := u8_bd h4
  refine Ev.rounds (g := fun k => dustmanlaw03_PlanParts.f k l0 l1 a2 a3 a4) (Ev.congr (fun k => by simp only [dustmanlaw03_PlanParts.f]; rfl) (Ev.bind awake_is ?_))
  have quick : Ev (fun k => dustmanlaw03_PlanParts.j0 k l0 l1 a2 a3 a4 true) true := Ev.step (f := fun _ => some true) (fun k => by simp only [dustmanlaw03_PlanParts.j0]; rw [if_pos trivial]) (Ev.now _)
  by_cases h : (l0.length : Int) > 40
  · exact Ev.congr (fun k => by rw [if_pos rfl, if_pos h]) quick
  by_cases h2 : (l1.length : Int) > 40
  · exact Ev.congr (fun k => by rw [if_pos rfl, if_neg h, decide_eq_true h2]) quick
  refine Ev.congr (fun k => by rw [if_pos rfl, if_neg h, decide_eq_false h2]) ?_
  have en : wrap64 (Int.tmod a3 5) = a3 % 5 := by rw [Int.tmod_eq_emod_of_nonneg (by omega), wrap_in (by omega) (by omega)]
  have ek : wrap64 ((wrap64 (Int.tmod a4 10)) + 1) = a4 % 10 + 1 := by rw [Int.tmod_eq_emod_of_nonneg (by omega), wrap_in (x := a4 % 10) (by omega) (by omega), wrap_in (by omega) (by omega)]
  generalize hn : a3 % 5 = n at *
  generalize hk : a4 % 10 + 1 = kk at *
  have hj := mxr_join a2 l0 l1
  have hla : (l0 ++ l1).length = l0.length + l1.length := List.length_append
  have g1 := gap_is l0 a2 (by omega)
  have g2 := gap_is l1 a2 (by omega)
  have g3 := gap_is (l0 ++ l1) a2 (by omega)
  have t1 := planwin_is l0 n kk (by omega) (by omega)
  have t2 := planwin_is l1 n kk (by omega) (by omega)
  have t3 := planwin_is (l0 ++ l1) n kk (by omega) (by omega)
  have m1 : ((mxr a2 (l0 ++ l1) : Nat) : Int) ≥ mx ((mxr a2 l0 : Nat) : Int) ((mxr a2 l1 : Nat) : Int) := by unfold mx; split <;> omega
  have m2 : ((mxr a2 (l0 ++ l1) : Nat) : Int) ≤ wrap64 (((mxr a2 l0 : Nat) : Int) + ((mxr a2 l1 : Nat) : Int)) := by
    have := (mxr_le a2 l0).2
    have := (mxr_le a2 l1).2
    rw [wrap_in (by omega) (by omega)]
    omega
  refine Ev.step (f := fun k => (plan_Gap.f k l0 a2).bind fun t198 => ((plan_Gap.f k l1 a2).bind fun t199 => ((plan_Gap.f k (l0 ++ l1) a2).bind fun t200 => ((plan_Windows.f k (l0 ++ l1) n kk).bind fun t201 => (if t200 ≥ (mx t198 t199) then (if t200 ≤ (wrap64 (t198 + t199)) then (if t201 = true then ((plan_Windows.f k l0 n kk).bind fun t202 => (if t202 = true then ((plan_Windows.f k l1 n kk).bind fun t203 => (some t203)) else (some false))) else (some true)) else (some false)) else (some false)))))) (fun k => ?_) (Ev.bind g1 (Ev.bind g2 (Ev.bind g3 ?_)))
  · simp only [dustmanlaw03_PlanParts.j0]
    rw [if_neg (by simp), if_pos (by simp; omega), en, ek]
    simp only [Option.bind_some, List.nil_append]
    rw [if_pos (by omega)]
  · by_cases hp : WinP (l0 ++ l1) n kk
    · have p1 := win_part l0 (l0 ++ l1) n kk (by omega) (fun v => (mxr_join v l0 l1).1) (by omega) hp
      have p2 := win_part l1 (l0 ++ l1) n kk (by omega) (fun v => (mxr_join v l0 l1).2.1) (by omega) hp
      refine Ev.bind (t3.yes hp) (Ev.congr (f := fun k => (plan_Windows.f k l0 n kk).bind fun t202 => (if t202 = true then ((plan_Windows.f k l1 n kk).bind fun t203 => (some t203)) else (some false))) (fun k => by rw [if_pos m1, if_pos m2, if_pos rfl]) (Ev.bind (t1.yes p1) (Ev.congr (f := fun k => (plan_Windows.f k l1 n kk).bind fun t203 => (some t203)) (fun k => by rw [if_pos rfl]) (Ev.bind (t2.yes p2) (Ev.now _)))))
    · exact Ev.bind (t3.no hp) (Ev.congr (f := fun _ => some true) (fun k => by rw [if_pos m1, if_pos m2, if_neg (by simp)]) (Ev.now _))

end Go.Proofs.Ythehejpagkbnmaa.Pure
