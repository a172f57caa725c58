/- In picks that leave nobody out each stretch of twice as many as there are, and 1, has all; the picks that were handed in come in their order; for every input. -/
import Derived.Test.YtlhlhlnfojgfgaaLem2
namespace Go.Proofs.Ytlhlhlnfojgfgaa.Pure
open Go.RowKit Go.Proofs.Ytlhlhlnfojgfgaa.P Go.Proofs.YtlhlhlnfojgfgaaW.PrintWords Go.Proofs.YtlhlhlnfojgfgaaW.PrintLast Go.Proofs.YtlhlhlnfojgfgaaW.PrintMore

theorem sub_fair (n : Nat) (l : List S34) : l.Sublist (fairL n l) := by
  induction l with
  | nil => simp [fairL]
  | cons p l ih =>
    have e : fairL n (p :: l) = p :: (oth p 0 n ++ fairL n l) := by simp [fairL, seg]
    rw [e]
    exact List.Sublist.cons_cons p (ih.trans (List.sublist_append_right _ _))
theorem sub_skip {a b : S34} {l m : List S34} (h : (a :: l).Sublist (b :: m)) (hne : b ≠ a) : (a :: l).Sublist m := by
  cases h with
  | cons _ h2 => exact h2
  | cons_cons _ h2 => exact absurd rfl hne
theorem pick_eq (p q : S34) (h : (p.f0 == q.f0 && (p.f1 == q.f1)) = true) : p = q := by
  rw [Bool.and_eq_true, beq_iff_eq, beq_iff_eq] at h
  cases p
  cases q
  simp_all
theorem greedy (l f : List S34) (n : Nat) (hl : l.length ≤ 60) (hf : f.length ≤ 100000)
    (last : Ev (fun k => (picks_Who.f k f).bind fun t297 => ((dustmanref03_Windows.f k t297 n (wrap64 ((wrap64 (2 * (n : Int))) + 1))).bind fun t300 => (if t300 = true then ((picks_Who.f k f).bind fun t301 => ((plan_Windows.f k t301 n (wrap64 ((wrap64 (2 * (n : Int))) + 1))).bind fun t304 => (some t304))) else (some false)))) true) :
    ∀ (d i q : Nat), f.length - i = d → i ≤ f.length → q ≤ l.length → (l.drop q).Sublist (f.drop i) → Ev (fun k => dustmanlaw04_PicksFair.l0 k l n f (q : Int) (i : Int)) true := by
  have fin : ∀ i : Nat, Ev (fun k => dustmanlaw04_PicksFair.j1 k l n f (l.length : Int) (i : Int) false) true := fun i => by
    refine Ev.step (fun k => ?_) last
    simp only [dustmanlaw04_PicksFair.j1]
    rw [if_neg (by simp), if_pos trivial]
  intro d
  induction d with
  | zero =>
    intro i q hd hi hq hs
    rw [List.drop_eq_nil_of_le (show f.length ≤ i by omega)] at hs
    have h0 := List.Sublist.length_le hs
    rw [List.length_drop, List.length_nil] at h0
    obtain rfl : q = l.length := by omega
    refine Ev.step (fun k => ?_) (fin i)
    simp only [dustmanlaw04_PicksFair.l0]
    rw [if_neg (by omega)]
  | succ d ih =>
    intro i q hd hi hq hs
    have hlt : i < f.length := by omega
    by_cases h : q < l.length
    · rw [drop_cons l z34 q h, drop_cons f z34 i hlt] at hs
      refine Ev.step (f := fun k => dustmanlaw04_PicksFair.j1 k l n f (q : Int) (i : Int) true) (fun k => ?_) ?_
      · simp only [dustmanlaw04_PicksFair.l0]
        rw [if_pos (by omega), decide_eq_true (by omega)]
      · by_cases e : ((f.getD i z34).f0 == (l.getD q z34).f0 && ((f.getD i z34).f1 == (l.getD q z34).f1)) = true
        · rw [pick_eq _ _ e] at hs
          refine Ev.step (fun k => ?_) (ih (i + 1) (q + 1) (by omega) (by omega) (by omega) (List.cons_sublist_cons.1 hs))
          simp only [dustmanlaw04_PicksFair.j1]
          rw [if_pos trivial, if_pos (by omega), if_pos (by omega), if_pos (by omega), if_pos (by omega), rd34, rd34, if_pos e, wrap_in (by omega) (by omega), wrap_in (by omega) (by omega), nat1, nat1]
        · have hs2 : (l.drop q).Sublist (f.drop (i + 1)) := by
            rw [drop_cons l z34 q h]
            exact sub_skip hs (fun e2 => e (by rw [e2]; simp))
          refine Ev.step (fun k => ?_) (ih (i + 1) q (by omega) (by omega) (by omega) hs2)
          simp only [dustmanlaw04_PicksFair.j1]
          rw [if_pos trivial, if_pos (by omega), if_pos (by omega), if_pos (by omega), if_pos (by omega), rd34, rd34, if_neg e, wrap_in (by omega) (by omega), nat1]
    · obtain rfl : q = l.length := by omega
      refine Ev.step (fun k => ?_) (fin i)
      simp only [dustmanlaw04_PicksFair.l0]
      rw [if_pos (by omega), decide_eq_false (by omega)]
theorem PicksFair : ∀ (l : List S34) (a1 : Int), (Lit.int .u8 a1).wf = true → ∃ k, dustmanlaw04_PicksFair.f k l a1 = some true := by
  intro l a1 w1
  have b1 := u8_bd w1
  refine Ev.rounds ?_
  unfold dustmanlaw04_PicksFair.f
  refine Ev.bind awake_is ?_
  simp only [if_true]
  by_cases h : (l.length : Int) > 60
  · simp only [if_pos h]
    exact Ev.now _
  · simp only [if_neg h]
    have e1 : wrap64 (wrap64 (Int.tmod a1 6) + 1) = ((a1 % 6 + 1).toNat : Nat) := by
      rw [Int.tmod_eq_emod_of_nonneg (by omega), wrap_in (x := a1 % 6) (by omega) (by omega), wrap_in (by omega) (by omega)]
      omega
    obtain ⟨n, hn⟩ : ∃ n : Nat, n = (a1 % 6 + 1).toNat := ⟨_, rfl⟩
    have hn6 : 1 ≤ n ∧ n ≤ 6 := by omega
    simp only [e1]
    rw [← hn]
    have hN : mn (mx (n : Int) 0) 16 = n := by
      unfold mn mx
      split <;> split <;> omega
    have hf := fairL_length n l
    have hfl : (fairL n l).length ≤ 100000 := by
      have : l.length * (n + 1) ≤ 60 * 7 := Nat.mul_le_mul (by omega) (by omega)
      omega
    have hwl : (whos (fairL n l)).length ≤ 1000000 := by rw [whos, List.length_map]; omega
    refine Ev.bind (fair_is l n n hN (by omega) (by omega)) ?_
    refine greedy l (fairL n l) n (by omega) hfl ?_ (fairL n l).length 0 0 (by omega) (by omega) (by omega) (by simpa using sub_fair n l)
    have e2 : wrap64 (wrap64 (2 * (n : Int)) + 1) = ((2 * n + 1 : Nat) : Int) := by
      rw [wrap_in (x := 2 * (n : Int)) (by omega) (by omega), wrap_in (by omega) (by omega)]
      omega
    simp only [e2]
    have hw := wins_fair n l
    refine Ev.bind (who_is _ (by omega)) (Ev.bind (wins_true _ n (2 * n + 1) (by omega) hwl (by omega) hw) ?_)
    simp only [if_true]
    exact Ev.bind (who_is _ (by omega)) (Ev.bind (planwin_is _ n (2 * n + 1) (by omega) (by omega) (by omega) hwl hw) (Ev.now _))

end Go.Proofs.Ytlhlhlnfojgfgaa.Pure
