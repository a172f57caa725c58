/- In picks by turns each stretch of as many as there are has all, and each is picked as often as there are rounds; for every input. -/
import Derived.Test.YtlhlhlnfojgfgaaLem
namespace Go.Proofs.Ytlhlhlnfojgfgaa.Pure
open Go.RowKit Go.Proofs.Ytlhlhlnfojgfgaa.P Go.Proofs.YtlhlhlnfojgfgaaW.PrintWords Go.Proofs.YtlhlhlnfojgfgaaW.PrintLast Go.Proofs.YtlhlhlnfojgfgaaW.PrintMore

/-- How often one has been picked, behind i picks by turns from f on. -/
def many (n f : Int) (i : Nat) (w : Int) : Int := ((i : Int) + n - 1 - (w - f) % n) / n
theorem many_zero (n f w : Int) (hn : 1 ≤ n ∧ n ≤ 8) : many n f 0 w = 0 := by
  unfold many
  rcases (show n = 1 ∨ n = 2 ∨ n = 3 ∨ n = 4 ∨ n = 5 ∨ n = 6 ∨ n = 7 ∨ n = 8 by omega) with rfl | rfl | rfl | rfl | rfl | rfl | rfl | rfl <;> omega
theorem many_hit (n f w : Int) (i : Nat) (hn : 1 ≤ n ∧ n ≤ 8) (hw : (f + (i : Int)) % n = w) : many n f (i + 1) w = many n f i w + 1 := by
  unfold many
  rcases (show n = 1 ∨ n = 2 ∨ n = 3 ∨ n = 4 ∨ n = 5 ∨ n = 6 ∨ n = 7 ∨ n = 8 by omega) with rfl | rfl | rfl | rfl | rfl | rfl | rfl | rfl <;> omega
theorem many_miss (n f w : Int) (i : Nat) (hn : 1 ≤ n ∧ n ≤ 8) (h0 : 0 ≤ w ∧ w < n) (hw : (f + (i : Int)) % n ≠ w) : many n f (i + 1) w = many n f i w := by
  unfold many
  rcases (show n = 1 ∨ n = 2 ∨ n = 3 ∨ n = 4 ∨ n = 5 ∨ n = 6 ∨ n = 7 ∨ n = 8 by omega) with rfl | rfl | rfl | rfl | rfl | rfl | rfl | rfl <;> omega
theorem many_end (n f w : Int) (r : Int) (hr : 0 ≤ r) (hn : 1 ≤ n ∧ n ≤ 8) : many n f (n * r).toNat w = r := by
  unfold many
  rcases (show n = 1 ∨ n = 2 ∨ n = 3 ∨ n = 4 ∨ n = 5 ∨ n = 6 ∨ n = 7 ∨ n = 8 by omega) with rfl | rfl | rfl | rfl | rfl | rfl | rfl | rfl <;> omega
theorem turn_hits (n f w : Int) (i : Nat) (hn : 1 ≤ n ∧ n ≤ 8) (h0 : 0 ≤ w ∧ w < n) : ∃ j : Nat, i ≤ j ∧ (j : Int) < i + n ∧ (f + (j : Int)) % n = w := by
  refine ⟨i + ((w - f - i) % n).toNat, by omega, ?_, ?_⟩
  · have := Int.emod_lt_of_pos (w - f - i) (show 0 < n by omega)
    have := Int.emod_nonneg (w - f - i) (show n ≠ 0 by omega)
    omega
  · have e := Int.emod_nonneg (w - f - i) (show n ≠ 0 by omega)
    rw [show ((i + ((w - f - i) % n).toNat : Nat) : Int) = i + (w - f - i) % n by omega]
    rcases (show n = 1 ∨ n = 2 ∨ n = 3 ∨ n = 4 ∨ n = 5 ∨ n = 6 ∨ n = 7 ∨ n = 8 by omega) with rfl | rfl | rfl | rfl | rfl | rfl | rfl | rfl <;> omega
theorem turns_length (n f dr : Int) (m : Nat) : (turns n f dr m).length = m := by simp [turns]
theorem turns_at (n f dr : Int) (m i : Nat) (h : i < m) : (turns n f dr m).getD i z34 = ⟨(f + (i : Int)) % n, dr⟩ := by
  simp [turns, List.getD, h]
theorem wins_turns (n f dr : Int) (m : Nat) (hn : 1 ≤ n ∧ n ≤ 8) : Wins (whos (turns n f dr m)) n n.toNat := by
  intro i hi who h0 h1
  have hl : (whos (turns n f dr m)).length = m := by rw [whos, List.length_map, turns_length]
  rw [hl] at hi
  obtain ⟨j, hj0, hj1, hj⟩ := turn_hits n f who i hn ⟨h0, h1⟩
  rw [List.mem_iff_getElem]
  refine ⟨j - i, ?_, ?_⟩
  · rw [List.length_take, List.length_drop, hl]
    omega
  · rw [List.getElem_take, List.getElem_drop]
    simp only [whos, turns, List.getElem_map, List.getElem_range']
    rw [show ((0 + 1 * (i + (j - i)) : Nat) : Int) = j by omega]
    exact hj
theorem end_loop (n f dr r : Int) (m : Nat) (hm : m ≤ 1000) (hn : 1 ≤ n ∧ n ≤ 8) (x : List Int) (hx : x.length = n.toNat) (hc : ∀ w : Nat, (w : Int) < n → x.getD w 0 = r) : ∀ (d w : Nat), n.toNat - w = d → w ≤ n.toNat →
    Ev (fun k => dustmanlaw04_PicksTurns.l1 k n r (turns n f dr m) x (w : Int)) true := by
  intro d
  induction d with
  | zero =>
    intro w hd hw
    refine Ev.step (f := fun k => (picks_Who.f k (turns n f dr m)).bind fun t285 => ((dustmanref03_Windows.f k t285 n n).bind fun t288 => (some t288))) (fun k => ?_) ?_
    · simp only [dustmanlaw04_PicksTurns.l1]
      rw [if_neg (by omega)]
    · refine Ev.bind (who_is _ (by rw [turns_length]; omega)) (Ev.bind (a := true) ?_ (Ev.now _))
      have := wins_true (whos (turns n f dr m)) n n.toNat (by omega) (by rw [whos, List.length_map, turns_length]; omega) (by omega) (wins_turns n f dr m hn)
      rw [Int.toNat_of_nonneg (by omega)] at this
      exact this
  | succ d ih =>
    intro w hd hw
    refine Ev.step (fun k => ?_) (ih (w + 1) (by omega) (by omega))
    simp only [dustmanlaw04_PicksTurns.l1]
    rw [if_pos (by omega), if_pos (by omega), if_pos (by omega), rdn, if_pos (hc w (by omega)), wrap_in (by omega) (by omega), nat1]
theorem turn_loop (n f dr r : Int) (hr : 0 ≤ r ∧ r ≤ 20) (hn : 1 ≤ n ∧ n ≤ 8) : ∀ (d i : Nat) (x : List Int), (n * r).toNat - i = d → i ≤ (n * r).toNat → x.length = n.toNat → (∀ w : Nat, (w : Int) < n → x.getD w 0 = many n f i w) →
    Ev (fun k => dustmanlaw04_PicksTurns.l0 k dr n r (turns n f dr (n * r).toNat) x (i : Int)) true := by
  have hm : (n * r).toNat ≤ 1000 := by
    have := Int.mul_le_mul hn.2 hr.2 hr.1 (by omega)
    omega
  have hl := turns_length n f dr (n * r).toNat
  intro d
  induction d with
  | zero =>
    intro i x hd hi hx hc
    obtain rfl : i = (n * r).toNat := by omega
    refine Ev.step (fun k => ?_) (end_loop n f dr r (n * r).toNat hm hn x hx (fun w hw => by rw [hc w hw, many_end _ _ _ _ hr.1 hn]) n.toNat 0 (by omega) (by omega))
    simp only [dustmanlaw04_PicksTurns.l0]
    rw [if_neg (by omega)]
    rfl
  | succ d ih =>
    intro i x hd hi hx hc
    have hlt : i < (n * r).toNat := by omega
    have h0 := Int.emod_nonneg (f + (i : Int)) (show n ≠ 0 by omega)
    have h1 := Int.emod_lt_of_pos (f + (i : Int)) (show 0 < n by omega)
    obtain ⟨w, hw⟩ : ∃ w : Nat, (f + (i : Int)) % n = w := ⟨((f + (i : Int)) % n).toNat, by omega⟩
    have hb : many n f i w ≤ 100000 ∧ 0 ≤ many n f i w := by
      unfold many
      rcases (show n = 1 ∨ n = 2 ∨ n = 3 ∨ n = 4 ∨ n = 5 ∨ n = 6 ∨ n = 7 ∨ n = 8 by omega) with rfl | rfl | rfl | rfl | rfl | rfl | rfl | rfl <;> omega
    refine Ev.step (fun k => ?_) (ih (i + 1) (x.set w (many n f i w + 1)) (by omega) (by omega) (by rw [List.length_set, hx]) (fun v hv => ?_))
    · simp only [dustmanlaw04_PicksTurns.l0]
      rw [if_pos (by omega), if_pos (by omega), rd34, turns_at _ _ _ _ _ hlt]
      simp only []
      rw [hw, if_neg (by omega), if_neg (by omega), if_pos trivial, if_pos (by omega), if_pos (by omega), rdn, hc w (by omega), wrap_in (by omega) (by omega), wrap_in (by omega) (by omega), nat1, Int.toNat_natCast]
    · by_cases e : v = w
      · subst e
        rw [many_hit n f v i hn hw]
        have : v < x.length := by omega
        simp [List.getD, this]
      · rw [many_miss n f v i hn ⟨by omega, hv⟩ (by omega), ← hc v hv]
        simp [List.getD, Ne.symm e]

theorem PicksTurns : dustmanlaw04_PicksTurns.Pure := by
  intro a0 a1 a2 a3 w0 w1 _ _
  have b0 := u8_bd w0
  have b1 := u8_bd w1
  refine Ev.rounds ?_
  unfold dustmanlaw04_PicksTurns.f
  refine Ev.bind awake_is ?_
  have e0 : wrap64 (wrap64 (Int.tmod a0 8) + 1) = a0 % 8 + 1 := by rw [Int.tmod_eq_emod_of_nonneg (by omega), wrap_in (x := a0 % 8) (by omega) (by omega), wrap_in (by omega) (by omega)]
  have e1 : wrap64 (Int.tmod a1 20) = a1 % 20 := by rw [Int.tmod_eq_emod_of_nonneg (by omega), wrap_in (by omega) (by omega)]
  simp only [if_true, e0, e1]
  obtain ⟨n, hn⟩ : ∃ n, n = a0 % 8 + 1 := ⟨_, rfl⟩
  obtain ⟨r, hr⟩ : ∃ r, r = a1 % 20 := ⟨_, rfl⟩
  rw [← hn, ← hr]
  have hn8 : 1 ≤ n ∧ n ≤ 8 := by omega
  have hr20 : 0 ≤ r ∧ r ≤ 20 := by omega
  have hnr : n * r ≤ 10000 := by
    have := Int.mul_le_mul hn8.2 hr20.2 hr20.1 (by omega)
    omega
  have hd : Ev (fun k => picks_Round.f k n r a2 a3) (turns n (a2 % n) a3 (n * r).toNat) := by
    by_cases h : 1 ≤ r
    · exact round_some n r a2 a3 hn8.1 h hnr
    · obtain rfl : r = 0 := by omega
      rw [Int.mul_zero]
      exact round_none n 0 a2 a3 (by omega)
  refine Ev.bind hd ?_
  simp only [if_pos (show 0 ≤ n by omega), if_pos (show n.toNat ≤ 35184372088832 by omega)]
  exact turn_loop n (a2 % n) a3 r hr20 hn8 _ 0 _ rfl (by omega) (by simp) (fun w hw => by
    rw [many_zero _ _ _ hn8]
    have : w < n.toNat := by omega
    simp [List.getD, this])

end Go.Proofs.Ytlhlhlnfojgfgaa.Pure
