/- There are as many pieces of one slot as there are slots; of chunks that are no lesser there are no more pieces; of more slots no fewer; for every input. -/
import Derived.Test.YtmdgahnfekkdbaaLem
namespace Go.Proofs.Ytmdgahnfekkdbaa.Pure
open Go.RowKit Go.Proofs.Ytmdgahnfekkdbaa.P Go.Proofs.YtmdgahnfekkdbaaW.PrintWords Go.Proofs.YtmdgahnfekkdbaaW.PrintLast Go.Proofs.YtmdgahnfekkdbaaW.PrintMore

theorem cnt_up (s t c : Int) (h : s ≤ t) (hc : 1 ≤ c) : cnt s 0 c ≤ cnt t 0 c := by
  have one : ∀ x : Int, 0 < x → 1 ≤ (x - 0 + c - 1) / c := fun x hx => by
    rw [show x - 0 + c - 1 = (x - 1) + c from by omega, div_more _ _ hc]
    have := Int.ediv_nonneg (a := x - 1) (b := c) (by omega) (by omega)
    omega
  unfold cnt
  by_cases h1 : 0 < s
  · rw [if_pos h1, if_pos (by omega)]
    exact Int.ediv_le_ediv (by omega) (by omega)
  · rw [if_neg h1]
    split
    · exact one t (by omega)
    · exact Int.le_refl _
theorem cnt_wide (s c e : Int) (h : c ≤ e) (hc : 1 ≤ c) : cnt s 0 e ≤ cnt s 0 c := by
  unfold cnt
  by_cases h1 : 0 < s
  · rw [if_pos h1, if_pos h1, show s - 0 + e - 1 = (s - 1) + e from by omega, show s - 0 + c - 1 = (s - 1) + c from by omega, div_more _ _ hc, div_more _ _ (by omega)]
    have h2 : (s - 1) / e ≤ (s - 1) / c := by
      refine (Int.le_ediv_iff_mul_le (by omega)).2 ?_
      have h3 : (s - 1) / e * e ≤ s - 1 := Int.ediv_mul_le _ (by omega)
      have h4 : (s - 1) / e * c ≤ (s - 1) / e * e := Int.mul_le_mul_of_nonneg_left h (Int.ediv_nonneg (by omega) (by omega))
      omega
    omega
  · rw [if_neg h1, if_neg h1]
    exact Int.le_refl _
theorem cl_le {lo a b hi : Int} (h : a ≤ b) : cl lo a hi ≤ cl lo b hi := by
  unfold cl mn mx
  repeat' split
  all_goals omega

theorem RangesJoin : dustmanlaw10_RangesJoin.Pure := by
  intro a0 a1 a2 a3 w0 w1 w2 w3
  have b0 := u8_bd w0
  have b1 := u8_bd w1
  have b2 := u8_bd w2
  have b3 := u8_bd w3
  have hn : mn a2 a3 ≤ mx a2 a3 ∧ 0 ≤ mn a2 a3 ∧ mx a2 a3 ≤ 255 := by
    unfold mn mx
    split <;> split <;> omega
  have aw : dustmanlaw10_awake.f = some true := rfl
  refine ⟨5, ?_⟩
  unfold dustmanlaw10_RangesJoin.f
  rw [aw, Option.bind_some, if_pos rfl]
  rw [wrap_in (x := a0) (by omega) (by omega), wrap_in (x := a1) (by omega) (by omega), wrap_in (x := mx a2 a3) (by omega) (by omega), wrap_in (x := mn a2 a3) (by omega) (by omega), wrap_in (x := a0 + a1) (by omega) (by omega)]
  generalize mn a2 a3 = x at *
  generalize mx a2 a3 = y at *
  have hc : ∀ s c, ranges_Count.f s c = some ((pieces s c).length : Int) := fun _ _ => rfl
  have e0 : cl 0 a0 1000 = a0 := cl_in 0 a0 1000 (by omega) (by omega)
  have e1 : cl 0 (a0 + a1) 1000 = a0 + a1 := cl_in 0 _ 1000 (by omega) (by omega)
  have bx := cl_bd 1 x 1000 (by omega)
  have hxy : cl 1 x 1000 ≤ cl 1 y 1000 := cl_le (by omega)
  have p1 : ((pieces a0 1).length : Int) = mx a0 1 := by
    rw [pieces_cnt, e0, cl_in 1 1 1000 (by omega) (by omega)]
    unfold cnt mx
    rw [show a0 - 0 + 1 - 1 = a0 from by omega, Int.ediv_one]
    split <;> split <;> omega
  have p2 : ((pieces a0 y).length : Int) ≤ ((pieces a0 x).length : Int) := by
    rw [pieces_cnt, pieces_cnt, e0]
    exact cnt_wide _ _ _ hxy (by omega)
  have p3 : ((pieces a0 x).length : Int) ≤ ((pieces (a0 + a1) x).length : Int) := by
    rw [pieces_cnt, pieces_cnt, e0, e1]
    exact cnt_up _ _ _ (by omega) (by omega)
  have q1 := pieces_le a0 x
  have q2 := pieces_le (a0 + a1) x
  have hw : wrap64 (((pieces a0 x).length : Int) + ((pieces (a0 + a1) x).length : Int)) = ((pieces a0 x).length : Int) + ((pieces (a0 + a1) x).length : Int) := wrap_in (by omega) (by omega)
  have hm : ranges_Most.f 5 [a0, a0 + a1] x = some (((pieces a0 x).length : Int) + ((pieces (a0 + a1) x).length : Int)) := by
    rw [most_is _ _ (by simp) 5 (by simp)]
    show some (((pieces a0 x).length : Int) + (((pieces (a0 + a1) x).length : Int) + 0)) = _
    rw [Int.add_zero]
  rw [hc, Option.bind_some, if_pos p1, hc, Option.bind_some, hc, Option.bind_some, if_pos p2, hc, Option.bind_some, Option.bind_some, if_pos p3, hm, Option.bind_some, Option.bind_some, Option.bind_some, hw]
  simp

end Go.Proofs.Ytmdgahnfekkdbaa.Pure
