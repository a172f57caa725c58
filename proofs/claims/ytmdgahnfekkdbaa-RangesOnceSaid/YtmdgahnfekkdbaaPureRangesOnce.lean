/- Each slot is in one piece, and there are no more pieces than one and the next whole number of slots by chunk; for every input. -/
import Derived.Test.YtmdgahnfekkdbaaLem
namespace Go.Proofs.Ytmdgahnfekkdbaa.Pure
open Go.RowKit Go.Proofs.Ytmdgahnfekkdbaa.P Go.Proofs.YtmdgahnfekkdbaaW.PrintWords Go.Proofs.YtmdgahnfekkdbaaW.PrintLast Go.Proofs.YtmdgahnfekkdbaaW.PrintMore

theorem once_loop (x s c : Int) (h0 : 0 ≤ s) (h1 : s ≤ 255) (c0 : 0 ≤ c) (c1 : c ≤ 255) (x0 : 0 ≤ x) (x1 : x ≤ 255) : ∀ (d : Nat) (k : Nat) (i : Nat), (pcs s (mx c 1) 1001 0).length - i = d → i ≤ (pcs s (mx c 1) 1001 0).length → d < k →
    dustmanlaw10_RangesOnce.l0 k x s c (pcs s (mx c 1) 1001 0) (if x < mn (i * mx c 1) s then 1 else 0) (i : Int) = some true := by
  have hc1 : 1 ≤ mx c 1 ∧ mx c 1 ≤ 255 := by
    unfold mx
    split <;> omega
  have hends := pcs_ends s (mx c 1) hc1.1 1000 0 h0 (by omega)
  have hlen := pcs_len s (mx c 1) 1001 0
  have hat := pcs_at s (mx c 1) hc1.1 1001 0
  have hcnt := pcs_cnt s (mx c 1) hc1.1 1000 0 h0 (by omega)
  have hpos : 0 < (pcs s (mx c 1) 1001 0).length := by rw [pcs]; simp
  rw [show (1000 + 1 : Nat) = 1001 from rfl] at hends hcnt
  generalize pcs s (mx c 1) 1001 0 = l at *
  have wx : wrap64 x = x := wrap_in (by omega) (by omega)
  generalize hc : mx c 1 = e at *
  have mnd : ∀ y : Int, mn y s = if s < y then s else y := fun _ => rfl
  intro d
  induction d with
  | zero =>
    intro k i hd hi hk
    obtain ⟨k, rfl⟩ : ∃ m, k = m + 1 := ⟨k - 1, by omega⟩
    obtain rfl : i = l.length := by omega
    simp only [dustmanlaw10_RangesOnce.l0]
    have em : mn ((l.length : Int) * e) s = s := by
      rw [mnd]
      have := hends.2
      split <;> omega
    rw [if_neg (by omega), em, wx, hc]
    by_cases hx : x < s
    · have hq : 0 ≤ (s + e - 1) / e ∧ (s + e - 1) / e ≤ 2000 := ⟨Int.ediv_nonneg (by omega) (by omega), Int.le_trans (Int.ediv_le_self _ (by omega)) (by omega)⟩
      rw [if_pos hx, if_pos rfl, if_pos hx, if_neg (by omega), wrap_in (x := s + e) (by omega) (by omega), wrap_in (x := s + e - 1) (by omega) (by omega), Int.tdiv_eq_ediv_of_nonneg (by omega), wrap_in (x := (s + e - 1) / e) (by omega) (by omega), wrap_in (by omega) (by omega)]
      have hle : (l.length : Int) ≤ 1 + (s + e - 1) / e := by
        rw [hcnt]
        unfold cnt
        split
        · rw [show s - 0 + e - 1 = s + e - 1 from by omega]
          omega
        · omega
      rw [if_pos hle]
    · rw [if_neg hx, if_neg (by omega), if_pos rfl, decide_eq_true (by omega)]
  | succ d ih =>
    intro k i hd hi hk
    obtain ⟨k, rfl⟩ : ∃ m, k = m + 1 := ⟨k - 1, by omega⟩
    have hlt : i < l.length := by omega
    have er : rd_T24 l (i : Int) = ⟨i * e, mn ((i + 1) * e) s⟩ := by
      unfold rd_T24
      rw [Int.toNat_natCast, hat i h0 hlt]
      simp
    have hic : (i : Int) * e = 0 ∨ (i : Int) * e < s := by
      cases i with
      | zero => left; simp
      | succ j =>
        right
        have := hends.1 j hlt
        push_cast
        omega
    have hic0 : 0 ≤ (i : Int) * e := Int.mul_nonneg (by omega) (by omega)
    have hi1 : ((i : Int) + 1) * e = i * e + e := by rw [Int.add_mul]; omega
    have e0 : mn ((i : Int) * e) s = i * e := by
      rw [mnd]
      split <;> omega
    have ihh := ih k (i + 1) (by omega) (by omega) (by omega)
    rw [show (((i + 1 : Nat) : Int)) = (i : Int) + 1 from by omega] at ihh
    have hm := mnd (((i : Int) + 1) * e)
    simp only [dustmanlaw10_RangesOnce.l0]
    rw [er, e0, if_pos (by omega), if_pos (by omega), wx, wrap_in (x := (i : Int) + 1) (by omega) (by omega)]
    simp only []
    rw [hi1] at hm ihh ⊢
    by_cases ha : (i : Int) * e ≤ x
    · rw [if_pos ha, if_neg (show ¬ x < (i : Int) * e by omega)]
      by_cases hb : x < mn ((i : Int) * e + e) s
      · rw [if_pos hb] at ihh ⊢
        rw [wrap_in (by omega) (by omega)]
        exact ihh
      · rw [if_neg hb] at ihh ⊢
        exact ihh
    · rw [if_neg ha, if_pos (show x < (i : Int) * e by omega)]
      rw [if_pos (show x < mn ((i : Int) * e + e) s by rw [hm]; split <;> omega)] at ihh
      exact ihh

theorem RangesOnce : dustmanlaw10_RangesOnce.Pure := by
  intro a0 a1 a2 w0 w1 w2
  have b0 := u8_bd w0
  have b1 := u8_bd w1
  have b2 := u8_bd w2
  refine ⟨2000, ?_⟩
  unfold dustmanlaw10_RangesOnce.f
  have aw : dustmanlaw10_awake.f = some true := rfl
  have ec : cl 1 a1 1000 = mx a1 1 := by
    unfold cl mn mx
    repeat' split
    all_goals omega
  have ea : ranges_All.f a0 a1 = some (pcs a0 (mx a1 1) 1001 0) := by
    unfold ranges_All.f pieces
    rw [cl_in 0 a0 1000 (by omega) (by omega), ec]
  rw [aw, Option.bind_some, if_pos rfl, wrap_in (x := a0) (by omega) (by omega), wrap_in (x := a1) (by omega) (by omega), ea, Option.bind_some]
  have hl := pcs_len a0 (mx a1 1) 1001 0
  have := once_loop a2 a0 a1 b0.1 b0.2 b1.1 b1.2 b2.1 b2.2 (pcs a0 (mx a1 1) 1001 0).length 2000 0 (by omega) (by omega) (by omega)
  have e0 : mn (((0 : Nat) : Int) * mx a1 1) a0 = 0 := by
    unfold mn
    simp only [Int.ofNat_zero, Int.zero_mul]
    rw [if_neg (by omega)]
  rw [e0, if_neg (by omega)] at this
  exact this

end Go.Proofs.Ytmdgahnfekkdbaa.Pure
