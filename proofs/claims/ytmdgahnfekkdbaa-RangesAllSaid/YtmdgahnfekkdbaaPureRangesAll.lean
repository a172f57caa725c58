/- Pieces stand one behind the other, from the first slot to the last one, each but the last one as long as a chunk, none empty, but for a single one; for every input. -/
import Derived.Test.YtmdgahnfekkdbaaLem
namespace Go.Proofs.Ytmdgahnfekkdbaa.Pure
open Go.RowKit Go.Proofs.Ytmdgahnfekkdbaa.P Go.Proofs.YtmdgahnfekkdbaaW.PrintWords Go.Proofs.YtmdgahnfekkdbaaW.PrintLast Go.Proofs.YtmdgahnfekkdbaaW.PrintMore

theorem all_loop (s c : Int) (h0 : 0 ≤ s) (h1 : s ≤ 255) (c0 : 1 ≤ c) (c1 : c ≤ 255) : ∀ (d : Nat) (k : Nat) (i : Nat), (pcs s c 1001 0).length - i = d → i ≤ (pcs s c 1001 0).length → d < k →
    dustmanlaw10_RangesAll.l0 k s c (pcs s c 1001 0) (mn (i * c) s) (i : Int) = some true := by
  have hends := pcs_ends s c c0 1000 0 h0 (by omega)
  have hlen := pcs_len s c 1001 0
  have hat := pcs_at s c c0 1001 0
  have hpos : 0 < (pcs s c 1001 0).length := by rw [pcs]; simp
  rw [show (1000 + 1 : Nat) = 1001 from rfl] at hends
  generalize pcs s c 1001 0 = l at *
  have mnd : ∀ x : Int, mn x s = if s < x then s else x := fun _ => rfl
  intro d
  induction d with
  | zero =>
    intro k i hd hi hk
    obtain ⟨k, rfl⟩ : ∃ m, k = m + 1 := ⟨k - 1, by omega⟩
    obtain rfl : i = l.length := by omega
    simp only [dustmanlaw10_RangesAll.l0]
    have e : mn ((l.length : Int) * c) s = s := by
      rw [mnd]
      have := hends.2
      split <;> omega
    rw [if_neg (by omega), if_pos e]
    simp [hpos]
  | succ d ih =>
    intro k i hd hi hk
    obtain ⟨k, rfl⟩ : ∃ m, k = m + 1 := ⟨k - 1, by omega⟩
    have hlt : i < l.length := by omega
    have er : rd_T24 l (i : Int) = ⟨i * c, mn ((i + 1) * c) s⟩ := by
      unfold rd_T24
      rw [Int.toNat_natCast, hat i h0 hlt]
      simp
    have hic : (i : Int) * c = 0 ∨ (i : Int) * c < s := by
      cases i with
      | zero => left; simp
      | succ j =>
        right
        have := hends.1 j hlt
        push_cast
        omega
    have hic0 : 0 ≤ (i : Int) * c := Int.mul_nonneg (by omega) (by omega)
    have hi1 : ((i : Int) + 1) * c = i * c + c := by rw [Int.add_mul]; omega
    have e0 : mn ((i : Int) * c) s = i * c := by
      rw [mnd]
      split <;> omega
    have ihh := ih k (i + 1) (by omega) (by omega) (by omega)
    rw [show (((i + 1 : Nat) : Int)) = (i : Int) + 1 from by omega] at ihh
    simp only [dustmanlaw10_RangesAll.l0]
    rw [er, e0, if_pos (by omega), if_pos (by omega)]
    simp only []
    rw [if_pos trivial, wrap_in (x := (l.length : Int) - 1) (by omega) (by omega), wrap_in (x := (i : Int) * c + c) (by omega) (by omega), wrap_in (x := (i : Int) + 1) (by omega) (by omega)]
    have hm := mnd (((i : Int) + 1) * c)
    rw [hi1] at hm ihh ⊢
    rw [if_neg (by rw [hm]; split <;> omega)]
    by_cases hlast : (i : Int) < (l.length : Int) - 1
    · have := hends.1 i (by omega)
      rw [if_pos hlast, if_pos (by rw [hm, if_neg (by omega)]), if_neg (by rw [hm]; split <;> omega), if_neg (by rw [hm]; split <;> omega)]
      exact ihh
    · rw [if_neg hlast, if_neg (by rw [hm]; split <;> omega)]
      by_cases hz : mn ((i : Int) * c + c) s = i * c
      · rw [if_pos hz, if_neg (by rw [hm] at hz; split at hz <;> omega)]
        exact ihh
      · rw [if_neg hz]
        exact ihh

theorem RangesAll : dustmanlaw10_RangesAll.Pure := by
  intro a0 a1 w0 w1
  have b0 := u8_bd w0
  have b1 := u8_bd w1
  have em : 1 ≤ mx a1 1 ∧ mx a1 1 ≤ 255 := by
    unfold mx
    split <;> omega
  refine ⟨2000, ?_⟩
  unfold dustmanlaw10_RangesAll.f
  have aw : dustmanlaw10_awake.f = some true := rfl
  have ea : ranges_All.f a0 (mx a1 1) = some (pcs a0 (mx a1 1) 1001 0) := by
    unfold ranges_All.f pieces
    rw [cl_in 0 a0 1000 (by omega) (by omega), cl_in 1 (mx a1 1) 1000 (by omega) (by omega)]
  rw [aw, Option.bind_some, if_pos rfl, wrap_in (x := a0) (by omega) (by omega), wrap_in (x := a1) (by omega) (by omega), ea, Option.bind_some]
  have hl := pcs_len a0 (mx a1 1) 1001 0
  have := all_loop a0 (mx a1 1) b0.1 b0.2 em.1 em.2 (pcs a0 (mx a1 1) 1001 0).length 2000 0 (by omega) (by omega) (by omega)
  have e0 : mn (((0 : Nat) : Int) * mx a1 1) a0 = 0 := by
    unfold mn
    simp only [Int.ofNat_zero, Int.zero_mul]
    rw [if_neg (by omega)]
  rw [e0] at this
  exact this

end Go.Proofs.Ytmdgahnfekkdbaa.Pure
