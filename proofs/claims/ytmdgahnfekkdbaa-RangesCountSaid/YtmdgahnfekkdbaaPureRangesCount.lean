/- How many pieces there are, and how many tasks of some nodes, are the document's; for every input. -/
import Derived.Test.YtmdgahnfekkdbaaLem
namespace Go.Proofs.Ytmdgahnfekkdbaa.Pure
open Go.RowKit Go.Proofs.Ytmdgahnfekkdbaa.P Go.Proofs.YtmdgahnfekkdbaaW.PrintWords Go.Proofs.YtmdgahnfekkdbaaW.PrintLast Go.Proofs.YtmdgahnfekkdbaaW.PrintMore

theorem awake_is : dustmanlaw10_awake.f = some true := rfl
theorem count_loop (a0 a1 : Int) (l : List Int) (hl : l.length ≤ 100) : ∀ (d : Nat) (k : Nat) (x : Int) (i : Nat), l.length - i = d → i ≤ l.length → d + 200 < k → 0 ≤ x → x + most (l.drop i) a1 = most l a1 →
    dustmanlaw10_RangesCount.l0 k a0 a1 l x (i : Int) = some true := by
  intro d
  have hb := most_bd l a1
  induction d with
  | zero =>
    intro k x i hd hi hk hx hs
    obtain ⟨k, rfl⟩ : ∃ m, k = m + 1 := ⟨k - 1, by omega⟩
    simp only [dustmanlaw10_RangesCount.l0]
    rw [if_neg (by omega), ref_count]
    have e0 : ranges_Count.f a0 a1 = some ((pieces a0 a1).length : Int) := rfl
    have e1 : ranges_All.f a0 a1 = some (pieces a0 a1) := rfl
    rw [e0, e1, Option.bind_some, Option.bind_some, if_pos rfl, Option.bind_some, Option.bind_some, if_pos rfl, most_is l a1 hl k (by omega), Option.bind_some]
    rw [show i = l.length from by omega, List.drop_length] at hs
    have e2 : most ([] : List Int) a1 = 0 := rfl
    rw [← hs, e2]
    simp
  | succ d ih =>
    intro k x i hd hi hk hx hs
    obtain ⟨k, rfl⟩ : ∃ m, k = m + 1 := ⟨k - 1, by omega⟩
    have hlt : i < l.length := by omega
    have hm := most_drop l a1 i hlt
    have hb2 := most_bd (l.drop (i + 1)) a1
    simp only [dustmanlaw10_RangesCount.l0]
    have er : rd l (i : Int) = l.getD i 0 := by unfold rd; rw [Int.toNat_natCast]
    rw [if_pos (by omega), if_pos (by omega), er, ref_count, Option.bind_some, wrap_in (by omega) (by omega), wrap_in (by omega) (by omega)]
    have := ih k (x + ((pieces (l.getD i 0) a1).length : Int)) (i + 1) (by omega) (by omega) (by omega) (by omega) (by omega)
    rw [show ((i : Int) + 1) = ((i + 1 : Nat) : Int) from by omega, this]

theorem RangesCount : dustmanlaw10_RangesCount.Pure := by
  intro a0 a1 l _ _ _ _ _
  refine ⟨l.length + 300, ?_⟩
  unfold dustmanlaw10_RangesCount.f
  rw [awake_is, Option.bind_some, if_pos rfl]
  by_cases h : (l.length : Int) > 100
  · rw [if_pos h]
  · rw [if_neg h]
    exact count_loop a0 a1 l (by omega) l.length _ 0 0 (by omega) (by omega) (by omega) (by omega) (by simp)

end Go.Proofs.Ytmdgahnfekkdbaa.Pure
