/- The picks of two texts of bytes, the first one of an even number, are those of the one, and those of the other; for every input. -/
import Derived.Test.YtlhlhlnfojgfgaaLem
namespace Go.Proofs.Ytlhlhlnfojgfgaa.Pure
open Go.RowKit Go.Proofs.Ytlhlhlnfojgfgaa.P Go.Proofs.YtlhlhlnfojgfgaaW.PrintWords Go.Proofs.YtlhlhlnfojgfgaaW.PrintLast Go.Proofs.YtlhlhlnfojgfgaaW.PrintMore

theorem join_loop (l : List S34) (hl : l.length ≤ 1000) : ∀ (d i : Nat), l.length - i = d → i ≤ l.length → Ev (fun k => dustmanlaw04_PicksJoin.l0 k l l (i : Int)) true := by
  intro d
  induction d with
  | zero =>
    intro i hd hi
    exact Ev.step (f := fun _ => some true) (fun k => by simp only [dustmanlaw04_PicksJoin.l0]; rw [if_neg (by omega)]) (Ev.now _)
  | succ d ih =>
    intro i hd hi
    have hlt : i < l.length := by omega
    refine Ev.step (fun k => ?_) (ih (i + 1) (by omega) (by omega))
    simp only [dustmanlaw04_PicksJoin.l0]
    rw [if_pos (by omega), if_pos (by omega), if_pos (by omega), if_neg (by simp), wrap_in (by omega) (by omega), nat1]

theorem PicksJoin : dustmanlaw04_PicksJoin.Pure := by
  intro x y a _ _ _ _ _ _ _
  refine Ev.rounds ?_
  have stop : Ev (fun k => dustmanlaw04_PicksJoin.j0 k x y a true) true := Ev.step (f := fun _ => some true) (fun k => by simp only [dustmanlaw04_PicksJoin.j0]; rw [if_pos trivial]) (Ev.now _)
  unfold dustmanlaw04_PicksJoin.f
  refine Ev.bind awake_is ?_
  simp only [if_true]
  by_cases hx : (x.length : Int) > 200
  · simp only [if_pos hx]
    exact stop
  · by_cases hy : (y.length : Int) > 200
    · simp only [if_neg hx, if_pos hy]
      exact stop
    · simp only [if_neg hx, if_neg hy]
      by_cases hm : (x.length : Int) % 2 = 0
      · have e : (((x.length : Int) % 2) != 0) = false := by rw [hm]; rfl
        simp only [e]
        have dx := dec_length a x
        have dy := dec_length a y
        have hj := dec_join a x y (by omega)
        refine Ev.step (fun k => ?_) (join_loop (dec a (x ++ y)) (by rw [hj, List.length_append]; omega) _ 0 rfl (by omega))
        simp only [dustmanlaw04_PicksJoin.j0]
        rw [if_neg (by simp), if_pos (by simp only [List.length_nil]; omega), Option.bind_some, List.nil_append, if_pos (by omega), dec_is _ _ (by omega), Option.bind_some, dec_is _ _ (by omega), Option.bind_some, if_pos (by omega),
          Option.bind_some, dec_is _ _ (by rw [List.length_append]; omega), Option.bind_some, ← hj, if_pos rfl]
        rfl
      · have e : (((x.length : Int) % 2) != 0) = true := by simpa using hm
        simp only [e]
        exact stop

end Go.Proofs.Ytlhlhlnfojgfgaa.Pure
