/- The piece that begins at any slot, of any number of slots, by any chunk, and whether there is one behind it, are the document's; for every input. -/
import Derived.Test.YtmdgahnfekkdbaaLem
namespace Go.Proofs.Ytmdgahnfekkdbaa.Pure
open Go.RowKit Go.Proofs.Ytmdgahnfekkdbaa.P Go.Proofs.YtmdgahnfekkdbaaW.PrintWords Go.Proofs.YtmdgahnfekkdbaaW.PrintLast Go.Proofs.YtmdgahnfekkdbaaW.PrintMore

theorem RangesNext : dustmanlaw10_RangesNext.Pure := by
  intro a0 a1 a2 _ _ _
  have b0 := cl_bd 0 a0 1000 (by omega)
  have b2 := cl_bd 1 a2 1000 (by omega)
  have b1 := cl_bd 0 a1 (cl 0 a0 1000) b0.1
  have e2 : wrap64 (cl 0 a1 (cl 0 a0 1000) + cl 1 a2 1000) = cl 0 a1 (cl 0 a0 1000) + cl 1 a2 1000 := wrap_in (by omega) (by omega)
  have n : ranges_Next.f a0 a1 a2 = some (cl 0 a1 (cl 0 a0 1000), cl 0 (cl 0 a1 (cl 0 a0 1000) + cl 1 a2 1000) (cl 0 a0 1000), decide (cl 0 (cl 0 a1 (cl 0 a0 1000) + cl 1 a2 1000) (cl 0 a0 1000) < cl 0 a0 1000)) := by
    show ((some (cl 0 a0 1000)).bind fun t102 => ((ranges_bound_int.f 0 a1 t102).bind fun t103 => ((some (cl 1 a2 1000)).bind fun t104 => ((ranges_bound_int.f 0 (wrap64 (t103 + t104)) t102).bind fun t105 => (some (t103, t105, decide (t105 < t102))))))) = _
    have e3 : ranges_bound_int.f 0 a1 (cl 0 a0 1000) = some (cl 0 a1 (cl 0 a0 1000)) := rfl
    simp only [Option.bind_some, e3, e2]
    rfl
  have t : dustmanref10_To.f a0 a1 a2 = some (cl 0 (cl 0 a1 (cl 0 a0 1000) + cl 1 a2 1000) (cl 0 a0 1000)) := by
    unfold dustmanref10_To.f
    rw [ref_bound _ _ _ (by omega), Option.bind_some, ref_bound _ _ _ b0.1, Option.bind_some, ref_bound _ _ _ (by omega), Option.bind_some, e2, ref_bound _ _ _ b0.1, Option.bind_some]
  have m0 : mn (mx a0 0) 1000 = cl 0 a0 1000 := by
    unfold cl mn mx
    repeat' split
    all_goals omega
  have m1 : mn (mx a1 0) (cl 0 a0 1000) = cl 0 a1 (cl 0 a0 1000) := by
    generalize cl 0 a0 1000 = s at *
    unfold cl mn mx
    repeat' split
    all_goals omega
  unfold dustmanlaw10_RangesNext.f dustmanlaw10_awake.f
  rw [Option.bind_some, if_pos rfl, n, Option.bind_some, t, Option.bind_some, m0, m1]
  simp

end Go.Proofs.Ytmdgahnfekkdbaa.Pure
