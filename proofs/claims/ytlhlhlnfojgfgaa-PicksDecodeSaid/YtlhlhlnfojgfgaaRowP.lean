/- An argument that is a slice of picks: it reads as a list of pairs of whole numbers. -/
import Derived.Test.YtlhlhlnfojgfgaaRows
import Derived.Test.YtlhlhlnfojgfgaaPx0
import Derived.Deep.SlicePairs
import Derived.ChangeArms
import Derived.WalkKit
import Derived.ProofKit
namespace Go.Proofs.Ytlhlhlnfojgfgaa.P
open Go.ChangeShapes Go.WideShapes Go.ChangeAt Go.RowKit Go.Proofs.YtlhlhlnfojgfgaaW.PrintWords

theorem open_picks {H : Type} {enc : TypeId × Value → H} {W : World} {fuel : Nat} {a : Option Addr} {len cap : Nat} {x : DataW H × List MemPlace}
    (h : DataW.trod enc Try.prog W 0 (fun _ => true) true fuel 23 [.slice a len cap] = some x) :
    ∃ l : List S34, len = l.length ∧ l.length ≤ cap ∧ Kd.C k34 W a l.length l := by
  rcases Go.Deep.open_slice_pairs Try.underlying23 Try.underlying34 (by kernel_rfl) rfl rfl (by kernel_rfl) (by kernel_rfl) h with ⟨hcs, _⟩ | ⟨b, ln, cp, m, n, V0, V1, D0, D1, P0, P1, hcs, _, hl, hm, hmm, _, hx⟩
  · simp at hcs
    obtain ⟨rfl, rfl, rfl⟩ := hcs
    exact ⟨[], rfl, Nat.le_refl _, ⟨rfl, by simp, fun h => absurd h (by simp)⟩⟩
  · simp at hcs
    obtain ⟨rfl, rfl, rfl⟩ := hcs
    simp only [if_true] at hmm
    subst hmm
    have each : ∀ i, i < len → ∃ p : S34, W.cell? (b.add (i * 2)) = some (.int .i64 p.f0) ∧ W.cell? (b.add (i * 2 + 1)) = some (.int .i64 p.f1) := by
      intro i hi
      obtain ⟨h0, h1, t0, t1⟩ := hx i (by omega)
      obtain ⟨q0, e0, _, _⟩ := DataW.trod_int Try.underlying3 t0
      obtain ⟨q1, e1, _, _⟩ := DataW.trod_int Try.underlying3 t1
      simp at e0 e1
      exact ⟨⟨q0, q1⟩, by rw [h0, e0], by rw [h1, e1]⟩
    haveI : Inhabited S34 := ⟨z34⟩
    obtain ⟨q, hq⟩ := Go.Deep.choose_lt each
    refine ⟨(List.range len).map q, by simp, by simpa using hl, ?_⟩
    have hlen : ((List.range len).map q).length = len := by simp
    rw [hlen]
    refine ⟨hlen, by unfold maxLen at hm; omega, fun _ => ⟨b, rfl, fun j p hj => ?_⟩⟩
    have hjl : j < len := by
      have := (List.getElem?_eq_some_iff.1 hj).1
      simpa using this
    have hp : q j = p := by simpa [hjl] using hj
    subst hp
    refine ⟨_, rfl, k34_mk W (q j), fun i u hu => ?_⟩
    match i, hu with
    | 0, hu =>
      simp at hu
      subst hu
      exact (hq j hjl).1
    | 1, hu =>
      simp at hu
      subst hu
      exact (hq j hjl).2

end Go.Proofs.Ytlhlhlnfojgfgaa.P
