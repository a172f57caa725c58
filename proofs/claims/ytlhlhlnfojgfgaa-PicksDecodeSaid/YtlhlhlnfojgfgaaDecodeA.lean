/- The law PicksDecode's contract: for all bytes, whatever number, all picks it returns true, and nothing that was there has turned. -/
import Derived.Test.YtlhlhlnfojgfgaaDecodeW
import Derived.Test.YtlhlhlnfojgfgaaPurePicksDecode
namespace Go.Proofs.Ytlhlhlnfojgfgaa.P
open Go.RowKit Go.Proofs.YtlhlhlnfojgfgaaW.PrintWords

theorem decode_all (A0 : Option Addr) (c0 : Nat) (l0 : List Int) (a1 : Int) (A2 : Option Addr) (c2 : Nat) (l2 : List S34) (w : World)
    (hr0 : Kd.C (Kd.int .u8) w A0 l0.length l0) (hc0 : l0.length ≤ c0) (hr2 : Kd.C k34 w A2 l2.length l2) (hc2 : l2.length ≤ c2) (hw0 : ∀ x ∈ l0, (Lit.int .u8 x).wf = true) :
    Calls Try.prog 3 #[.slice A0 l0.length c0, .int .i64 a1, .slice A2 l2.length c2] w fun e w' => e = .returned (.bool true) ∧ Below w.heap.size w w' := by
  by_cases h : 400 < l0.length ∨ 200 < l2.length
  · obtain ⟨ka, fa⟩ := awake_is.rounds
    exact decode_long ka A0 c0 l0.length a1 A2 c2 l2.length w fa h
  · obtain ⟨ka, ks, ke, km, kr, h1, h2, h3, h4, h5, h6, h7⟩ := Pure.decode_facts l0 a1 l2 (fun x hx => u8_bd (hw0 x hx)) (by omega) (by omega)
    exact decode_walk ka ks ke km kr A0 c0 l0 a1 A2 c2 l2 _ _ _ _ w hr0 hc0 hr2 hc2 (by omega) (by omega) h1 h2 h3 h4 h5 h6 h7

end Go.Proofs.Ytlhlhlnfojgfgaa.P
