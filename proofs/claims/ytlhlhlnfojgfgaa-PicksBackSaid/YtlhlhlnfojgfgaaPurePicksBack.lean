/- Picks of bytes, encoded and decoded again, are the same; each is nobody or one of those that there are; for every input. -/
import Derived.Test.YtlhlhlnfojgfgaaLem
namespace Go.Proofs.Ytlhlhlnfojgfgaa.Pure
open Go.RowKit Go.Proofs.Ytlhlhlnfojgfgaa.P Go.Proofs.YtlhlhlnfojgfgaaW.PrintWords Go.Proofs.YtlhlhlnfojgfgaaW.PrintLast Go.Proofs.YtlhlhlnfojgfgaaW.PrintMore

theorem one_back (n x y : Int) (hn : 0 ≤ n ∧ n ≤ 255) (hx : 0 ≤ x ∧ x ≤ 255) (hy : 0 ≤ y ∧ y ≤ 255) :
    dec n (enc1 (one n x y)) = [one n x y] ∧ -1 ≤ (one n x y).f0 ∧ (one n x y).f0 < n := by
  have e255 : wrap64 255 = 255 := wrap_in (by omega) (by omega)
  unfold one
  rw [wrap_in (x := x) (by omega) (by omega), wrap_in (x := y) (by omega) (by omega)]
  by_cases h : x ≥ n
  · rw [if_pos h]
    unfold enc1
    simp only []
    rw [if_pos (by omega), Int.emod_eq_of_lt (by omega) (by omega)]
    refine ⟨?_, by omega, by omega⟩
    simp only [dec, one]
    rw [e255, if_pos (by omega), wrap_in (x := y) (by omega) (by omega)]
  · rw [if_neg h]
    unfold enc1
    simp only []
    rw [if_neg (by omega), Int.emod_eq_of_lt (by omega) (by omega), Int.emod_eq_of_lt (by omega) (by omega)]
    refine ⟨?_, by omega, by omega⟩
    simp only [dec, one]
    rw [wrap_in (x := x) (by omega) (by omega), wrap_in (x := y) (by omega) (by omega), if_neg h]
theorem dec_two (a : Int) (p : S34) (t : List Int) : dec a (enc1 p ++ t) = dec a (enc1 p) ++ dec a t := dec_join a _ _ (by simp [enc1])
theorem back (n : Int) (hn : 0 ≤ n ∧ n ≤ 255) : ∀ b : List Int, (∀ x ∈ b, 0 ≤ x ∧ x ≤ 255) → dec n (enc (dec n b)) = dec n b ∧ ∀ p ∈ dec n b, -1 ≤ p.f0 ∧ p.f0 < n
  | [], _ => by simp [dec, enc]
  | [x], _ => by
    have e255 : wrap64 255 = 255 := wrap_in (by omega) (by omega)
    have e0 : wrap64 0 = 0 := wrap_in (by omega) (by omega)
    have e : dec n [x] = [⟨-1, 0⟩] := rfl
    have e2 : enc [⟨-1, 0⟩] = [255, 0] := by simp [enc, enc1]
    rw [e, e2]
    simp only [dec, one]
    rw [e255, e0, if_pos (by omega)]
    refine ⟨rfl, fun p hp => ?_⟩
    rw [List.mem_singleton.1 hp]
    simp only []
    omega
  | x :: y :: r, h => by
    have ih := back n hn r (fun z hz => h z (by simp [hz]))
    have h1 := one_back n x y hn (h x (by simp)) (h y (by simp))
    have e : dec n (x :: y :: r) = one n x y :: dec n r := rfl
    have e2 : enc (one n x y :: dec n r) = enc1 (one n x y) ++ enc (dec n r) := rfl
    rw [e, e2, dec_two, h1.1, ih.1]
    refine ⟨rfl, fun p hp => ?_⟩
    rcases List.mem_cons.1 hp with hp | hp
    · rw [hp]
      exact h1.2
    · exact ih.2 p hp
theorem back_loop (n : Int) (l : List S34) (hl : l.length ≤ 1000) (h : ∀ p ∈ l, -1 ≤ p.f0 ∧ p.f0 < n) : ∀ (d i : Nat), l.length - i = d → i ≤ l.length →
    Ev (fun k => dustmanlaw04_PicksBack.l0 k n l l (i : Int)) true := by
  intro d
  induction d with
  | zero =>
    intro i hd hi
    exact Ev.step (f := fun _ => some true) (fun k => by simp only [dustmanlaw04_PicksBack.l0]; rw [if_neg (by omega)]) (Ev.now _)
  | succ d ih =>
    intro i hd hi
    have hlt : i < l.length := by omega
    have hm : l.getD i z34 ∈ l := by
      have e : l.getD i z34 = l[i] := by simp [List.getD, hlt]
      rw [e]
      exact List.getElem_mem hlt
    have hp := h _ hm
    refine Ev.step (fun k => ?_) (ih (i + 1) (by omega) (by omega))
    simp only [dustmanlaw04_PicksBack.l0]
    rw [if_pos (by omega), if_pos (by omega), if_pos (by omega), rd34]
    generalize l.getD i z34 = p at hp
    rw [if_neg (by simp), if_neg (by omega), if_neg (by omega), wrap_in (by omega) (by omega), nat1]

theorem PicksBack : dustmanlaw04_PicksBack.Pure := by
  intro b a1 _ _ hb w1
  have n := u8_bd w1
  have hu : ∀ x ∈ b, 0 ≤ x ∧ x ≤ 255 := fun x hx => u8_bd (hb x hx)
  refine Ev.rounds ?_
  unfold dustmanlaw04_PicksBack.f
  refine Ev.bind awake_is ?_
  simp only [if_true]
  by_cases h : (b.length : Int) > 400
  · simp only [if_pos h]
    exact Ev.now _
  · simp only [if_neg h]
    have hd := dec_length a1 b
    have hbk := back a1 n b hu
    have e1 : wrap64 a1 = a1 := wrap_in (by omega) (by omega)
    refine Ev.bind (a := dec a1 b) (Ev.congr (fun k => by rw [e1]; exact dec_is b a1 (by omega)) (Ev.now _)) ?_
    refine Ev.bind (enc_is _ (by omega)) ?_
    refine Ev.bind (a := dec a1 b) (Ev.congr (fun k => by rw [e1, dec_is _ _ (by rw [enc_length]; omega), hbk.1]) (Ev.now _)) ?_
    have e2 : wrap64 (Int.tdiv (wrap64 ((b.length : Int) + 1)) 2) = ((dec a1 b).length : Int) := by
      rw [wrap_in (x := (b.length : Int) + 1) (by omega) (by omega), Int.tdiv_eq_ediv_of_nonneg (by omega), wrap_in (by omega) (by omega), hd]
      omega
    have e3 : (((dec a1 b).length : Int) != ((dec a1 b).length : Int)) = false := by simp
    simp only [e1, e2, if_true, e3]
    refine Ev.step (fun k => ?_) (back_loop a1 (dec a1 b) (by omega) hbk.2 _ 0 rfl (by omega))
    simp only [dustmanlaw04_PicksBack.j0]
    rw [if_neg (by simp)]
    rfl

end Go.Proofs.Ytlhlhlnfojgfgaa.Pure
