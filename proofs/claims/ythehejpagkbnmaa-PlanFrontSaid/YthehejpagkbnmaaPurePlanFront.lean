/- The first turns of more turns are the same; with like periods they come by turns; for every input. -/
import Derived.Test.YthehejpagkbnmaaLem4
namespace Go.Proofs.Ythehejpagkbnmaa.Pure
open Go.RowKit Go.Proofs.Ythehejpagkbnmaa.P Go.Proofs.YthehejpagkbnmaaW.PrintWords Go.Proofs.YthehejpagkbnmaaW.PrintLast Go.Proofs.YthehejpagkbnmaaW.PrintMore

theorem turns_take (N : Nat) (per : Nat → Int) : ∀ (r : List Int) (due : Nat → Int) (n : Nat), Turns N per due r → Turns N per due (r.take n)
  | [], _, n, _ => by
    rw [List.take_nil]
    trivial
  | x :: r, _, 0, _ => trivial
  | x :: r, due, n + 1, h => by
    obtain ⟨w, hw, rfl, h⟩ := h
    exact ⟨w, hw, rfl, turns_take N per r _ n h⟩
/-- When each is due, with like periods: q rounds are over, and s turns of one more. -/
def alike (q s : Nat) : Nat → Int := fun i => if i < s then (q : Int) + 2 else (q : Int) + 1
theorem alike_turns (N : Nat) (h0 : 0 < N) (per : Nat → Int) (hp : ∀ i, i < N → per i = 1) : ∀ (r : List Int) (q s : Nat), s < N → Turns N per (alike q s) r → ∀ i, i < r.length → r.getD i 0 = (((s + i) % N : Nat) : Int)
  | [], _, _, _, _, i, hi => by simp at hi
  | x :: r, q, s, hs, h, i, hi => by
    obtain ⟨w, hw, rfl, h⟩ := h
    have hl : Least N (alike q s) s := ⟨hs, fun i hi => by unfold alike; rw [if_neg (by omega)]; split <;> omega⟩
    obtain rfl := least_one hw hl
    cases i with
    | zero =>
      rw [Nat.add_zero, Nat.mod_eq_of_lt hs]
      rfl
    | succ i =>
      have e : ((w : Int) :: r).getD (i + 1) 0 = r.getD i 0 := by simp [List.getD_eq_getElem?_getD]
      rw [e]
      rw [List.length_cons] at hi
      by_cases h1 : w + 1 < N
      · have h2 := turns_ext N per r _ (alike q (w + 1)) (fun j hj => by
          unfold upd alike
          have := hp w hs
          by_cases e : j = w
          · subst e
            rw [if_pos rfl, if_neg (by omega), if_pos (by omega)]
            omega
          · rw [if_neg e]
            split <;> split <;> omega) h
        rw [alike_turns N h0 per hp r q (w + 1) h1 h2 i (by omega), show w + 1 + i = w + (i + 1) by omega]
      · have h2 := turns_ext N per r _ (alike (q + 1) 0) (fun j hj => by
          unfold upd alike
          have := hp w hs
          by_cases e : j = w
          · subst e
            rw [if_pos rfl, if_neg (by omega), if_neg (by omega)]
            omega
          · rw [if_neg e, if_pos (by omega), if_neg (by omega)]
            omega) h
        rw [alike_turns N h0 per hp r (q + 1) 0 h0 h2 i (by omega), show w + (i + 1) = N + i by omega, Nat.zero_add, Nat.add_mod_left]
theorem front_loop (x c : List Int) (hx : x.length ≠ 0) (hc : c.length ≤ 1000000) (h : ∀ i, i < c.length → c.getD i 0 = ((i % x.length : Nat) : Int)) : ∀ (d i : Nat), c.length - i = d → i ≤ c.length →
    Ev (fun k => dustmanlaw03_PlanFront.l0 k x c (i : Int)) true := by
  intro d
  induction d with
  | zero =>
    intro i hd hi
    exact Ev.step (f := fun _ => some true) (fun k => by simp only [dustmanlaw03_PlanFront.l0]; rw [if_neg (by omega)]) (Ev.now _)
  | succ d ih =>
    intro i hd hi
    refine Ev.step (fun k => ?_) (ih (i + 1) (by omega) (by omega))
    simp only [dustmanlaw03_PlanFront.l0]
    rw [if_pos (by omega), if_pos (by omega), if_neg (by omega), rdn, if_pos (by rw [h i (by omega), Int.tmod_eq_emod_of_nonneg (by omega)]; rfl), wrap_in (by omega) (by omega), nat1]
theorem PlanFront : dustmanlaw03_PlanFront.Pure := by
  intro l0 a1 a2 _ _ _ h1 h2
  have b1 := u8_bd h1
  have b2 := u8_bd h2
  refine Ev.rounds (g := fun k => dustmanlaw03_PlanFront.f k l0 a1 a2) (Ev.congr (fun k => by simp only [dustmanlaw03_PlanFront.f]; rfl) (Ev.bind awake_is ?_))
  have quick : Ev (fun k => dustmanlaw03_PlanFront.j0 k l0 a1 a2 true) true := Ev.step (f := fun _ => some true) (fun k => by simp only [dustmanlaw03_PlanFront.j0]; rw [if_pos trivial]) (Ev.now _)
  by_cases h : (l0.length : Int) > 20
  · exact Ev.congr (fun k => by rw [if_pos rfl, if_pos h]) quick
  by_cases h0 : l0.length = 0
  · exact Ev.congr (fun k => by rw [if_pos rfl, if_neg h, show ((l0.length : Int) == 0) = true by rw [beq_iff_eq]; omega]) quick
  refine Ev.congr (fun k => by rw [if_pos rfl, if_neg h, show ((l0.length : Int) == 0) = false by rw [beq_eq_false_iff_ne]; omega]) ?_
  obtain ⟨a, ha, hal, hat⟩ := plan_some l0 a1 h0 (by omega) (by omega)
  obtain ⟨b, hb, hbl, hbt⟩ := plan_some l0 (a1 + a2) h0 (by omega) (by omega)
  have hrl : (List.replicate l0.length (0 : Int)).length = l0.length := List.length_replicate
  obtain ⟨c, hc, hcl, hct⟩ := plan_some (List.replicate l0.length 0) a1 (by omega) (by omega) (by omega)
  have e1 : wrap64 a1 = a1 := wrap_in (by omega) (by omega)
  have e2 : wrap64 a2 = a2 := wrap_in (by omega) (by omega)
  have e3 : wrap64 (a1 + a2) = a1 + a2 := wrap_in (by omega) (by omega)
  have eab : a = b.take a1.toNat := turns_one _ _ _ _ _ (by rw [List.length_take]; omega) hat (turns_take _ _ b _ a1.toNat hbt)
  have hper : ∀ i, i < l0.length → pers (List.replicate l0.length 0) i = 1 := fun i hi => by
    unfold pers
    simp [List.getD_eq_getElem?_getD, hi]
    rfl
  rw [hrl] at hct
  have hcc := alike_turns l0.length (by omega) _ hper c 0 0 (by omega) (turns_ext _ _ c _ _ (fun i hi => by rw [hper i hi]; simp [alike]) hct)
  have hlast := front_loop (List.replicate l0.length 0) c (by omega) (by omega) (fun i hi => by rw [hcc i hi, Nat.zero_add, hrl]) c.length 0 (by omega) (by omega)
  have j1 : Ev (fun k => dustmanlaw03_PlanFront.j1 k l0 a1 false) true := by
    refine Ev.step (fun k => ?_) hlast
    simp only [dustmanlaw03_PlanFront.j1]
    rw [if_neg (by simp), if_pos (by omega), Int.toNat_natCast, if_pos (by omega), Option.bind_some, e1, hc, Option.bind_some]
    rfl
  refine Ev.step (f := fun k => (dustmanref03_Same.f k a a).bind fun t179 => (dustmanlaw03_PlanFront.j1 k l0 a1 (!t179))) (fun k => ?_) (Ev.bind (same_is a (by omega)) j1)
  simp only [dustmanlaw03_PlanFront.j0]
  rw [if_neg (by simp), e1, e2, e3, ha, Option.bind_some, hb, Option.bind_some, if_pos (by omega), if_pos (by omega), if_pos (by omega), ← eab]

end Go.Proofs.Ythehejpagkbnmaa.Pure
