/- By periods each stretch of as many turns as are written out has all; for every input. -/
import Derived.Test.YthehejpagkbnmaaLem4
namespace Go.Proofs.Ythehejpagkbnmaa.Pure
open Go.RowKit Go.Proofs.Ythehejpagkbnmaa.P Go.Proofs.YthehejpagkbnmaaW.PrintWords Go.Proofs.YthehejpagkbnmaaW.PrintLast Go.Proofs.YthehejpagkbnmaaW.PrintMore

/-- The sum of f 0 to f (N - 1). -/
def total (f : Nat → Int) : Nat → Int
  | 0 => 0
  | N + 1 => total f N + f N
theorem total_le {f g : Nat → Int} : ∀ N, (∀ j, j < N → f j ≤ g j) → total f N ≤ total g N
  | 0, _ => Int.le_refl _
  | N + 1, h => by
    have := total_le N (fun j hj => h j (by omega))
    have := h N (by omega)
    simp only [total]
    omega
theorem total_same {f g : Nat → Int} : ∀ N, (∀ j, j < N → f j = g j) → total f N = total g N
  | 0, _ => rfl
  | N + 1, h => by
    simp only [total]
    rw [total_same N (fun j hj => h j (by omega)), h N (by omega)]
theorem total_nonneg {f : Nat → Int} : ∀ N, (∀ j, j < N → 0 ≤ f j) → 0 ≤ total f N
  | 0, _ => Int.le_refl _
  | N + 1, h => by
    have := total_nonneg N (fun j hj => h j (by omega))
    have := h N (by omega)
    simp only [total]
    omega
theorem total_upd {f g : Nat → Int} (w : Nat) : ∀ N, w < N → (∀ j, j < N → j ≠ w → g j = f j) → g w = f w - 1 → total g N = total f N - 1
  | 0, h, _, _ => absurd h (by omega)
  | N + 1, h, h1, h2 => by
    simp only [total]
    by_cases e : w = N
    · subst e
      rw [total_same w (fun j hj => h1 j (by omega) (by omega)), h2]
      omega
    · rw [total_upd w N (by omega) (fun j hj => h1 j (by omega)) h2, h1 N (by omega) (fun h => e h.symm)]
      omega
/-- None is ahead of another by more than its period. -/
def Near (N : Nat) (due per : Nat → Int) : Prop := ∀ i j, i < N → j < N → due i - per i < due j ∨ due i - per i = due j ∧ i ≤ j
theorem near_upd (N : Nat) (due per : Nat → Int) (hp : ∀ j, 1 ≤ per j) (h : Near N due per) (w : Nat) (hw : Least N due w) : Near N (upd due per w) per := by
  intro i j hi hj
  have h1 := h i j hi hj
  have h2 := hw.2 j hj
  have h3 := hp w
  unfold upd
  by_cases e : i = w
  · subst e
    rw [if_pos rfl]
    split <;> omega
  · rw [if_neg e]
    split
    · next e2 =>
      subst e2
      omega
    · exact h1
/-- How many turns one may have ahead of who's next. -/
def ahead (due per : Nat → Int) (who j : Nat) : Int := if j = who then 0 else (due who - due j + per j - (if j < who then 0 else 1)) / per j
theorem ahead_nonneg (N : Nat) (due per : Nat → Int) (hp : ∀ j, 1 ≤ per j) (h : Near N due per) (who j : Nat) (hw : who < N) (hj : j < N) : 0 ≤ ahead due per who j := by
  unfold ahead
  split
  · exact Int.le_refl _
  · next e =>
    have := h j who hj hw
    have := hp j
    refine Int.ediv_nonneg ?_ (by omega)
    split <;> omega
theorem ahead_le (N : Nat) (due per : Nat → Int) (most : Int) (hp : ∀ j, 1 ≤ per j) (hm : ∀ j, j < N → per j ≤ most) (h : Near N due per) (who j : Nat) (hw : who < N) (hj : j < N) : ahead due per who j ≤ (most + per j - 1) / per j := by
  have h1 := h who j hw hj
  have h2 := hp j
  have h3 := hm who hw
  have h4 := hm j hj
  unfold ahead
  split
  · exact Int.ediv_nonneg (by omega) (by omega)
  · next e =>
    refine Int.ediv_le_ediv (by omega) ?_
    split <;> omega
theorem ahead_upd (due per : Nat → Int) (hp : ∀ j, 1 ≤ per j) (who w : Nat) (e : w ≠ who) : ahead (upd due per w) per who w = ahead due per who w - 1 ∧ ∀ j, j ≠ w → ahead (upd due per w) per who j = ahead due per who j := by
  have h1 := hp w
  have ew : upd due per w who = due who := by unfold upd; rw [if_neg (fun h => e h.symm)]
  constructor
  · unfold ahead
    rw [if_neg e, if_neg e, ew]
    have : upd due per w w = due w + per w := by unfold upd; rw [if_pos rfl]
    rw [this]
    generalize (if w < who then (0 : Int) else 1) = z
    rw [show due who - (due w + per w) + per w - z = (due who - due w + per w - z) + (-1) * per w by omega, Int.add_mul_ediv_right _ _ (by omega)]
    omega
  · intro j hj
    unfold ahead
    have : upd due per w j = due j := by unfold upd; rw [if_neg hj]
    rw [ew, this]
theorem run_fair (N : Nat) (per : Nat → Int) (hp : ∀ j, 1 ≤ per j) (who : Nat) (hw : who < N) : ∀ (r : List Int) (due : Nat → Int), Near N due per → Turns N per due r → (run who r : Int) ≤ total (ahead due per who) N
  | [], due, h, _ => total_nonneg N (fun j hj => ahead_nonneg N due per hp h who j hw hj)
  | x :: r, due, h, ht => by
    obtain ⟨w, hl, rfl, ht⟩ := ht
    have ih := run_fair N per hp who hw r _ (near_upd N due per hp h w hl) ht
    have h0 := total_nonneg N (fun j hj => ahead_nonneg N due per hp h who j hw hj)
    rw [run]
    by_cases e : w = who
    · rw [if_pos (by omega)]
      omega
    · rw [if_neg (by omega)]
      have ha := ahead_upd due per hp who w e
      rw [total_upd w N hl.1 (fun j _ hj => ha.2 j hj) ha.1] at ih
      omega
theorem mxr_fair (N : Nat) (per : Nat → Int) (most : Int) (hp : ∀ j, 1 ≤ per j) (hm : ∀ j, j < N → per j ≤ most) (who : Nat) (hw : who < N) : ∀ (r : List Int) (due : Nat → Int), Near N due per → Turns N per due r → (mxr who r : Int) ≤ total (fun j => (most + per j - 1) / per j) N
  | [], due, h, _ => by
    refine total_nonneg N (fun j hj => ?_)
    have := hp j
    have := hm j hj
    exact Int.ediv_nonneg (by omega) (by omega)
  | x :: r, due, h, ht => by
    have h1 := run_fair N per hp who hw (x :: r) due h ht
    have h2 := total_le N (fun j hj => ahead_le N due per most hp hm h who j hw hj)
    obtain ⟨w, hl, rfl, ht⟩ := ht
    have h3 := mxr_fair N per most hp hm who hw r _ (near_upd N due per hp h w hl) ht
    simp only [mxr]
    omega
/-- A period out of a byte. -/
def byteP (x : Int) : Int := x % 40 + 1
theorem most_loop (l : List Int) (a : Int) (hb : ∀ x ∈ l, 0 ≤ x ∧ x ≤ 255) (hl : l.length ≤ 8)
    (next : ∀ most : Int, 1 ≤ most → most ≤ 40 → (∀ x ∈ l, byteP x ≤ most) → Ev (fun k => dustmanlaw03_PlanFair.l1 k a (l.map byteP) most 1 0) true) :
    ∀ (d i : Nat) (m : Int), l.length - i = d → i ≤ l.length → 1 ≤ m → m ≤ 40 → (∀ x ∈ l.take i, byteP x ≤ m) →
    Ev (fun k => dustmanlaw03_PlanFair.l0 k l a ((l.take i).map byteP) m (i : Int)) true := by
  intro d
  induction d with
  | zero =>
    intro i m hd hi h1 h2 hm
    obtain rfl : i = l.length := by omega
    rw [List.take_length] at hm ⊢
    refine Ev.step (fun k => ?_) (next m h1 h2 hm)
    simp only [dustmanlaw03_PlanFair.l0]
    rw [if_neg (by omega)]
  | succ d ih =>
    intro i m hd hi h1 h2 hm
    have hlt : i < l.length := by omega
    have ht : l.take (i + 1) = l.take i ++ [l.getD i 0] := by
      rw [List.take_add_one]
      simp [List.getD_eq_getElem?_getD, List.getElem?_eq_getElem hlt]
    have hx : 0 ≤ l.getD i 0 ∧ l.getD i 0 ≤ 255 := hb _ (by simp [List.getD_eq_getElem?_getD, List.getElem?_eq_getElem hlt])
    have hq : wrap64 ((wrap64 (Int.tmod (l.getD i 0) 40)) + 1) = byteP (l.getD i 0) := by
      rw [Int.tmod_eq_emod_of_nonneg hx.1, wrap_in (x := l.getD i 0 % 40) (by omega) (by omega), wrap_in (by omega) (by omega)]
      rfl
    have hq2 : 1 ≤ byteP (l.getD i 0) ∧ byteP (l.getD i 0) ≤ 40 := by unfold byteP; omega
    have hlen : ((l.take i).map byteP).length = i := by rw [List.length_map, List.length_take]; omega
    have hgd : ((l.take i).map byteP ++ [byteP (l.getD i 0)]).getD i 0 = byteP (l.getD i 0) := by
      rw [List.getD_eq_getElem?_getD, List.getElem?_append_right (by omega), hlen, Nat.sub_self]
      rfl
    have h3 := ih (i + 1) (mx m (byteP (l.getD i 0))) (by omega) (by omega) (by unfold mx; split <;> omega) (by unfold mx; split <;> omega) (fun x hx => by
      rw [ht, List.mem_append, List.mem_singleton] at hx
      rcases hx with hx | rfl
      · have := hm x hx
        unfold mx
        split <;> omega
      · unfold mx
        split <;> omega)
    rw [ht, List.map_append, List.map_singleton] at h3
    refine Ev.step (fun k => ?_) h3
    simp only [dustmanlaw03_PlanFair.l0]
    rw [if_pos (by omega), if_pos (by omega), if_pos (by omega), rdn, hq, Option.bind_some, if_pos (by rw [List.length_append, hlen]; simp; omega), rdn, hgd, wrap_in (by omega) (by omega), nat1]
theorem total_ge {f : Nat → Int} : ∀ N, (∀ j, j < N → 1 ≤ f j ∧ f j ≤ 100) → (N : Int) ≤ total f N ∧ total f N ≤ 100 * N
  | 0, _ => by simp [total]
  | N + 1, h => by
    have := total_ge N (fun j hj => h j (by omega))
    have := h N (by omega)
    simp only [total]
    omega
theorem share_bd (most p : Int) (h : 1 ≤ p ∧ p ≤ most ∧ most ≤ 40) : 1 ≤ (most + p - 1) / p ∧ (most + p - 1) / p ≤ 100 := by
  refine ⟨(Int.le_ediv_iff_mul_le (by omega)).2 (by omega), ?_⟩
  have := Int.ediv_le_self (a := most + p - 1) p (by omega)
  omega
theorem pers_at (y : List Int) (most : Int) (hm : most ≤ 40) (hy : ∀ j, j < y.length → 1 ≤ y.getD j 0 ∧ y.getD j 0 ≤ most) (j : Nat) (hj : j < y.length) : pers y j = y.getD j 0 := by
  have := hy j hj
  unfold pers bnd
  omega
theorem wide_loop (y : List Int) (a most : Int) (hm : most ≤ 40) (hy : ∀ j, j < y.length → 1 ≤ y.getD j 0 ∧ y.getD j 0 ≤ most) (hl : y.length ≤ 8) (h0 : y.length ≠ 0) (ha : 0 ≤ a ∧ a ≤ 255) :
    ∀ (d i : Nat), y.length - i = d → i ≤ y.length → Ev (fun k => dustmanlaw03_PlanFair.l1 k a y most (1 + total (fun j => (most + pers y j - 1) / pers y j) i) (i : Int)) true := by
  have hp := pers_at y most hm hy
  have hf : ∀ j, j < y.length → 1 ≤ (most + pers y j - 1) / pers y j ∧ (most + pers y j - 1) / pers y j ≤ 100 := fun j hj => by
    rw [hp j hj]
    have := hy j hj
    exact share_bd most _ (by omega)
  intro d
  induction d with
  | zero =>
    intro i hd hi
    obtain rfl : i = y.length := by omega
    obtain ⟨r, hr, hrl, hrt⟩ := plan_some y a h0 (by omega) (by omega)
    have ht := total_ge y.length hf
    have hP : WinP r y.length (1 + total (fun j => (most + pers y j - 1) / pers y j) y.length) := by
      by_cases hw : 1 + total (fun j => (most + pers y j - 1) / pers y j) y.length > r.length
      · exact Or.inr (Or.inl hw)
      · refine Or.inr (Or.inr ⟨by omega, by omega, fun w h1 h2 => ?_⟩)
        obtain ⟨v, rfl⟩ := Int.eq_ofNat_of_zero_le h1
        have := mxr_fair y.length (pers y) most (fun j => by unfold pers; exact (bnd_at _).1) (fun j hj => by rw [hp j hj]; exact (hy j hj).2) v (by omega) r (pers y) (fun i j _ _ => by
          have : 1 ≤ pers y j := by unfold pers; exact (bnd_at _).1
          omega) hrt
        omega
    have hE := (planwin_is r y.length _ (by omega) (by omega)).yes hP
    refine Ev.step (f := fun k => (plan_Windows.f k r (y.length : Int) (1 + total (fun j => (most + pers y j - 1) / pers y j) y.length)).bind fun t167 => (some t167)) (fun k => ?_) (Ev.bind hE (Ev.now _))
    simp only [dustmanlaw03_PlanFair.l1]
    rw [if_neg (by omega), wrap_in (by omega) (by omega), hr, Option.bind_some, if_pos (by omega)]
  | succ d ih =>
    intro i hd hi
    have hlt : i < y.length := by omega
    have hyi := hy i hlt
    have hfi := hf i hlt
    have ht := total_ge i (fun j hj => hf j (by omega))
    have := ih (i + 1) (by omega) (by omega)
    simp only [total] at this
    refine Ev.step (fun k => ?_) this
    simp only [dustmanlaw03_PlanFair.l1]
    rw [hp i hlt] at hfi ⊢
    rw [if_pos (by omega), if_pos (by omega), rdn, if_neg (by omega), wrap_in (x := most + y.getD i 0) (by omega) (by omega), wrap_in (x := most + y.getD i 0 - 1) (by omega) (by omega), Int.tdiv_eq_ediv_of_nonneg (by omega), wrap_in (x := (most + y.getD i 0 - 1) / y.getD i 0) (by omega) (by omega), wrap_in (by omega) (by omega), wrap_in (by omega) (by omega), nat1, Int.add_assoc]
theorem PlanFair : dustmanlaw03_PlanFair.Pure := by
  intro l0 a1 _ _ hx h1
  have b1 := u8_bd h1
  have hb : ∀ x ∈ l0, 0 ≤ x ∧ x ≤ 255 := fun x h => u8_bd (hx x h)
  refine Ev.rounds (g := fun k => dustmanlaw03_PlanFair.f k l0 a1) (Ev.congr (fun k => by simp only [dustmanlaw03_PlanFair.f]; rfl) (Ev.bind awake_is ?_))
  have quick : Ev (fun k => dustmanlaw03_PlanFair.j0 k l0 a1 true) true := Ev.step (f := fun _ => some true) (fun k => by simp only [dustmanlaw03_PlanFair.j0]; rw [if_pos trivial]) (Ev.now _)
  by_cases h : (l0.length : Int) > 8
  · exact Ev.congr (fun k => by rw [if_pos rfl, if_pos h]) quick
  by_cases h0 : l0.length = 0
  · exact Ev.congr (fun k => by rw [if_pos rfl, if_neg h, show ((l0.length : Int) == 0) = true by rw [beq_iff_eq]; omega]) quick
  refine Ev.congr (fun k => by rw [if_pos rfl, if_neg h, show ((l0.length : Int) == 0) = false by rw [beq_eq_false_iff_ne]; omega]) ?_
  have hml : (l0.map byteP).length = l0.length := List.length_map ..
  refine Ev.step (fun k => ?_) (most_loop l0 a1 hb (by omega) (fun most hm1 hm2 hm => ?_) l0.length 0 1 (by omega) (by omega) (by omega) (by omega) (fun x hx => by simp at hx))
  · simp only [dustmanlaw03_PlanFair.j0]
    rw [if_neg (by simp)]
    rfl
  · have := wide_loop (l0.map byteP) a1 most hm2 (fun j hj => ?_) (by omega) (by omega) b1 (l0.map byteP).length 0 (by omega) (by omega)
    · simpa [total] using this
    · have hj2 : j < l0.length := by omega
      have e : (l0.map byteP).getD j 0 = byteP (l0.getD j 0) := by
        simp [List.getD_eq_getElem?_getD, List.getElem?_eq_getElem hj2]
      rw [e]
      have hmem : l0.getD j 0 ∈ l0 := by simp [List.getD_eq_getElem?_getD, List.getElem?_eq_getElem hj2]
      have := hm _ hmem
      have := hb _ hmem
      unfold byteP at *
      omega

end Go.Proofs.Ythehejpagkbnmaa.Pure
