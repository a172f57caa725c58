/- Plain facts on turns: stretches that have all, and the document's Windows; lists that are the same. -/
import Derived.Test.YthehejpagkbnmaaLem
namespace Go.Proofs.Ythehejpagkbnmaa.P
open Go.RowKit Go.Proofs.YthehejpagkbnmaaW.PrintWords Go.Proofs.YthehejpagkbnmaaW.PrintLast Go.Proofs.YthehejpagkbnmaaW.PrintMore

theorem le_run (who : Int) : ∀ (l : List Int) (w : Nat), w ≤ run who l ↔ w ≤ l.length ∧ who ∉ l.take w
  | [], w => by simp [run]
  | x :: l, 0 => by simp
  | x :: l, w + 1 => by
    have ih := le_run who l w
    rw [List.take_succ_cons, List.mem_cons, List.length_cons, run]
    by_cases e : x = who
    · rw [if_pos e]
      constructor
      · intro h
        omega
      · intro h
        exact absurd (Or.inl e.symm) h.2
    · rw [if_neg e]
      constructor
      · intro h
        have := ih.1 (by omega)
        refine ⟨by omega, fun h2 => ?_⟩
        rcases h2 with h2 | h2
        · exact e h2.symm
        · exact this.2 h2
      · intro h
        have := ih.2 ⟨by omega, fun h2 => h.2 (Or.inr h2)⟩
        omega
theorem le_mxr (who : Int) : ∀ (l : List Int) (w : Nat), 1 ≤ w → (w ≤ mxr who l ↔ ∃ i, i + w ≤ l.length ∧ who ∉ (l.drop i).take w)
  | [], w, hw => by
    simp only [mxr, List.length_nil]
    constructor
    · intro h
      omega
    · rintro ⟨i, h, -⟩
      omega
  | x :: l, w, hw => by
    have ih := le_mxr who l w hw
    have h0 := le_run who (x :: l) w
    simp only [mxr]
    constructor
    · intro h
      by_cases h1 : w ≤ run who (x :: l)
      · have := h0.1 h1
        exact ⟨0, by omega, by rw [List.drop_zero]; exact this.2⟩
      · obtain ⟨i, h2, h3⟩ := ih.1 (by omega)
        exact ⟨i + 1, by rw [List.length_cons]; omega, by rw [List.drop_succ_cons]; exact h3⟩
    · rintro ⟨i, h2, h3⟩
      cases i with
      | zero =>
        have := h0.2 ⟨by omega, by rw [List.drop_zero] at h3; exact h3⟩
        omega
      | succ i =>
        have := ih.2 ⟨i, by rw [List.length_cons] at h2; omega, by rw [List.drop_succ_cons] at h3; exact h3⟩
        omega
theorem mem_of_mxr (l : List Int) (v : Int) (h : mxr v l < l.length) : v ∈ l := by
  by_cases hv : v ∈ l
  · exact hv
  · have := (le_run v l l.length).2 ⟨Nat.le_refl _, by rw [List.take_length]; exact hv⟩
    have := run_le_mxr v l
    omega
theorem all_le (l : List Int) (n : Nat) (h : ∀ v : Nat, v < n → (v : Int) ∈ l) : n ≤ l.length := by
  induction n generalizing l with
  | zero => omega
  | succ n ih =>
    have hm := h n (by omega)
    have := ih (l.erase (n : Int)) (fun v hv => (List.mem_erase_of_ne (by omega)).2 (h v (by omega)))
    rw [List.length_erase_of_mem hm] at this
    have := List.length_pos_of_mem hm
    omega
/-- Each stretch of so many turns from one on has each of 0 to all less 1. -/
def Wins (l : List Int) (all : Int) (wide from_ : Nat) : Prop := ∀ i, from_ ≤ i → i + wide ≤ l.length → ∀ who : Int, 0 ≤ who → who < all → who ∈ (l.drop i).take wide
theorem wins_iff (l : List Int) (all : Int) (wide : Nat) (hw : 1 ≤ wide) : Wins l all wide 0 ↔ ∀ w : Int, 0 ≤ w → w < all → mxr w l < wide := by
  constructor
  · intro h w h0 h1
    by_cases h2 : mxr w l < wide
    · exact h2
    · obtain ⟨i, h3, h4⟩ := (le_mxr w l wide hw).1 (by omega)
      exact absurd (h i (by omega) h3 w h0 h1) h4
  · intro h i _ hi w h0 h1
    by_cases hm : w ∈ (l.drop i).take wide
    · exact hm
    · have := (le_mxr w l wide hw).2 ⟨i, hi, hm⟩
      have := h w h0 h1
      omega
theorem win_in (l : List Int) (all : Int) (wide i : Nat) (who : Int) (h0 : 0 ≤ who) (hb : all ≤ 1000) (hw : who < all) (he : i + wide ≤ l.length) (hl : l.length ≤ 1000000) {P : Prop}
    (next : Tells (fun k => dustmanref03_Windows.l1 k l all wide i (who + 1)) P) : ∀ (d j : Nat) (is : Bool), i + wide - j = d → i ≤ j → j ≤ i + wide →
    Tells (fun k => dustmanref03_Windows.l2 k l all (wide : Int) (i : Int) who is (j : Int)) ((is = true ∨ who ∈ (l.drop j).take (i + wide - j)) ∧ P) := by
  intro d
  induction d with
  | zero =>
    intro j is hd hi hj
    cases is with
    | true =>
      refine next.step (fun k => ?_) (by simp)
      simp only [dustmanref03_Windows.l2]
      rw [wrap_in (x := (i : Int) + wide) (by omega) (by omega), if_neg (by omega), if_pos trivial, wrap_in (by omega) (by omega)]
    | false =>
      refine (Tells.now false (P := False) (by simp)).step (fun k => ?_) (by simp [hd])
      simp only [dustmanref03_Windows.l2]
      rw [wrap_in (x := (i : Int) + wide) (by omega) (by omega), if_neg (by omega), if_neg (by simp)]
  | succ d ih =>
    intro j is hd hi hj
    have hlt : j < l.length := by omega
    cases is with
    | true =>
      refine (ih (j + 1) true (by omega) (by omega) (by omega)).step (fun k => ?_) (by simp)
      simp only [dustmanref03_Windows.l2]
      rw [wrap_in (x := (i : Int) + wide) (by omega) (by omega), if_pos (by omega), if_pos trivial, wrap_in (by omega) (by omega), nat1]
    | false =>
      rw [drop_cons l 0 j hlt, show i + wide - j = (i + wide - (j + 1)) + 1 by omega, List.take_succ_cons, List.mem_cons]
      refine (ih (j + 1) (l.getD j 0 == who) (by omega) (by omega) (by omega)).step (fun k => ?_) ?_
      · simp only [dustmanref03_Windows.l2]
        rw [wrap_in (x := (i : Int) + wide) (by omega) (by omega), if_pos (by omega), if_neg (by simp), if_pos (by omega), if_pos (by omega), rdn, wrap_in (by omega) (by omega), nat1]
      · rw [beq_iff_eq, show (who = l.getD j 0 ↔ l.getD j 0 = who) from eq_comm]
        simp
theorem win_all (l : List Int) (all : Int) (wide i : Nat) (hb : all ≤ 1000) (he : i + wide ≤ l.length) (hl : l.length ≤ 1000000) {P : Prop}
    (next : Tells (fun k => dustmanref03_Windows.l0 k l all wide ((i + 1 : Nat) : Int)) P) : ∀ (d : Nat) (who : Int), (all - who).toNat = d → 0 ≤ who →
    Tells (fun k => dustmanref03_Windows.l1 k l all (wide : Int) (i : Int) who) ((∀ w : Int, who ≤ w → w < all → w ∈ (l.drop i).take wide) ∧ P) := by
  intro d
  induction d with
  | zero =>
    intro who hd h0
    refine next.step (fun k => ?_) ⟨fun h => h.2, fun h => ⟨fun w h1 h2 => by omega, h⟩⟩
    simp only [dustmanref03_Windows.l1]
    rw [if_neg (by omega), wrap_in (by omega) (by omega), nat1]
  | succ d ih =>
    intro who hd h0
    refine (win_in l all wide i who h0 hb (by omega) he hl (ih (who + 1) (by omega) (by omega)) wide i false (by omega) (by omega) (by omega)).step (fun k => ?_) ?_
    · simp only [dustmanref03_Windows.l1]
      rw [if_pos (by omega)]
    · rw [show i + wide - i = wide by omega]
      constructor
      · intro h
        exact ⟨Or.inr (h.1 who (by omega) (by omega)), fun w h1 h2 => h.1 w (by omega) h2, h.2⟩
      · rintro ⟨h1, h2, h3⟩
        refine ⟨fun w h4 h5 => ?_, h3⟩
        by_cases e : w = who
        · subst e
          rcases h1 with h1 | h1
          · cases h1
          · exact h1
        · exact h2 w (by omega) h5
theorem win_from (l : List Int) (all : Int) (wide : Nat) (hb : all ≤ 1000) (hl : l.length ≤ 1000000) (hwd : 1 ≤ wide) : ∀ (d i : Nat), l.length - i = d → i ≤ l.length →
    Tells (fun k => dustmanref03_Windows.l0 k l all (wide : Int) (i : Int)) (Wins l all wide i) := by
  have stop : ∀ i : Nat, l.length < i + wide → Tells (fun k => dustmanref03_Windows.j1 k l all (wide : Int) (i : Int) false) (Wins l all wide i) := fun i hi =>
    (Tells.now true (P := True) (by simp)).step (fun k => by simp only [dustmanref03_Windows.j1]; rw [if_neg (by simp)]) ⟨fun _ => trivial, fun _ i' h1 h2 => by omega⟩
  intro d
  induction d with
  | zero =>
    intro i hd hi
    refine (stop i (by omega)).step (fun k => ?_) Iff.rfl
    simp only [dustmanref03_Windows.l0]
    rw [if_neg (by omega)]
  | succ d ih =>
    intro i hd hi
    by_cases he : i + wide ≤ l.length
    · refine ((win_all l all wide i hb he hl (ih (i + 1) (by omega) (by omega)) all.toNat 0 (by omega) (by omega)).step (g := fun k => dustmanref03_Windows.j1 k l all wide (i : Int) true) (fun k => ?_) Iff.rfl).step (fun k => ?_) ?_
      · simp only [dustmanref03_Windows.j1]
        rw [if_pos trivial]
      · simp only [dustmanref03_Windows.l0]
        rw [if_pos (by omega), wrap_in (by omega) (by omega), decide_eq_true (by omega)]
      · constructor
        · intro h
          exact ⟨fun w h1 h2 => h i (Nat.le_refl _) he w h1 h2, fun i' h1 => h i' (by omega)⟩
        · rintro ⟨h1, h2⟩ i' h3 h4 w h5 h6
          by_cases e : i' = i
          · subst e
            exact h1 w h5 h6
          · exact h2 i' (by omega) h4 w h5 h6
    · refine (stop i (by omega)).step (fun k => ?_) Iff.rfl
      simp only [dustmanref03_Windows.l0]
      rw [if_pos (by omega), wrap_in (by omega) (by omega), decide_eq_false (by omega)]
theorem refwin_is (l : List Int) (all wide : Int) (hb : all ≤ 1000) (hl : l.length ≤ 1000000) : Tells (fun k => dustmanref03_Windows.f k l all wide) (WinP l all wide) := by
  unfold WinP
  by_cases h1 : all < 1
  · exact (Tells.now true (P := True) (by simp)).congr (fun k => by simp only [dustmanref03_Windows.f]; rw [if_pos h1]) (by simp [h1])
  by_cases h2 : wide < 1
  · exact (Tells.now false (P := False) (by simp)).congr (fun k => by simp only [dustmanref03_Windows.f]; rw [if_neg h1, if_pos h2]) ⟨fun h => by rcases h with h | h | ⟨h, -⟩ <;> omega, False.elim⟩
  obtain ⟨w, rfl⟩ := Int.eq_ofNat_of_zero_le (show 0 ≤ wide by omega)
  refine (win_from l all w hb hl (by omega) l.length 0 (by omega) (by omega)).congr (fun k => by simp only [dustmanref03_Windows.f]; rw [if_neg h1, if_neg h2]; rfl) ?_
  rw [wins_iff l all w (by omega)]
  constructor
  · intro h
    rcases h with h | h | ⟨-, -, h⟩
    · omega
    · intro v _ _
      have := (mxr_le v l).2
      omega
    · intro v h3 h4
      have := h v h3 h4
      omega
  · intro h
    by_cases h3 : (w : Int) > l.length
    · exact Or.inr (Or.inl h3)
    · refine Or.inr (Or.inr ⟨by omega, ?_, fun v h4 h5 => by have := h v h4 h5; omega⟩)
      have := all_le (l.take w) all.toNat (fun v hv => by
        have h4 := (wins_iff l all w (by omega)).2 h 0 (by omega) (by omega) v (by omega) (by omega)
        rw [List.drop_zero] at h4
        exact h4)
      rw [List.length_take] at this
      omega

theorem same_loop (l : List Int) (hl : l.length ≤ 1000000) : ∀ (d i : Nat), l.length - i = d → i ≤ l.length → Ev (fun k => dustmanref03_Same.l0 k l l (i : Int)) true := by
  intro d
  induction d with
  | zero =>
    intro i hd hi
    exact Ev.step (f := fun _ => some true) (fun k => by simp only [dustmanref03_Same.l0]; rw [if_neg (by omega)]) (Ev.now _)
  | succ d ih =>
    intro i hd hi
    refine Ev.step (fun k => ?_) (ih (i + 1) (by omega) (by omega))
    simp only [dustmanref03_Same.l0]
    rw [if_pos (by omega), if_pos (by omega), if_pos (by omega), if_pos trivial, wrap_in (by omega) (by omega), nat1]
theorem same_is (l : List Int) (hl : l.length ≤ 1000000) : Ev (fun k => dustmanref03_Same.f k l l) true := by
  refine Ev.congr (fun k => ?_) (same_loop l hl l.length 0 (by omega) (by omega))
  simp only [dustmanref03_Same.f]
  rw [if_pos trivial]
  rfl

end Go.Proofs.Ythehejpagkbnmaa.P
