/- Plain facts on turns: what the loops of Gap and Windows tell, from some number of rounds on. -/
import Derived.OpenShut
import Derived.Test.YthehejpagkbnmaaPx
namespace Go.Proofs.Ythehejpagkbnmaa.P
open Go.RowKit Go.Proofs.YthehejpagkbnmaaW.PrintWords Go.Proofs.YthehejpagkbnmaaW.PrintLast Go.Proofs.YthehejpagkbnmaaW.PrintMore

theorem wrap_in {x : Int} (h0 : -1000000000000 ≤ x) (h1 : x ≤ 1000000000000) : wrap64 x = x := by unfold wrap64; omega
theorem u8_bd {a : Int} (h : (Lit.int .u8 a).wf = true) : 0 ≤ a ∧ a ≤ 255 := by
  have := bounds_u8 h
  omega
theorem awake_is : Ev (fun k => dustmanlaw03_awake.f k) true := Ev.of dustmanlaw03_awake.mono (k := 60) (by decide +kernel)
theorem drop_cons {α : Type} (l : List α) (z : α) (i : Nat) (h : i < l.length) : l.drop i = l.getD i z :: l.drop (i + 1) := by
  rw [List.drop_eq_getElem_cons h]
  simp [List.getD, h]
theorem rdn (l : List Int) (i : Nat) : rd l (i : Int) = l.getD i 0 := by unfold rd; rw [Int.toNat_natCast]
theorem nat1 (i : Nat) : (i : Int) + 1 = ((i + 1 : Nat) : Int) := by omega
/-- From some number of rounds on it tells whether P. -/
def Tells (f : Nat → Option Bool) (P : Prop) : Prop := ∃ b, Ev f b ∧ (b = true ↔ P)
theorem Tells.yes {f : Nat → Option Bool} {P : Prop} (h : Tells f P) (hp : P) : Ev f true := by
  obtain ⟨b, h1, h2⟩ := h
  rw [← h2.2 hp]
  exact h1
theorem Tells.no {f : Nat → Option Bool} {P : Prop} (h : Tells f P) (hp : ¬ P) : Ev f false := by
  obtain ⟨b, h1, h2⟩ := h
  cases b with
  | false => exact h1
  | true => exact absurd (h2.1 rfl) hp
theorem Tells.step {g f : Nat → Option Bool} {P P' : Prop} (h : Tells f P) (hg : ∀ k, g (k + 1) = f k) (hp : P' ↔ P) : Tells g P' := by
  obtain ⟨b, h1, h2⟩ := h
  exact ⟨b, Ev.step hg h1, h2.trans hp.symm⟩
theorem Tells.congr {g f : Nat → Option Bool} {P P' : Prop} (h : Tells f P) (hg : ∀ k, g k = f k) (hp : P' ↔ P) : Tells g P' := by
  obtain ⟨b, h1, h2⟩ := h
  exact ⟨b, Ev.congr hg h1, h2.trans hp.symm⟩
theorem Tells.now (b : Bool) {P : Prop} (h : b = true ↔ P) : Tells (fun _ => some b) P := ⟨b, Ev.now b, h⟩

/-! Gap -/
/-- How many turns come before one's. -/
def run (who : Int) : List Int → Nat
  | [] => 0
  | x :: l => if x = who then 0 else run who l + 1
/-- The longest stretch without one. -/
def mxr (who : Int) : List Int → Nat
  | [] => 0
  | x :: l => max (run who (x :: l)) (mxr who l)
def gapF (who : Int) : List Int → Nat → Nat → Nat
  | [], b, _ => b
  | x :: l, b, c => if x = who then gapF who l b 0 else gapF who l (max b (c + 1)) (c + 1)
theorem run_le_mxr (who : Int) : ∀ l, run who l ≤ mxr who l
  | [] => Nat.le_refl _
  | x :: l => by simp only [mxr]; omega
theorem mxr_le (who : Int) : ∀ l, run who l ≤ l.length ∧ mxr who l ≤ l.length
  | [] => ⟨Nat.le_refl _, Nat.le_refl _⟩
  | x :: l => by
    have := mxr_le who l
    simp only [mxr, run, List.length_cons]
    split <;> omega
theorem gapF_is (who : Int) : ∀ (l : List Int) (b c : Nat), c ≤ b → gapF who l b c = max b (max (c + run who l) (mxr who l))
  | [], b, c, h => by simp only [gapF, run, mxr]; omega
  | x :: l, b, c, h => by
    have h1 := run_le_mxr who l
    by_cases e : x = who
    · simp only [gapF, run, mxr, if_pos e]
      rw [gapF_is who l b 0 (by omega)]
      omega
    · simp only [gapF, run, mxr, if_neg e]
      rw [gapF_is who l (max b (c + 1)) (c + 1) (by omega)]
      omega
theorem gapF_zero (who : Int) (l : List Int) : gapF who l 0 0 = mxr who l := by
  rw [gapF_is who l 0 0 (by omega)]
  have := run_le_mxr who l
  omega
theorem gap_loop (l : List Int) (who : Int) (hl : l.length ≤ 1000000) : ∀ (d i b c : Nat), l.length - i = d → i ≤ l.length → c ≤ i →
    Ev (fun k => plan_Gap.l0 k who (b : Int) (c : Int) l (l.length : Int) (i : Int)) ((gapF who (l.drop i) b c : Nat) : Int) := by
  intro d
  induction d with
  | zero =>
    intro i b c hd hi hc
    rw [List.drop_eq_nil_of_le (by omega)]
    exact Ev.step (f := fun _ => some (b : Int)) (fun k => by simp only [plan_Gap.l0]; rw [if_neg (by omega)]) (Ev.now _)
  | succ d ih =>
    intro i b c hd hi hc
    have hlt : i < l.length := by omega
    rw [drop_cons l 0 i hlt, gapF]
    by_cases h : l.getD i 0 = who
    · have hm : mx (b : Int) 0 = b := by unfold mx; split <;> omega
      rw [if_pos h]
      refine Ev.step (fun k => ?_) (ih (i + 1) b 0 (by omega) (by omega) (by omega))
      simp only [plan_Gap.l0]
      rw [if_pos (by omega), if_pos (by omega), if_pos (by omega), rdn, if_pos h, hm, wrap_in (by omega) (by omega), nat1]
      rfl
    · have hm : mx (b : Int) ((c + 1 : Nat) : Int) = ((max b (c + 1) : Nat) : Int) := by unfold mx; split <;> omega
      rw [if_neg h]
      refine Ev.step (fun k => ?_) (ih (i + 1) (max b (c + 1)) (c + 1) (by omega) (by omega) (by omega))
      simp only [plan_Gap.l0]
      rw [if_pos (by omega), if_pos (by omega), if_pos (by omega), rdn, if_neg h, wrap_in (x := (c : Int) + 1) (by omega) (by omega), wrap_in (by omega) (by omega), nat1, nat1, hm]
theorem gap_is (l : List Int) (who : Int) (hl : l.length ≤ 1000000) : Ev (fun k => plan_Gap.f k l who) ((mxr who l : Nat) : Int) := by
  have := gap_loop l who hl l.length 0 0 0 (by omega) (by omega) (by omega)
  rw [List.drop_zero, gapF_zero] at this
  exact Ev.congr (fun k => by simp only [plan_Gap.f]; rfl) this
def refG (who : Int) : List Int → Nat → Nat
  | [], b => b
  | x :: l, b => refG who l (max b (run who (x :: l)))
theorem refG_is (who : Int) : ∀ (l : List Int) (b : Nat), refG who l b = max b (mxr who l)
  | [], b => by simp only [refG, mxr]; omega
  | x :: l, b => by
    simp only [refG, mxr]
    rw [refG_is who l]
    omega
theorem refgap_in (l : List Int) (who : Int) (hl : l.length ≤ 1000000) (i b : Nat) (hi : i < l.length) (r : Int)
    (next : ∀ b' : Nat, b' = max b (run who (l.drop i)) → Ev (fun k => dustmanref03_Gap.l0 k l who (b' : Int) ((i + 1 : Nat) : Int)) r) :
    ∀ (d j : Nat), l.length - j = d → i ≤ j → j ≤ l.length → run who (l.drop i) = (j - i) + run who (l.drop j) → Ev (fun k => dustmanref03_Gap.l1 k l who (b : Int) (i : Int) (j : Int)) r := by
  have out : ∀ j : Nat, i ≤ j → j ≤ l.length → run who (l.drop i) = j - i → Ev (fun k => if (wrap64 ((j : Int) - i)) > (b : Int) then (dustmanref03_Gap.l0 k l who (wrap64 ((j : Int) - i)) (wrap64 ((i : Int) + 1))) else (dustmanref03_Gap.l0 k l who (b : Int) (wrap64 ((i : Int) + 1)))) r := by
    intro j h1 h2 h3
    by_cases hb : (wrap64 ((j : Int) - i)) > (b : Int)
    · refine Ev.congr (fun k => ?_) (next (j - i) (by rw [wrap_in (by omega) (by omega)] at hb; omega))
      rw [if_pos hb, wrap_in (x := (j : Int) - i) (by omega) (by omega), wrap_in (by omega) (by omega), nat1, show (j : Int) - i = ((j - i : Nat) : Int) by omega]
    · refine Ev.congr (fun k => ?_) (next b (by rw [wrap_in (by omega) (by omega)] at hb; omega))
      rw [if_neg hb, wrap_in (by omega) (by omega), nat1]
  intro d
  induction d with
  | zero =>
    intro j hd h1 h2 hr
    rw [List.drop_eq_nil_of_le (show l.length ≤ j by omega), run] at hr
    refine Ev.step (fun k => ?_) (out j h1 h2 (by omega))
    simp only [dustmanref03_Gap.l1]
    rw [if_neg (by omega)]
  | succ d ih =>
    intro j hd h1 h2 hr
    have hlt : j < l.length := by omega
    rw [drop_cons l 0 j hlt, run] at hr
    by_cases h : l.getD j 0 = who
    · rw [if_pos h] at hr
      refine Ev.step (fun k => ?_) (out j h1 h2 (by omega))
      simp only [dustmanref03_Gap.l1]
      rw [if_pos (by omega), if_pos (by omega), rdn, if_pos h]
    · rw [if_neg h] at hr
      refine Ev.step (fun k => ?_) (ih (j + 1) (by omega) (by omega) (by omega) (by omega))
      simp only [dustmanref03_Gap.l1]
      rw [if_pos (by omega), if_pos (by omega), rdn, if_neg h, wrap_in (by omega) (by omega), nat1]
theorem refgap_loop (l : List Int) (who : Int) (hl : l.length ≤ 1000000) : ∀ (d i b : Nat), l.length - i = d → i ≤ l.length →
    Ev (fun k => dustmanref03_Gap.l0 k l who (b : Int) (i : Int)) ((refG who (l.drop i) b : Nat) : Int) := by
  intro d
  induction d with
  | zero =>
    intro i b hd hi
    rw [List.drop_eq_nil_of_le (by omega)]
    exact Ev.step (f := fun _ => some (b : Int)) (fun k => by simp only [dustmanref03_Gap.l0]; rw [if_neg (by omega)]) (Ev.now _)
  | succ d ih =>
    intro i b hd hi
    have hlt : i < l.length := by omega
    refine Ev.step (fun k => ?_) (refgap_in l who hl i b hlt _ ?_ (l.length - i) i rfl (Nat.le_refl _) hi (by omega))
    · simp only [dustmanref03_Gap.l0]
      rw [if_pos (by omega)]
    · intro b' hb'
      have := ih (i + 1) b' (by omega) (by omega)
      rw [drop_cons l 0 i hlt] at hb' ⊢
      rw [refG, ← hb']
      exact this
theorem refgap_is (l : List Int) (who : Int) (hl : l.length ≤ 1000000) : Ev (fun k => dustmanref03_Gap.f k l who) ((mxr who l : Nat) : Int) := by
  have := refgap_loop l who hl l.length 0 0 (by omega) (by omega)
  rw [List.drop_zero, refG_is, show max 0 (mxr who l) = mxr who l by omega] at this
  exact Ev.congr (fun k => by simp only [dustmanref03_Gap.f]; rfl) this

/-! Windows -/
theorem planwin_loop (l : List Int) (all wide : Int) (hb : all ≤ 1000) (hl : l.length ≤ 1000000) : ∀ (d : Nat) (who : Int), (all - who).toNat = d → 0 ≤ who →
    Tells (fun k => plan_Windows.l0 k l wide all who) (∀ w : Int, who ≤ w → w < all → (mxr w l : Int) < wide) := by
  intro d
  induction d with
  | zero =>
    intro who hd h0
    exact (Tells.now true (by simp only [true_iff]; intro w h1 h2; omega)).step (fun k => by simp only [plan_Windows.l0]; rw [if_neg (by omega)]) Iff.rfl
  | succ d ih =>
    intro who hd h0
    have hE := gap_is l who hl
    by_cases hw : (mxr who l : Int) ≥ wide
    · refine ⟨false, Ev.step (f := fun k => (plan_Gap.f k l who).bind fun t => (if t ≥ wide then (some false) else (plan_Windows.l0 k l wide all (wrap64 (who + 1))))) (fun k => ?_) (Ev.bind hE (Ev.congr (f := fun _ => some false) (fun k => by rw [if_pos hw]) (Ev.now _))), ?_⟩
      · simp only [plan_Windows.l0]
        rw [if_pos (by omega)]
      · constructor
        · intro h
          cases h
        · intro h
          have := h who (by omega) (by omega)
          omega
    · obtain ⟨b, h1, h2⟩ := ih (who + 1) (by omega) (by omega)
      refine ⟨b, Ev.step (f := fun k => (plan_Gap.f k l who).bind fun t => (if t ≥ wide then (some false) else (plan_Windows.l0 k l wide all (wrap64 (who + 1))))) (fun k => ?_) (Ev.bind hE (Ev.congr (fun k => ?_) h1)), h2.trans ⟨fun h w h3 h4 => ?_, fun h w h3 h4 => h w (by omega) h4⟩⟩
      · simp only [plan_Windows.l0]
        rw [if_pos (by omega)]
      · rw [if_neg hw, wrap_in (by omega) (by omega)]
      · by_cases e : w = who
        · subst e
          omega
        · exact h w (by omega) h4
/-- What Windows tells. -/
def WinP (l : List Int) (all wide : Int) : Prop := all < 1 ∨ wide > l.length ∨ (1 ≤ wide ∧ all ≤ l.length ∧ ∀ w : Int, 0 ≤ w → w < all → (mxr w l : Int) < wide)
theorem planwin_is (l : List Int) (all wide : Int) (hb : all ≤ 1000) (hl : l.length ≤ 1000000) : Tells (fun k => plan_Windows.f k l all wide) (WinP l all wide) := by
  unfold WinP
  by_cases h1 : all < 1
  · exact ((Tells.now true (P := True) (by simp)).step (g := fun k => plan_Windows.j0 k l all wide true) (fun k => by simp only [plan_Windows.j0]; rw [if_pos trivial]) Iff.rfl).congr (fun k => by simp only [plan_Windows.f]; rw [if_pos h1]) (by simp [h1])
  by_cases h2 : wide > l.length
  · exact ((Tells.now true (P := True) (by simp)).step (g := fun k => plan_Windows.j0 k l all wide true) (fun k => by simp only [plan_Windows.j0]; rw [if_pos trivial]) Iff.rfl).congr (fun k => by simp only [plan_Windows.f]; rw [if_neg h1, decide_eq_true h2]) (by simp [h2])
  have fwd : ∀ {P : Prop}, Tells (fun k => plan_Windows.j0 k l all wide false) P → Tells (fun k => plan_Windows.f k l all wide) P := fun h =>
    h.congr (fun k => by simp only [plan_Windows.f]; rw [if_neg h1, decide_eq_false h2]) Iff.rfl
  have no : Tells (fun k => plan_Windows.j1 k l all wide true) False := (Tells.now false (by simp)).step (fun k => by simp only [plan_Windows.j1]; rw [if_pos trivial]) Iff.rfl
  by_cases h3 : wide < 1
  · exact fwd (no.step (fun k => by simp only [plan_Windows.j0]; rw [if_neg (by simp), if_pos h3]) ⟨fun h => by rcases h with h | h | ⟨h, h', -⟩ <;> omega, False.elim⟩)
  by_cases h4 : all > l.length
  · exact fwd (no.step (fun k => by simp only [plan_Windows.j0]; rw [if_neg (by simp), if_neg h3, decide_eq_true h4]) ⟨fun h => by rcases h with h | h | ⟨h, h', -⟩ <;> omega, False.elim⟩)
  refine fwd (((planwin_loop l all wide hb hl all.toNat 0 (by omega) (by omega)).step (g := fun k => plan_Windows.j1 k l all wide false) (fun k => by simp only [plan_Windows.j1]; rw [if_neg (by simp)]) Iff.rfl).step (fun k => by simp only [plan_Windows.j0]; rw [if_neg (by simp), if_neg h3, decide_eq_false h4]) ?_)
  constructor
  · intro h
    rcases h with h | h | h
    · exact absurd h h1
    · exact absurd h h2
    · exact h.2.2
  · intro h
    exact Or.inr (Or.inr ⟨by omega, by omega, h⟩)

end Go.Proofs.Ythehejpagkbnmaa.P
