/- Plain facts on picks: Fair, its picks and its stretches; the same lists as the document's. -/
import Derived.Test.YtlhlhlnfojgfgaaLem
namespace Go.Proofs.Ytlhlhlnfojgfgaa.P
open Go.RowKit Go.Proofs.YtlhlhlnfojgfgaaW.PrintWords Go.Proofs.YtlhlhlnfojgfgaaW.PrintLast Go.Proofs.YtlhlhlnfojgfgaaW.PrintMore

/-- A pick, as the model has it. -/
def to47 (p : S34) : S47 := ⟨p.f0, p.f1⟩
theorem map47_at (l : List S34) (i : Nat) (h : i < l.length) : (l.map to47).getD i z47 = to47 (l.getD i z34) := by
  simp [List.getD, h]
theorem same_loop (l : List S34) (hl : l.length ≤ 1000000) : ∀ (d i : Nat), l.length - i = d → i ≤ l.length → Ev (fun k => dustmanlaw04_same.l0 k l (l.map to47) (i : Int)) true := by
  intro d
  induction d with
  | zero =>
    intro i hd hi
    exact Ev.step (f := fun _ => some true) (fun k => by simp only [dustmanlaw04_same.l0]; rw [if_neg (by omega)]) (Ev.now _)
  | succ d ih =>
    intro i hd hi
    have hlt : i < l.length := by omega
    refine Ev.step (fun k => ?_) (ih (i + 1) (by omega) (by omega))
    simp only [dustmanlaw04_same.l0]
    rw [if_pos (by omega), if_pos (by omega), if_pos (by rw [List.length_map]; omega), rd34, rd47, map47_at l i hlt, if_pos (show (l.getD i z34).f0 = (to47 (l.getD i z34)).f0 from rfl), if_pos (show (l.getD i z34).f1 = (to47 (l.getD i z34)).f1 from rfl), wrap_in (by omega) (by omega), nat1]
theorem same_is (l : List S34) (hl : l.length ≤ 1000000) : Ev (fun k => dustmanlaw04_same.f k l (l.map to47)) true := by
  refine Ev.congr (fun k => ?_) (same_loop l hl l.length 0 (by omega) (by omega))
  simp only [dustmanlaw04_same.f]
  rw [if_pos (by rw [List.length_map])]
  rfl
theorem model_loop (l : List S34) (hl : l.length ≤ 1000000) : ∀ (d i : Nat) (x : List S47), l.length - i = d → i ≤ l.length → x.length ≤ i → Ev (fun k => dustmanlaw04_model.l0 k l x (i : Int)) (x ++ (l.drop i).map to47) := by
  intro d
  induction d with
  | zero =>
    intro i x hd hi hx
    have e : x ++ (l.drop i).map to47 = x := by rw [List.drop_eq_nil_of_le (by omega)]; simp
    rw [e]
    exact Ev.step (f := fun _ => some x) (fun k => by simp only [dustmanlaw04_model.l0]; rw [if_neg (by omega)]) (Ev.now x)
  | succ d ih =>
    intro i x hd hi hx
    have hlt : i < l.length := by omega
    have h := ih (i + 1) (x ++ [to47 (l.getD i z34)]) (by omega) (by omega) (by rw [List.length_append, List.length_singleton]; omega)
    rw [drop_cons l z34 i hlt, List.map_cons]
    rw [List.append_assoc, List.singleton_append] at h
    refine Ev.step (fun k => ?_) h
    simp only [dustmanlaw04_model.l0]
    rw [if_pos (by omega), if_pos (by omega), if_pos (by omega), rd34, wrap_in (by omega) (by omega), nat1]
    rfl
theorem model_is (l : List S34) (hl : l.length ≤ 1000000) : Ev (fun k => dustmanlaw04_model.f k l) (l.map to47) := by
  have := model_loop l hl l.length 0 [] (by omega) (by omega) (by simp)
  simpa [dustmanlaw04_model.f] using this

/-! the document's Round -/
theorem succ_mod (x n : Int) (hn : 1 ≤ n) : (x + 1) % n = if x % n + 1 = n then 0 else x % n + 1 := by
  have e : (x + 1) % n = (x % n + 1) % n := by
    conv => lhs; rw [← Int.emod_add_mul_ediv x n]
    rw [show x % n + n * (x / n) + 1 = x % n + 1 + n * (x / n) by omega, Int.add_mul_emod_self_left]
  have h0 := Int.emod_nonneg x (show n ≠ 0 by omega)
  have h1 := Int.emod_lt_of_pos x (show 0 < n by omega)
  rw [e]
  by_cases h : x % n + 1 = n
  · rw [if_pos h, h, Int.emod_self]
  · rw [if_neg h, Int.emod_eq_of_lt (by omega) (by omega)]
theorem rest_sign (a n : Int) (hn : 1 ≤ n) : (Int.tmod a n < 0 → Int.tmod a n + n = a % n) ∧ (¬ Int.tmod a n < 0 → Int.tmod a n = a % n) := by
  have h0 := Int.emod_nonneg a (show n ≠ 0 by omega)
  have h1 := Int.emod_lt_of_pos a (show 0 < n by omega)
  rcases Int.le_total 0 a with h | h
  · rw [Int.tmod_eq_emod_of_nonneg h]
    omega
  · have e : Int.tmod a n = -((-a) % n) := by
      have h3 : Int.tmod (-(-a)) n = -(Int.tmod (-a) n) := Int.neg_tmod _ _
      rw [Int.neg_neg] at h3
      rw [h3, Int.tmod_eq_emod_of_nonneg (by omega)]
    have h4 := Int.emod_nonneg (-a) (show n ≠ 0 by omega)
    have h5 := Int.emod_lt_of_pos (-a) (show 0 < n by omega)
    have h6 : (-a) % n = 0 ∧ a % n = 0 ∨ (-a) % n = n - a % n := by
      rw [Int.neg_emod]
      split
      · left
        exact ⟨rfl, Int.emod_eq_zero_of_dvd (by assumption)⟩
      · right
        rw [Int.natAbs_of_nonneg (by omega)]
    omega
theorem refround_loop (n r f dr : Int) (m : Nat) (hm : n * r = m) (hn : 1 ≤ n) (hb : n ≤ 10000 ∧ m ≤ 10000) : ∀ (d i : Nat) (x : List S47), m - i = d → i ≤ m → x.length ≤ i →
    Ev (fun k => dustmanref04_Round.l0 k n r dr x ((f + (i : Int)) % n) (i : Int)) (x ++ (List.range' i (m - i)).map fun (j : Nat) => (⟨(f + (j : Int)) % n, dr⟩ : S47)) := by
  intro d
  induction d with
  | zero =>
    intro i x hd hi hx
    rw [hd]
    simp only [List.range'_zero, List.map_nil, List.append_nil]
    exact Ev.step (f := fun _ => some x) (fun k => by simp only [dustmanref04_Round.l0]; rw [hm, wrap_in (by omega) (by omega), if_neg (by omega)]) (Ev.now x)
  | succ d ih =>
    intro i x hd hi hx
    have h := ih (i + 1) (x ++ [⟨(f + (i : Int)) % n, dr⟩]) (by omega) (by omega) (by rw [List.length_append, List.length_singleton]; omega)
    rw [hd]
    have hd' : m - (i + 1) = d := by omega
    rw [hd'] at h
    rw [List.range'_succ, List.map_cons]
    rw [List.append_assoc, List.singleton_append] at h
    have h0 := Int.emod_nonneg (f + (i : Int)) (show n ≠ 0 by omega)
    have h1 := Int.emod_lt_of_pos (f + (i : Int)) (show 0 < n by omega)
    have hs := succ_mod (f + (i : Int)) n hn
    rw [show f + (i : Int) + 1 = f + ((i + 1 : Nat) : Int) by omega] at hs
    rw [hs] at h
    refine Ev.step (fun k => ?_) h
    simp only [dustmanref04_Round.l0]
    rw [hm, wrap_in (x := (m : Int)) (by omega) (by omega), if_pos (by omega), if_pos (by omega), Option.bind_some, wrap_in (x := (f + (i : Int)) % n + 1) (by omega) (by omega), wrap_in (x := (i : Int) + 1) (by omega) (by omega), nat1]
    by_cases h2 : (f + (i : Int)) % n + 1 = n
    · rw [if_pos h2, if_pos h2]
    · rw [if_neg h2, if_neg h2]
theorem turns47 (n f dr : Int) (m : Nat) : (turns n f dr m).map to47 = (List.range' 0 m).map fun (j : Nat) => (⟨(f + (j : Int)) % n, dr⟩ : S47) := by
  simp [turns, to47]
theorem refround_some (n r a dr : Int) (hn : 1 ≤ n) (hr : 1 ≤ r) (h : n * r ≤ 10000) : Ev (fun k => dustmanref04_Round.f k n r a dr) ((turns n (a % n) dr (n * r).toNat).map to47) := by
  have hn2 : n ≤ 10000 := Int.le_trans (by rw [← Int.mul_one n, Int.mul_assoc]; exact Int.mul_le_mul_of_nonneg_left (by omega) (by omega)) h
  have hr2 : r ≤ 10000 := Int.le_trans (by rw [← Int.one_mul r, ← Int.mul_assoc]; exact Int.mul_le_mul_of_nonneg_right (by omega) (by omega)) h
  have hnr : 0 ≤ n * r := Int.mul_nonneg (by omega) (by omega)
  have h0 := Int.emod_nonneg a (show n ≠ 0 by omega)
  have h1 := Int.emod_lt_of_pos a (show 0 < n by omega)
  have hl := refround_loop n r (a % n) dr (n * r).toNat (by omega) hn ⟨hn2, by omega⟩ (n * r).toNat 0 [] (by omega) (by omega) (by simp)
  rw [List.nil_append, Nat.sub_zero, ← turns47, show a % n + ((0 : Nat) : Int) = a % n by omega, Int.emod_eq_of_lt h0 h1] at hl
  have hj : Ev (fun k => dustmanref04_Round.j1 k n r dr [] (a % n)) ((turns n (a % n) dr (n * r).toNat).map to47) := Ev.step (fun k => by simp only [dustmanref04_Round.j1]; rfl) hl
  have hs := rest_sign a n hn
  refine Ev.congr (f := fun k => dustmanref04_Round.j0 k n r a dr [] false) (fun k => ?_) ?_
  · simp only [dustmanref04_Round.f]
    rw [if_neg (by omega), if_neg (by omega), if_neg (by omega), if_neg (by omega), wrap_in (by omega) (by omega), decide_eq_false (by omega)]
  · refine Ev.step (fun k => ?_) hj
    simp only [dustmanref04_Round.j0]
    rw [if_neg (by simp), if_neg (by omega)]
    by_cases h2 : Int.tmod a n < 0
    · rw [if_pos h2, hs.1 h2, wrap_in (by omega) (by omega)]
    · rw [if_neg h2, hs.2 h2]
theorem refround_none (n r a dr : Int) (h : ¬ (1 ≤ n ∧ 1 ≤ r ∧ n * r ≤ 10000)) : Ev (fun k => dustmanref04_Round.f k n r a dr) [] := by
  have stop : Ev (fun k => dustmanref04_Round.j0 k n r a dr [] true) [] := Ev.step (f := fun _ => some []) (fun k => by simp only [dustmanref04_Round.j0]; rw [if_pos trivial]) (Ev.now _)
  refine Ev.congr (fun k => ?_) stop
  simp only [dustmanref04_Round.f]
  by_cases h1 : n < 1
  · rw [if_pos h1]
  · by_cases h2 : r < 1
    · rw [if_neg h1, if_pos h2]
    · by_cases h3 : n > 10000
      · rw [if_neg h1, if_neg h2, if_pos h3]
      · by_cases h4 : r > 10000
        · rw [if_neg h1, if_neg h2, if_neg h3, if_pos h4]
        · have h5 : n * r ≤ 10000 * 10000 := Int.mul_le_mul (by omega) (by omega) (by omega) (by omega)
          have h6 : ¬ n * r ≤ 10000 := fun h6 => h ⟨by omega, by omega, h6⟩
          rw [if_neg h1, if_neg h2, if_neg h3, if_neg h4, wrap_in (by omega) (by omega), decide_eq_true (by omega)]

/-! Fair -/
/-- The picks that stand in for those that a pick leaves out, from one on. -/
def oth (p : S34) (w n : Nat) : List S34 := ((List.range' w (n - w)).filter fun (v : Nat) => !((v : Int) == p.f0)).map fun (v : Nat) => (⟨(v : Int), p.f1⟩ : S34)
def seg (n : Nat) (p : S34) : List S34 := p :: oth p 0 n
def fairL (n : Nat) (l : List S34) : List S34 := l.flatMap (seg n)
theorem oth_end (p : S34) (n : Nat) : oth p n n = [] := by simp [oth]
theorem oth_hit (p : S34) (w n : Nat) (h : w < n) (hp : (w : Int) = p.f0) : oth p w n = oth p (w + 1) n := by
  unfold oth
  rw [show n - w = (n - (w + 1)) + 1 by omega, List.range'_succ, List.filter_cons_of_neg (by simpa using hp)]
theorem oth_miss (p : S34) (w n : Nat) (h : w < n) (hp : (w : Int) ≠ p.f0) : oth p w n = ⟨(w : Int), p.f1⟩ :: oth p (w + 1) n := by
  unfold oth
  rw [show n - w = (n - (w + 1)) + 1 by omega, List.range'_succ, List.filter_cons_of_pos (by simpa using hp), List.map_cons]
theorem oth_length (p : S34) (w n : Nat) : (oth p w n).length ≤ n - w := by
  unfold oth
  rw [List.length_map]
  refine Nat.le_trans (List.length_filter_le _ _) ?_
  simp
theorem fair_loop (l : List S34) (a : Int) (n : Nat) (hN : mn (mx a 0) 16 = n) (hn : n ≤ 16) (hl : l.length ≤ 10000) :
    ∀ (d i : Nat) (x : List S34), l.length - i = d → i ≤ l.length → x.length ≤ i * 17 → Ev (fun k => picks_Fair.l0 k a x l (l.length : Int) (i : Int)) (x ++ fairL n (l.drop i)) := by
  intro d
  induction d with
  | zero =>
    intro i x hd hi hx
    have e : x ++ fairL n (l.drop i) = x := by rw [List.drop_eq_nil_of_le (by omega)]; simp [fairL]
    rw [e]
    exact Ev.step (f := fun _ => some x) (fun k => by simp only [picks_Fair.l0]; rw [if_neg (by omega)]) (Ev.now x)
  | succ d ih =>
    intro i x hd hi hx
    have hlt : i < l.length := by omega
    rw [drop_cons l z34 i hlt]
    generalize hp : l.getD i z34 = p
    have inner : ∀ (e w : Nat) (y : List S34), n - w = e → w ≤ n → y.length ≤ i * 17 + 1 + w →
        Ev (fun k => picks_Fair.l1 k a y l (l.length : Int) (i : Int) (n : Int) (w : Int) p.f0 p.f1) (y ++ oth p w n ++ fairL n (l.drop (i + 1))) := by
      intro e
      induction e with
      | zero =>
        intro w y he hw hy
        obtain rfl : w = n := by omega
        rw [oth_end, List.append_nil]
        refine Ev.step (fun k => ?_) (ih (i + 1) y (by omega) (by omega) (by omega))
        simp only [picks_Fair.l1]
        rw [if_neg (by omega), wrap_in (by omega) (by omega), nat1]
      | succ e ihe =>
        intro w y he hw hy
        by_cases h : (w : Int) = p.f0
        · rw [oth_hit p w n (by omega) h]
          refine Ev.step (fun k => ?_) (ihe (w + 1) y (by omega) (by omega) (by omega))
          simp only [picks_Fair.l1]
          rw [if_pos (by omega), if_neg (by simpa using h), wrap_in (by omega) (by omega), nat1]
        · rw [oth_miss p w n (by omega) h]
          have h2 := ihe (w + 1) (y ++ [⟨(w : Int), p.f1⟩]) (by omega) (by omega) (by rw [List.length_append, List.length_singleton]; omega)
          have e2 : y ++ [⟨(w : Int), p.f1⟩] ++ oth p (w + 1) n = y ++ (⟨(w : Int), p.f1⟩ :: oth p (w + 1) n) := by simp
          rw [e2] at h2
          refine Ev.step (fun k => ?_) h2
          simp only [picks_Fair.l1]
          rw [if_pos (by omega), if_pos (by simpa using h), if_pos (by omega), wrap_in (by omega) (by omega), nat1]
    have h3 := inner n 0 (x ++ [p]) (by omega) (by omega) (by rw [List.length_append, List.length_singleton]; omega)
    have e3 : x ++ [p] ++ oth p 0 n ++ fairL n (l.drop (i + 1)) = x ++ fairL n (p :: l.drop (i + 1)) := by simp [fairL, seg]
    rw [e3] at h3
    refine Ev.step (fun k => ?_) h3
    simp only [picks_Fair.l0]
    rw [if_pos (by omega), if_pos (by omega), if_pos (by omega), if_pos (by omega), rd34, hp, hN]
    rfl
theorem fair_is (l : List S34) (a : Int) (n : Nat) (hN : mn (mx a 0) 16 = n) (hn : n ≤ 16) (hl : l.length ≤ 10000) : Ev (fun k => picks_Fair.f k l a) (fairL n l) := by
  have := fair_loop l a n hN hn hl l.length 0 [] (by omega) (by omega) (by simp)
  simpa [picks_Fair.f] using this
theorem reffair_loop (l : List S34) (a : Int) (n : Nat) (hN : mn (mx a 0) 16 = n) (hn : n ≤ 16) (hl : l.length ≤ 10000) :
    ∀ (d i : Nat) (x : List S47), l.length - i = d → i ≤ l.length → x.length ≤ i * 17 → Ev (fun k => dustmanref04_Fair.l0 k (l.map to47) a x (i : Int)) (x ++ (fairL n (l.drop i)).map to47) := by
  have hN2 : ∀ w : Nat, ((w : Int) < a ∧ (w : Int) < 16) ↔ w < n := by
    intro w
    unfold mn mx at hN
    split at hN <;> split at hN <;> omega
  intro d
  induction d with
  | zero =>
    intro i x hd hi hx
    have e : x ++ (fairL n (l.drop i)).map to47 = x := by rw [List.drop_eq_nil_of_le (by omega)]; simp [fairL]
    rw [e]
    exact Ev.step (f := fun _ => some x) (fun k => by simp only [dustmanref04_Fair.l0]; rw [if_neg (by rw [List.length_map]; omega)]) (Ev.now x)
  | succ d ih =>
    intro i x hd hi hx
    have hlt : i < l.length := by omega
    rw [drop_cons l z34 i hlt]
    generalize hp : l.getD i z34 = p
    have hrd : rd_T47 (l.map to47) (i : Int) = ⟨p.f0, p.f1⟩ := by rw [rd47, map47_at l i hlt, hp]; rfl
    have inner : ∀ (e w : Nat) (y : List S47), n - w = e → w ≤ n → y.length ≤ i * 17 + 1 + w →
        Ev (fun k => dustmanref04_Fair.l1 k (l.map to47) a y (i : Int) (w : Int)) (y ++ (oth p w n).map to47 ++ (fairL n (l.drop (i + 1))).map to47) := by
      intro e
      induction e with
      | zero =>
        intro w y he hw hy
        obtain rfl : w = n := by omega
        rw [oth_end, List.map_nil, List.append_nil]
        have hj : Ev (fun k => dustmanref04_Fair.j2 k (l.map to47) a y (i : Int) (w : Int) false) (y ++ (fairL w (l.drop (i + 1))).map to47) := by
          refine Ev.step (fun k => ?_) (ih (i + 1) y (by omega) (by omega) (by omega))
          simp only [dustmanref04_Fair.j2]
          rw [if_neg (by simp), wrap_in (by omega) (by omega), nat1]
        refine Ev.step (fun k => ?_) hj
        simp only [dustmanref04_Fair.l1]
        have := hN2 w
        by_cases h : (w : Int) < a
        · rw [if_pos h, decide_eq_false (by omega)]
        · rw [if_neg h]
      | succ e ihe =>
        intro w y he hw hy
        have hw2 := (hN2 w).2 (by omega)
        by_cases h : (w : Int) = p.f0
        · rw [oth_hit p w n (by omega) h]
          refine Ev.step (f := fun k => dustmanref04_Fair.j2 k (l.map to47) a y (i : Int) (w : Int) true) (fun k => ?_) (Ev.step (fun k => ?_) (ihe (w + 1) y (by omega) (by omega) (by omega)))
          · simp only [dustmanref04_Fair.l1]
            rw [if_pos hw2.1, decide_eq_true hw2.2]
          · simp only [dustmanref04_Fair.j2]
            rw [if_pos trivial, if_pos (by omega), if_pos (by rw [List.length_map]; omega), hrd]
            simp only []
            rw [if_pos h, wrap_in (by omega) (by omega), nat1]
        · rw [oth_miss p w n (by omega) h]
          have h2 := ihe (w + 1) (y ++ [⟨(w : Int), p.f1⟩]) (by omega) (by omega) (by rw [List.length_append, List.length_singleton]; omega)
          have e2 : y ++ [⟨(w : Int), p.f1⟩] ++ (oth p (w + 1) n).map to47 = y ++ ((⟨(w : Int), p.f1⟩ : S34) :: oth p (w + 1) n).map to47 := by simp [to47]
          rw [e2] at h2
          refine Ev.step (f := fun k => dustmanref04_Fair.j2 k (l.map to47) a y (i : Int) (w : Int) true) (fun k => ?_) (Ev.step (fun k => ?_) h2)
          · simp only [dustmanref04_Fair.l1]
            rw [if_pos hw2.1, decide_eq_true hw2.2]
          · simp only [dustmanref04_Fair.j2]
            rw [if_pos trivial, if_pos (by omega), if_pos (by rw [List.length_map]; omega), hrd]
            simp only []
            rw [if_neg h, if_pos (by omega), wrap_in (by omega) (by omega), nat1]
    have h3 := inner n 0 (x ++ [to47 p]) (by omega) (by omega) (by rw [List.length_append, List.length_singleton]; omega)
    have e3 : x ++ [to47 p] ++ (oth p 0 n).map to47 ++ (fairL n (l.drop (i + 1))).map to47 = x ++ (fairL n (p :: l.drop (i + 1))).map to47 := by simp [fairL, seg]
    rw [e3] at h3
    refine Ev.step (fun k => ?_) h3
    simp only [dustmanref04_Fair.l0]
    rw [if_pos (by rw [List.length_map]; omega), if_pos (by omega), if_pos (by omega), hrd]
    rfl
theorem reffair_is (l : List S34) (a : Int) (n : Nat) (hN : mn (mx a 0) 16 = n) (hn : n ≤ 16) (hl : l.length ≤ 10000) : Ev (fun k => dustmanref04_Fair.f k (l.map to47) a) ((fairL n l).map to47) := by
  have := reffair_loop l a n hN hn hl l.length 0 [] (by omega) (by omega) (by simp)
  simpa [dustmanref04_Fair.f] using this
theorem fairL_length (n : Nat) (l : List S34) : (fairL n l).length ≤ l.length * (n + 1) := by
  induction l with
  | nil => simp [fairL]
  | cons p l ih =>
    have e : fairL n (p :: l) = seg n p ++ fairL n l := rfl
    have h := oth_length p 0 n
    rw [e, List.length_append, List.length_cons, Nat.add_mul, seg, List.length_cons]
    omega

/-! its stretches -/
theorem seg_all (n : Nat) (p : S34) (w : Nat) (h : w < n) : (w : Int) ∈ whos (seg n p) := by
  unfold whos seg
  rw [List.map_cons, List.mem_cons]
  by_cases e : (w : Int) = p.f0
  · exact Or.inl e
  · right
    rw [List.mem_map]
    refine ⟨⟨(w : Int), p.f1⟩, ?_, rfl⟩
    unfold oth
    rw [List.mem_map]
    exact ⟨w, by rw [List.mem_filter, List.mem_range']; exact ⟨⟨w, by omega, by omega⟩, by simpa using e⟩, rfl⟩
theorem seg_length (n : Nat) (p : S34) : (whos (seg n p)).length ≤ n + 1 := by
  have := oth_length p 0 n
  unfold whos seg
  rw [List.length_map, List.length_cons]
  omega
theorem mem_take_front {x : Int} {a b : List Int} {k : Nat} (h : x ∈ a) (hk : a.length ≤ k) : x ∈ (a ++ b).take k := by
  rw [List.take_append]
  refine List.mem_append_left _ ?_
  rw [List.take_of_length_le hk]
  exact h
theorem wins_fair (n : Nat) (l : List S34) : Wins (whos (fairL n l)) n (2 * n + 1) := by
  induction l with
  | nil =>
    intro i hi
    simp [whos, fairL] at hi
  | cons p l ih =>
    intro i hi who h0 h1
    obtain ⟨w, rfl⟩ : ∃ w : Nat, who = w := ⟨who.toNat, by omega⟩
    have e : whos (fairL n (p :: l)) = whos (seg n p) ++ whos (fairL n l) := by simp [whos, fairL]
    have hs := seg_length n p
    have ha := seg_all n p w (by omega)
    rw [e] at hi ⊢
    generalize whos (seg n p) = s at *
    rw [List.length_append] at hi
    by_cases hi0 : i = 0
    · subst hi0
      rw [List.drop_zero]
      exact mem_take_front ha (by omega)
    · by_cases his : s.length ≤ i
      · rw [List.drop_append, List.drop_eq_nil_of_le his, List.nil_append]
        exact ih (i - s.length) (by omega) w h0 h1
      · have hne : 0 < (whos (fairL n l)).length := by omega
        match l, hne, hi with
        | [], hne, _ => simp [whos, fairL] at hne
        | q :: l, _, hi =>
          have e2 : whos (fairL n (q :: l)) = whos (seg n q) ++ whos (fairL n l) := by simp [whos, fairL]
          have hs2 := seg_length n q
          have ha2 := seg_all n q w (by omega)
          rw [e2]
          rw [List.drop_append, show i - s.length = 0 by omega, List.drop_zero, List.take_append, List.mem_append]
          right
          refine mem_take_front ha2 ?_
          rw [List.length_drop]
          omega

/-! Gap: no stretch without one is as long as one that has all -/
theorem gap_loop (l : List Int) (who : Int) (wide : Nat) (hw : 1 ≤ wide) (hl : l.length ≤ 1000000) (hh : ∀ i, i + wide ≤ l.length → who ∈ (l.drop i).take wide) :
    ∀ (d i c : Nat) (b : Int), l.length - i = d → i ≤ l.length → c ≤ i → c < wide → 0 ≤ b → b < wide → (∀ j, i - c ≤ j → j < i → l.getD j 0 ≠ who) →
    ∃ g : Int, g < wide ∧ Ev (fun k => plan_Gap.l0 k who b (c : Int) l (l.length : Int) (i : Int)) g := by
  intro d
  induction d with
  | zero =>
    intro i c b hd hi hc hcw hb0 hb hrun
    exact ⟨b, hb, Ev.step (f := fun _ => some b) (fun k => by simp only [plan_Gap.l0]; rw [if_neg (by omega)]) (Ev.now _)⟩
  | succ d ih =>
    intro i c b hd hi hc hcw hb0 hb hrun
    have hlt : i < l.length := by omega
    by_cases h : l.getD i 0 = who
    · have hm : mx b 0 = b := by unfold mx; split <;> omega
      obtain ⟨g, hg, hE⟩ := ih (i + 1) 0 b (by omega) (by omega) (by omega) (by omega) hb0 hb (fun j h1 h2 => by omega)
      refine ⟨g, hg, Ev.step (fun k => ?_) hE⟩
      simp only [plan_Gap.l0]
      rw [if_pos (by omega), if_pos (by omega), if_pos (by omega), rdn, if_pos h, hm, wrap_in (by omega) (by omega), nat1]
      rfl
    · have hrun2 : ∀ j, i + 1 - (c + 1) ≤ j → j < i + 1 → l.getD j 0 ≠ who := fun j h1 h2 => by
        by_cases e : j = i
        · subst e
          exact h
        · exact hrun j (by omega) (by omega)
      have hcw2 : c + 1 < wide := by
        by_cases e : c + 1 < wide
        · exact e
        · exfalso
          obtain rfl : wide = c + 1 := by omega
          have h3 := hh (i - c) (by omega)
          rw [List.mem_iff_getElem] at h3
          obtain ⟨j, hj, he⟩ := h3
          rw [List.length_take, List.length_drop] at hj
          rw [List.getElem_take, List.getElem_drop] at he
          have h4 : i - c + j < l.length := by omega
          refine hrun2 (i - c + j) (by omega) (by omega) ?_
          simp [List.getD, h4, he]
      have hm : mx b ((c : Int) + 1) < wide ∧ 0 ≤ mx b ((c : Int) + 1) := by unfold mx; split <;> omega
      obtain ⟨g, hg, hE⟩ := ih (i + 1) (c + 1) (mx b ((c : Int) + 1)) (by omega) (by omega) (by omega) hcw2 hm.2 hm.1 hrun2
      refine ⟨g, hg, Ev.step (fun k => ?_) hE⟩
      simp only [plan_Gap.l0]
      rw [if_pos (by omega), if_pos (by omega), if_pos (by omega), rdn, if_neg h, wrap_in (x := (c : Int) + 1) (by omega) (by omega), wrap_in (by omega) (by omega), nat1, nat1]
theorem planwin_loop (l : List Int) (all : Int) (wide : Nat) (hw : 1 ≤ wide) (hb : all ≤ 1000) (hl : l.length ≤ 1000000) (hh : Wins l all wide) : ∀ (d : Nat) (who : Int), all - who ≤ d → 0 ≤ who →
    Ev (fun k => plan_Windows.l0 k l (wide : Int) all who) true := by
  intro d
  have stop : ∀ who : Int, ¬ who < all → Ev (fun k => plan_Windows.l0 k l (wide : Int) all who) true := fun who h =>
    Ev.step (f := fun _ => some true) (fun k => by simp only [plan_Windows.l0]; rw [if_neg h]) (Ev.now _)
  induction d with
  | zero =>
    intro who hd h0
    exact stop who (by omega)
  | succ d ih =>
    intro who hd h0
    by_cases h : who < all
    · obtain ⟨g, hg, hE⟩ := gap_loop l who wide hw hl (fun i hi => hh i hi who h0 h) l.length 0 0 0 (by omega) (by omega) (by omega) (by omega) (by omega) (by omega) (fun j h1 h2 => by omega)
      have hE2 : Ev (fun k => plan_Gap.f k l who) g := Ev.congr (fun k => by simp only [plan_Gap.f]; rfl) hE
      refine Ev.step (f := fun k => (plan_Gap.f k l who).bind fun t => (if t ≥ (wide : Int) then (some false) else (plan_Windows.l0 k l wide all (wrap64 (who + 1))))) (fun k => ?_) (Ev.bind hE2 ?_)
      · simp only [plan_Windows.l0]
        rw [if_pos h]
      · refine Ev.congr (fun k => ?_) (ih (who + 1) (by omega) (by omega))
        rw [if_neg (by omega), wrap_in (by omega) (by omega)]
    · exact stop who h
theorem planwin_is (l : List Int) (all : Int) (wide : Nat) (hw : 1 ≤ wide) (hb : 1 ≤ all ∧ all ≤ 1000) (haw : all ≤ wide) (hl : l.length ≤ 1000000) (hh : Wins l all wide) : Ev (fun k => plan_Windows.f k l all (wide : Int)) true := by
  by_cases h : (wide : Int) > (l.length : Int)
  · refine Ev.congr (f := fun k => plan_Windows.j0 k l all wide true) (fun k => ?_) (Ev.step (f := fun _ => some true) (fun k => by simp only [plan_Windows.j0]; rw [if_pos trivial]) (Ev.now _))
    simp only [plan_Windows.f]
    rw [if_neg (by omega), decide_eq_true h]
  · refine Ev.congr (f := fun k => plan_Windows.j0 k l all wide false) (fun k => ?_) (Ev.step (f := fun k => plan_Windows.j1 k l all wide false) (fun k => ?_) (Ev.step (fun k => ?_) (planwin_loop l all wide hw hb.2 hl hh all.toNat 0 (by omega) (by omega))))
    · simp only [plan_Windows.f]
      rw [if_neg (by omega), decide_eq_false h]
    · simp only [plan_Windows.j0]
      rw [if_neg (by simp), if_neg (by omega), decide_eq_false (by omega)]
    · simp only [plan_Windows.j1]
      rw [if_neg (by simp)]

end Go.Proofs.Ytlhlhlnfojgfgaa.P
