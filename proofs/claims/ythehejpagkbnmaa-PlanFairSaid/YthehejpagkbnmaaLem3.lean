/- Plain facts on turns: the heap holds its least one in front; whose turn it is, is the first one of those due earliest. -/
import Derived.Test.YthehejpagkbnmaaLem2
namespace Go.Proofs.Ythehejpagkbnmaa.P
open Go.RowKit Go.Proofs.YthehejpagkbnmaaW.PrintWords Go.Proofs.YthehejpagkbnmaaW.PrintLast Go.Proofs.YthehejpagkbnmaaW.PrintMore

/-! less -/
theorem lt_iff (a b : S40) : lt a b = true ↔ a.f0 < b.f0 ∨ a.f0 = b.f0 ∧ a.f1 < b.f1 := by
  unfold lt
  by_cases h : a.f0 = b.f0
  · have : (a.f0 != b.f0) = false := by simpa using h
    rw [this]
    simp [h]
  · have : (a.f0 != b.f0) = true := by simpa using h
    rw [this]
    simp [h]
/-- Not behind. -/
def le (a b : S40) : Prop := lt b a = false
theorem le_iff (a b : S40) : le a b ↔ a.f0 < b.f0 ∨ a.f0 = b.f0 ∧ a.f1 ≤ b.f1 := by
  unfold le
  rw [Bool.eq_false_iff, Ne, lt_iff]
  omega
theorem le_refl (a : S40) : le a a := by rw [le_iff]; omega
theorem le_trans {a b c : S40} (h : le a b) (k : le b c) : le a c := by
  rw [le_iff] at *
  omega
theorem le_of_lt {a b : S40} (h : lt a b = true) : le a b := by
  rw [lt_iff] at h
  rw [le_iff]
  omega
theorem le_total (a b : S40) : le a b ∨ le b a := by
  rw [le_iff, le_iff]
  omega

/-! the heap's order -/
def el (l : List S40) (i : Nat) : S40 := l.getD i z40
theorem el_swp (l : List S40) (i j k : Nat) (hi : i < l.length) (hj : j < l.length) : el (swp l i j) k = if k = j then el l i else if k = i then el l j else el l k := by
  unfold el swp
  simp only [List.getD_eq_getElem?_getD, List.getElem?_set]
  by_cases h1 : j = k
  · subst h1
    simp [hj]
  · rw [if_neg h1, if_neg (show ¬ k = j from fun e => h1 e.symm)]
    by_cases h2 : i = k
    · subst h2
      rw [if_pos rfl, if_pos rfl, if_pos hi]
      rfl
    · rw [if_neg h2, if_neg (show ¬ k = i from fun e => h2 e.symm)]
/-- The first n of a list are a heap. -/
def Heap (n : Nat) (l : List S40) : Prop := ∀ c, 1 ≤ c → c < n → le (el l ((c - 1) / 2)) (el l c)
/-- So they are, but for place j, which may be too early. -/
structure UpInv (n : Nat) (l : List S40) (j : Nat) : Prop where
  rest : ∀ c, 1 ≤ c → c < n → c ≠ j → le (el l ((c - 1) / 2)) (el l c)
  skip : 1 ≤ j → ∀ c, 1 ≤ c → c < n → (c - 1) / 2 = j → le (el l ((j - 1) / 2)) (el l c)
theorem up_heap : ∀ (k : Nat) (l : List S40) (j : Nat), j < k → j < l.length → UpInv l.length l j → Heap l.length (upL k l j)
  | 0, _, _, h, _, _ => absurd h (by omega)
  | k + 1, l, j, hk, hj, h => by
    rw [upL]
    by_cases hc : (j - 1) / 2 = j ∨ lt (l.getD j z40) (l.getD ((j - 1) / 2) z40) = false
    · rw [if_pos hc]
      intro c h1 h2
      by_cases e : c = j
      · subst e
        rcases hc with hc | hc
        · omega
        · exact hc
      · exact h.rest c h1 h2 e
    · rw [if_neg hc]
      obtain ⟨hc1, hc2⟩ := not_or.1 hc
      have hlt : le (el l j) (el l ((j - 1) / 2)) := le_of_lt ((Bool.not_eq_false _).mp hc2)
      generalize hp : (j - 1) / 2 = p at *
      have hpj : p < j := by omega
      have hs : ∀ k, el (swp l p j) k = if k = j then el l p else if k = p then el l j else el l k := fun k => el_swp l p j k (by omega) hj
      have := up_heap k (swp l p j) p (by omega) (by rw [swp_length]; omega) ⟨?_, ?_⟩
      · rw [swp_length] at this
        exact this
      · rw [swp_length]
        intro c h1 h2 h3
        rw [hs, hs]
        by_cases e1 : c = j
        · subst e1
          rw [hp, if_neg (by omega), if_pos rfl, if_pos rfl]
          exact hlt
        · rw [if_neg e1, if_neg h3]
          by_cases e2 : (c - 1) / 2 = j
          · rw [if_pos e2]
            have := h.skip (by omega) c h1 h2 e2
            rw [hp] at this
            exact this
          · rw [if_neg e2]
            by_cases e3 : (c - 1) / 2 = p
            · rw [if_pos e3]
              have := h.rest c h1 h2 e1
              rw [e3] at this
              exact le_trans hlt this
            · rw [if_neg e3]
              exact h.rest c h1 h2 e1
      · rw [swp_length]
        intro h0 c h1 h2 h3
        rw [hs, hs, if_neg (show ¬ (p - 1) / 2 = j by omega), if_neg (show ¬ (p - 1) / 2 = p by omega)]
        have hq := h.rest p h0 (by omega) (by omega)
        by_cases e1 : c = j
        · rw [if_pos e1]
          exact hq
        · rw [if_neg e1, if_neg (by omega)]
          have := h.rest c h1 h2 e1
          rw [h3] at this
          exact le_trans hq this
theorem el_append (l : List S40) (x : S40) (i : Nat) (h : i < l.length) : el (l ++ [x]) i = el l i := by
  unfold el
  simp [List.getD_eq_getElem?_getD, List.getElem?_append_left h]
theorem push_heap (l : List S40) (x : S40) (h : Heap l.length l) : Heap (pushL l x).length (pushL l x) := by
  have hl : (l ++ [x]).length = l.length + 1 := by simp
  rw [pushL_length]
  unfold pushL
  have := up_heap (l.length + 1) (l ++ [x]) l.length (by omega) (by omega) ⟨?_, ?_⟩
  · rw [hl] at this
    exact this
  · rw [hl]
    intro c h1 h2 h3
    rw [el_append l x c (by omega), el_append l x _ (by omega)]
    exact h c h1 (by omega)
  · rw [hl]
    intro h0 c h1 h2 h3
    omega
/-- They are a heap, but for place i, which may be too late. -/
structure DownInv (n : Nat) (l : List S40) (i : Nat) : Prop where
  rest : ∀ c, 1 ≤ c → c < n → (c - 1) / 2 ≠ i → le (el l ((c - 1) / 2)) (el l c)
  skip : 1 ≤ i → ∀ c, 1 ≤ c → c < n → (c - 1) / 2 = i → le (el l ((i - 1) / 2)) (el l c)
theorem kid_two (n : Nat) (l : List S40) (i : Nat) : kid n l i = 2 * i + 1 ∨ kid n l i = 2 * i + 2 := by
  unfold kid
  split
  · exact Or.inr rfl
  · exact Or.inl rfl
theorem kid_least (n : Nat) (l : List S40) (i c : Nat) (h1 : 1 ≤ c) (h2 : c < n) (h3 : (c - 1) / 2 = i) : le (el l (kid n l i)) (el l c) := by
  have hc : c = 2 * i + 1 ∨ c = 2 * i + 2 := by omega
  unfold kid
  by_cases h : 2 * i + 2 < n ∧ lt (l.getD (2 * i + 2) z40) (l.getD (2 * i + 1) z40) = true
  · rw [if_pos h]
    rcases hc with rfl | rfl
    · exact le_of_lt h.2
    · exact le_refl _
  · rw [if_neg h]
    rcases hc with rfl | rfl
    · exact le_refl _
    · have : ¬ lt (l.getD (2 * i + 2) z40) (l.getD (2 * i + 1) z40) = true := fun e => h ⟨h2, e⟩
      exact (Bool.not_eq_true _).mp this
theorem down_heap : ∀ (k n : Nat) (l : List S40) (i : Nat), n < k + i → n ≤ l.length → DownInv n l i → Heap n (downL k n l i) ∧ ∀ m, n ≤ m → el (downL k n l i) m = el l m
  | 0, n, l, i, hk, hn, h => by
    refine ⟨fun c h1 h2 => ?_, fun m _ => rfl⟩
    exact h.rest c h1 h2 (by omega)
  | k + 1, n, l, i, hk, hn, h => by
    rw [downL]
    by_cases hc : n ≤ 2 * i + 1 ∨ lt (l.getD (kid n l i) z40) (l.getD i z40) = false
    · rw [if_pos hc]
      refine ⟨fun c h1 h2 => ?_, fun m _ => rfl⟩
      by_cases e : (c - 1) / 2 = i
      · rcases hc with hc | hc
        · omega
        · rw [e]
          exact le_trans hc (kid_least n l i c h1 h2 e)
      · exact h.rest c h1 h2 e
    · rw [if_neg hc]
      obtain ⟨hc1, hc2⟩ := not_or.1 hc
      have hlt : le (el l (kid n l i)) (el l i) := le_of_lt ((Bool.not_eq_false _).mp hc2)
      have hkl := kid_least n l i
      have hk2 := kid_two n l i
      have hkn := kid_lt n l i (by omega)
      generalize kid n l i = q at *
      have hs : ∀ k, el (swp l i q) k = if k = q then el l i else if k = i then el l q else el l k := fun k => el_swp l i q k (by omega) (by omega)
      have := down_heap k n (swp l i q) q (by omega) (by rw [swp_length]; exact hn) ⟨?_, ?_⟩
      · refine ⟨this.1, fun m hm => ?_⟩
        rw [this.2 m hm, hs, if_neg (by omega), if_neg (by omega)]
      · intro c h1 h2 h3
        rw [hs, hs, if_neg h3]
        by_cases e1 : c = q
        · subst e1
          rw [if_pos (show (c - 1) / 2 = i by omega), if_pos rfl]
          exact hlt
        · rw [if_neg e1]
          by_cases e2 : (c - 1) / 2 = i
          · rw [if_pos e2, if_neg (by omega)]
            exact hkl c h1 h2 e2
          · rw [if_neg e2]
            by_cases e3 : c = i
            · subst e3
              rw [if_pos rfl]
              exact h.skip h1 q (by omega) hkn (by omega)
            · rw [if_neg e3]
              exact h.rest c h1 h2 e2
      · intro h0 c h1 h2 h3
        rw [hs, hs, if_neg (show ¬ (q - 1) / 2 = q by omega), if_pos (show (q - 1) / 2 = i by omega), if_neg (by omega), if_neg (by omega)]
        have := h.rest c h1 h2 (by omega)
        rw [h3] at this
        exact this
theorem pop_heap (l : List S40) (h0 : 0 < l.length) (h : Heap l.length l) : Heap (popL l).length (popL l) ∧ popX l = el l 0 := by
  have hl := popL_length l h0
  have hs : ∀ k, el (swp l 0 (l.length - 1)) k = if k = l.length - 1 then el l 0 else if k = 0 then el l (l.length - 1) else el l k := fun k => el_swp l 0 (l.length - 1) k h0 (by omega)
  have hd := down_heap (l.length - 1 + 1) (l.length - 1) (swp l 0 (l.length - 1)) 0 (by omega) (by rw [swp_length]; omega) ⟨?_, ?_⟩
  · constructor
    · intro c h1 h2
      have := hd.1 c h1 (by omega)
      have ht : ∀ k, k < l.length - 1 → el (popL l) k = el (popS l) k := fun k hk => by
        unfold el popL
        simp [List.getD_eq_getElem?_getD, hk]
      rw [ht c (by omega), ht _ (by omega)]
      exact this
    · have := hd.2 (l.length - 1) (Nat.le_refl _)
      rw [hs, if_pos rfl] at this
      exact this
  · intro c h1 h2 h3
    rw [hs, hs, if_neg (by omega), if_neg (by omega), if_neg (by omega), if_neg (by omega)]
    exact h c h1 (by omega)
  · intro h1
    omega
theorem root_least (n : Nat) (l : List S40) (h : Heap n l) : ∀ c, c < n → le (el l 0) (el l c) := by
  intro c
  induction c using Nat.strongRecOn with
  | _ c ih =>
    intro hc
    by_cases e : c = 0
    · subst e
      exact le_refl _
    · exact le_trans (ih ((c - 1) / 2) (by omega) (by omega)) (h c (by omega) hc)
theorem next_heap (l : List S40) (h0 : 0 < l.length) (h : Heap l.length l) : Heap (nextL l).length (nextL l) := push_heap _ _ (pop_heap l h0 h).1
theorem pop_least (l : List S40) (h0 : 0 < l.length) (h : Heap l.length l) : ∀ x ∈ l, le (popX l) x := by
  intro x hx
  obtain ⟨i, hi, he⟩ := List.mem_iff_getElem.1 hx
  rw [(pop_heap l h0 h).2]
  have := root_least l.length l h i hi
  rw [← he]
  have e : el l i = l[i] := getD_here l i hi
  rw [e] at this
  exact this

end Go.Proofs.Ythehejpagkbnmaa.P
