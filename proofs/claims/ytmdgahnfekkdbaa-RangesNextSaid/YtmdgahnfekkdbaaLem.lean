/- Plain facts on pieces: how many there are, where each one begins and ends. -/
import Derived.OpenShut
import Derived.Test.YtmdgahnfekkdbaaPx
namespace Go.Proofs.Ytmdgahnfekkdbaa.P
open Go.RowKit Go.Proofs.YtmdgahnfekkdbaaW.PrintWords Go.Proofs.YtmdgahnfekkdbaaW.PrintLast Go.Proofs.YtmdgahnfekkdbaaW.PrintMore

theorem wrap_in {x : Int} (h0 : -1000000 ≤ x) (h1 : x ≤ 1000000) : wrap64 x = x := by unfold wrap64; omega
theorem u8_bd {a : Int} (h : (Lit.int .u8 a).wf = true) : 0 ≤ a ∧ a ≤ 255 := by
  have := bounds_u8 h
  omega
/-- How many pieces there are of what is left. -/
def cnt (s f c : Int) : Int := if f < s then (s - f + c - 1) / c else 1

theorem div_more (x c : Int) (hc : 1 ≤ c) : (x + c) / c = x / c + 1 := by
  rw [Int.add_ediv_of_dvd_right (Int.dvd_refl c), Int.ediv_self (by omega)]

theorem pcs_cnt (s c : Int) (hc : 1 ≤ c) : ∀ (n : Nat) (f : Int), f ≤ s → s - f ≤ n → ((pcs s c (n + 1) f).length : Int) = cnt s f c
  | n, f, hf, hn => by
    rw [pcs, List.length_cons]
    have hm : mn (f + c) s = if s < f + c then s else f + c := rfl
    by_cases h : mn (f + c) s < s
    · rw [if_pos h]
      have h2 : f + c < s ∧ mn (f + c) s = f + c := by
        rw [hm] at h ⊢
        split <;> split at h <;> omega
      obtain ⟨n, rfl⟩ : ∃ m, n = m + 1 := ⟨n - 1, by omega⟩
      have ih := pcs_cnt s c hc n (f + c) (by omega) (by omega)
      rw [h2.2]
      push_cast
      rw [ih]
      unfold cnt
      rw [if_pos h2.1, if_pos (by omega), ← div_more _ _ hc]
      congr 1
      omega
    · rw [if_neg h]
      have h2 : s ≤ f + c := by
        rw [hm] at h
        split at h <;> omega
      unfold cnt
      by_cases h3 : f < s
      · rw [if_pos h3]
        have e : (s - f + c - 1) / c = 1 := by
          rw [show s - f + c - 1 = (s - f - 1) + c from by omega, div_more _ _ hc, Int.ediv_eq_zero_of_lt (by omega) (by omega)]
          rfl
        rw [e]
        rfl
      · rw [if_neg h3]
        rfl

theorem pieces_cnt (a0 a1 : Int) : ((pieces a0 a1).length : Int) = cnt (cl 0 a0 1000) 0 (cl 1 a1 1000) := by
  have b0 := cl_bd 0 a0 1000 (by omega)
  have b1 := cl_bd 1 a1 1000 (by omega)
  exact pcs_cnt _ _ (by omega) 1000 0 (by omega) (by omega)

theorem cnt_bd (s c : Int) (h0 : 0 ≤ s) (h1 : s ≤ 1000) (hc : 1 ≤ c) : 1 ≤ cnt s 0 c ∧ cnt s 0 c ≤ 1000 := by
  unfold cnt
  split
  · refine ⟨?_, ?_⟩
    · rw [show s - 0 + c - 1 = (s - 1) + c from by omega, div_more _ _ hc]
      have := Int.ediv_nonneg (a := s - 1) (b := c) (by omega) (by omega)
      omega
    · rw [show s - 0 + c - 1 = (s - 1) + c from by omega, div_more _ _ hc]
      have := Int.ediv_le_self (a := s - 1) c (by omega)
      omega
  · omega

/-- The document's bound, and its Count. -/
theorem ref_bound (n lo hi : Int) (h : lo ≤ hi) : dustmanref10_bound.f n lo hi = some (cl lo n hi) := by
  unfold dustmanref10_bound.f cl mn mx
  repeat' split
  all_goals first | rfl | (congr 1; omega) | omega
theorem ref_count (a0 a1 : Int) : dustmanref10_Count.f a0 a1 = some ((pieces a0 a1).length : Int) := by
  have b0 := cl_bd 0 a0 1000 (by omega)
  have b1 := cl_bd 1 a1 1000 (by omega)
  have hb := cnt_bd (cl 0 a0 1000) (cl 1 a1 1000) b0.1 b0.2 b1.1
  rw [pieces_cnt]
  generalize hs : cl 0 a0 1000 = s at *
  generalize hc : cl 1 a1 1000 = c at *
  have e1 : dustmanref10_bound.f a0 0 1000 = some s := by rw [ref_bound _ _ _ (by omega), hs]
  have e2 : dustmanref10_bound.f a1 1 1000 = some c := by rw [ref_bound _ _ _ (by omega), hc]
  have e3 : (s + c - 1).tdiv c = (s + c - 1) / c := Int.tdiv_eq_ediv_of_nonneg (by omega)
  have e4 : wrap64 (wrap64 (s + c) - 1) = s + c - 1 := by rw [wrap_in (x := s + c) (by omega) (by omega), wrap_in (by omega) (by omega)]
  have e5 : 0 ≤ (s + c - 1) / c ∧ (s + c - 1) / c ≤ 2000 := ⟨Int.ediv_nonneg (by omega) (by omega), Int.le_trans (Int.ediv_le_self _ (by omega)) (by omega)⟩
  unfold dustmanref10_Count.f
  rw [e1, Option.bind_some, e2, Option.bind_some, if_neg (by omega), e4, e3, wrap_in (by omega) (by omega)]
  unfold cnt at hb ⊢
  by_cases h : 0 < s
  · rw [if_pos h] at hb ⊢
    rw [show s - 0 + c - 1 = s + c - 1 from by omega] at hb ⊢
    rw [if_neg (by omega)]
  · obtain rfl : s = 0 := by omega
    have e6 : (0 + c - 1) / c = 0 := Int.ediv_eq_zero_of_lt (by omega) (by omega)
    rw [if_pos e6, if_neg (by omega)]

/-- Each piece: where it begins, where it ends. -/
theorem pcs_at (s c : Int) (hc : 1 ≤ c) : ∀ (n : Nat) (f : Int) (i : Nat), f ≤ s → i < (pcs s c n f).length → (pcs s c n f).getD i z24 = ⟨f + i * c, mn (f + (i + 1) * c) s⟩
  | 0, _, _, _, h => by simp [pcs] at h
  | n + 1, f, i, hf, h => by
    rw [pcs] at h ⊢
    cases i with
    | zero => simp
    | succ i =>
      have hm : mn (f + c) s = if s < f + c then s else f + c := rfl
      by_cases h2 : mn (f + c) s < s
      · have h3 : mn (f + c) s = f + c := by
          rw [hm] at h2 ⊢
          split <;> split at h2 <;> omega
        rw [if_pos h2, List.getD_cons_succ]
        rw [if_pos h2, List.length_cons] at h
        rw [pcs_at s c hc n (mn (f + c) s) i (by omega) (by omega), h3]
        have e1 : f + c + i * c = f + ((i + 1 : Nat) : Int) * c := by push_cast; rw [Int.add_mul]; omega
        have e2 : f + c + (i + 1) * c = f + (((i + 1 : Nat) : Int) + 1) * c := by push_cast; rw [Int.add_mul ((i : Int) + 1)]; omega
        rw [e1, e2]
      · rw [if_neg h2] at h
        simp at h

/-- All but the last one end ahead of s, the last one there. -/
theorem pcs_ends (s c : Int) (hc : 1 ≤ c) : ∀ (n : Nat) (f : Int), f ≤ s → s - f ≤ n →
    (∀ i : Nat, i + 1 < (pcs s c (n + 1) f).length → f + (i + 1) * c < s) ∧ s ≤ f + ((pcs s c (n + 1) f).length : Int) * c
  | n, f, hf, hn => by
    rw [pcs]
    have hm : mn (f + c) s = if s < f + c then s else f + c := rfl
    by_cases h2 : mn (f + c) s < s
    · have h3 : mn (f + c) s = f + c := by
        rw [hm] at h2 ⊢
        split <;> split at h2 <;> omega
      obtain ⟨n, rfl⟩ : ∃ m, n = m + 1 := ⟨n - 1, by omega⟩
      have ih := pcs_ends s c hc n (f + c) (by omega) (by omega)
      rw [if_pos h2, h3, List.length_cons]
      refine ⟨fun i hi => ?_, ?_⟩
      · cases i with
        | zero => rw [show f + (((0 : Nat) : Int) + 1) * c = f + c from by simp]; omega
        | succ i =>
          have := ih.1 i (by omega)
          have e2 : f + c + (i + 1) * c = f + (((i + 1 : Nat) : Int) + 1) * c := by push_cast; rw [Int.add_mul ((i : Int) + 1)]; omega
          omega
      · have := ih.2
        push_cast
        rw [Int.add_mul]
        omega
    · rw [if_neg h2]
      refine ⟨fun i hi => by simp at hi, ?_⟩
      rw [hm] at h2
      simp only [List.length_singleton]
      split at h2 <;> omega

/-- The sum of how many pieces there are, of some nodes from i on. -/
def most (l : List Int) (c : Int) : Int := (l.map fun s => ((pieces s c).length : Int)).foldr (· + ·) 0
theorem most_bd (l : List Int) (c : Int) : 0 ≤ most l c ∧ most l c ≤ 1001 * l.length := by
  induction l with
  | nil => simp [most]
  | cons s l ih =>
    have e : most (s :: l) c = ((pieces s c).length : Int) + most l c := rfl
    have := pieces_le s c
    rw [e, List.length_cons]
    omega
theorem most_drop (l : List Int) (c : Int) (i : Nat) (h : i < l.length) : most (l.drop i) c = ((pieces (l.getD i 0) c).length : Int) + most (l.drop (i + 1)) c := by
  have e : l.getD i 0 = l[i] := by simp [List.getD, h]
  rw [List.drop_eq_getElem_cons h, e]
  rfl
theorem most_loop (l : List Int) (c : Int) (hl : l.length ≤ 100) : ∀ (d : Nat) (k : Nat) (x : Int) (i : Nat), l.length - i = d → i ≤ l.length → d < k → 0 ≤ x → x + most (l.drop i) c ≤ 200000 →
    ranges_Most.l0 k c x l (l.length : Int) (i : Int) = some (x + most (l.drop i) c) := by
  intro d
  induction d with
  | zero =>
    intro k x i hd hi hk hx hb
    obtain ⟨k, rfl⟩ : ∃ m, k = m + 1 := ⟨k - 1, by omega⟩
    simp only [ranges_Most.l0]
    rw [if_neg (by omega), show i = l.length from by omega, List.drop_length]
    simp [most]
  | succ d ih =>
    intro k x i hd hi hk hx hb
    obtain ⟨k, rfl⟩ : ∃ m, k = m + 1 := ⟨k - 1, by omega⟩
    have hlt : i < l.length := by omega
    have hm := most_drop l c i hlt
    have hb2 := most_bd (l.drop (i + 1)) c
    have hp := pieces_le (l.getD i 0) c
    simp only [ranges_Most.l0]
    rw [if_pos (by omega), if_pos (by omega), if_pos (by omega)]
    have er : rd l (i : Int) = l.getD i 0 := by unfold rd; rw [Int.toNat_natCast]
    rw [er]
    unfold ranges_Count.f
    rw [Option.bind_some, wrap_in (by omega) (by omega), wrap_in (by omega) (by omega)]
    have := ih k (x + ((pieces (l.getD i 0) c).length : Int)) (i + 1) (by omega) (by omega) (by omega) (by omega) (by omega)
    rw [show ((i : Int) + 1) = ((i + 1 : Nat) : Int) from by omega, this, hm]
    congr 1
    omega
theorem most_is (l : List Int) (c : Int) (hl : l.length ≤ 100) (k : Nat) (hk : l.length < k) : ranges_Most.f k l c = some (most l c) := by
  have hb := most_bd l c
  unfold ranges_Most.f
  have := most_loop l c hl l.length k 0 0 (by omega) (by omega) hk (by omega) (by simp only [List.drop_zero]; omega)
  simpa using this


end Go.Proofs.Ytmdgahnfekkdbaa.P
