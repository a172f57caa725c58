/- Plain facts on picks: what the loops of Who, Encode, Round, Fair and Windows tell, from some number of rounds on. -/
import Derived.OpenShut
import Derived.Test.YtlhlhlnfojgfgaaPx
namespace Go.Proofs.Ytlhlhlnfojgfgaa.P
open Go.RowKit Go.Proofs.YtlhlhlnfojgfgaaW.PrintWords Go.Proofs.YtlhlhlnfojgfgaaW.PrintLast Go.Proofs.YtlhlhlnfojgfgaaW.PrintMore

theorem wrap_in {x : Int} (h0 : -1000000000000 ≤ x) (h1 : x ≤ 1000000000000) : wrap64 x = x := by unfold wrap64; omega
theorem u8_bd {a : Int} (h : (Lit.int .u8 a).wf = true) : 0 ≤ a ∧ a ≤ 255 := by
  have := bounds_u8 h
  omega
theorem awake_is : Ev (fun k => dustmanlaw04_awake.f k) true := Ev.of dustmanlaw04_awake.mono (k := 60) (by decide +kernel)
theorem drop_cons {α : Type} (l : List α) (z : α) (i : Nat) (h : i < l.length) : l.drop i = l.getD i z :: l.drop (i + 1) := by
  rw [List.drop_eq_getElem_cons h]
  simp [List.getD, h]
theorem rd34 (l : List S34) (i : Nat) : rd_T34 l (i : Int) = l.getD i z34 := by unfold rd_T34; rw [Int.toNat_natCast]
theorem rd47 (l : List S47) (i : Nat) : rd_T47 l (i : Int) = l.getD i z47 := by unfold rd_T47; rw [Int.toNat_natCast]
theorem rdn (l : List Int) (i : Nat) : rd l (i : Int) = l.getD i 0 := by unfold rd; rw [Int.toNat_natCast]
theorem nat1 (i : Nat) : (i : Int) + 1 = ((i + 1 : Nat) : Int) := by omega

/-! Who -/
def whos (l : List S34) : List Int := l.map S34.f0
theorem who_loop (l : List S34) (hl : l.length ≤ 1000000) : ∀ (d i : Nat) (x : List Int), l.length - i = d → i ≤ l.length → x.length ≤ i →
    Ev (fun k => picks_Who.l0 k x l (l.length : Int) (i : Int)) (x ++ whos (l.drop i)) := by
  intro d
  induction d with
  | zero =>
    intro i x hd hi hx
    have e : x ++ whos (l.drop i) = x := by rw [List.drop_eq_nil_of_le (by omega)]; simp [whos]
    rw [e]
    exact Ev.step (f := fun _ => some x) (fun k => by simp only [picks_Who.l0]; rw [if_neg (by omega)]) (Ev.now x)
  | succ d ih =>
    intro i x hd hi hx
    have hlt : i < l.length := by omega
    have h := ih (i + 1) (x ++ [(l.getD i z34).f0]) (by omega) (by omega) (by rw [List.length_append, List.length_singleton]; omega)
    rw [drop_cons l z34 i hlt]
    have e : x ++ [(l.getD i z34).f0] ++ whos (l.drop (i + 1)) = x ++ whos (l.getD i z34 :: l.drop (i + 1)) := by simp [whos]
    rw [e] at h
    refine Ev.step (fun k => ?_) h
    simp only [picks_Who.l0]
    rw [if_pos (by omega), if_pos (by omega), if_pos (by omega), if_pos (by omega), rd34, wrap_in (by omega) (by omega), nat1]
theorem who_is (l : List S34) (hl : l.length ≤ 1000000) : Ev (fun k => picks_Who.f k l) (whos l) := by
  have := who_loop l hl l.length 0 [] (by omega) (by omega) (by simp)
  simpa [picks_Who.f] using this

/-! Encode -/
def enc1 (p : S34) : List Int := [if p.f0 < 0 ∨ p.f0 ≥ 255 then 255 else p.f0 % 256, p.f1 % 256]
def enc (l : List S34) : List Int := l.flatMap enc1
theorem enc_loop (l : List S34) (hl : l.length ≤ 1000000) : ∀ (d i : Nat) (x : List Int), l.length - i = d → i ≤ l.length → x.length ≤ 2 * i →
    Ev (fun k => picks_Encode.l0 k x l (l.length : Int) (i : Int)) (x ++ enc (l.drop i)) := by
  intro d
  induction d with
  | zero =>
    intro i x hd hi hx
    have e : x ++ enc (l.drop i) = x := by rw [List.drop_eq_nil_of_le (by omega)]; simp [enc]
    rw [e]
    exact Ev.step (f := fun _ => some x) (fun k => by simp only [picks_Encode.l0]; rw [if_neg (by omega)]) (Ev.now x)
  | succ d ih =>
    intro i x hd hi hx
    have hlt : i < l.length := by omega
    have h := ih (i + 1) (x ++ enc1 (l.getD i z34)) (by omega) (by omega) (by simp [enc1]; omega)
    rw [drop_cons l z34 i hlt]
    have e : x ++ enc1 (l.getD i z34) ++ enc (l.drop (i + 1)) = x ++ enc (l.getD i z34 :: l.drop (i + 1)) := by simp [enc]
    rw [e] at h
    refine Ev.step (fun k => ?_) h
    simp only [picks_Encode.l0]
    rw [if_pos (by omega), if_pos (by omega), if_pos (by omega), rd34]
    simp only [Option.bind_some, List.length_cons, List.length_nil]
    unfold enc1
    generalize l.getD i z34 = p
    by_cases h1 : p.f0 < 0
    · rw [if_pos h1, if_pos (by omega), if_pos (Or.inl h1), wrap_in (by omega) (by omega), nat1]
    · by_cases h2 : p.f0 ≥ 255
      · rw [if_neg h1, if_pos h2, if_pos (by omega), if_pos (Or.inr h2), wrap_in (by omega) (by omega), nat1]
      · rw [if_neg h1, if_neg h2, if_pos (by omega), if_neg (by omega), wrap_in (by omega) (by omega), nat1]
theorem enc_is (l : List S34) (hl : l.length ≤ 1000000) : Ev (fun k => picks_Encode.f k l) (enc l) := by
  have := enc_loop l hl l.length 0 [] (by omega) (by omega) (by simp)
  simpa [picks_Encode.f] using this
theorem enc_length (l : List S34) : (enc l).length = 2 * l.length := by
  induction l with
  | nil => rfl
  | cons p l ih =>
    have e : enc (p :: l) = enc1 p ++ enc l := rfl
    rw [e, List.length_append, ih, List.length_cons]
    simp [enc1]
    omega

/-! Decode -/
theorem dec_is (l : List Int) (a : Int) (h : l.length ≤ 1000000) : picks_Decode.f l a = some (dec a l) := by
  unfold picks_Decode.f
  rw [if_pos h]
theorem dec_length (a : Int) : ∀ l : List Int, (dec a l).length = (l.length + 1) / 2
  | [] => by simp [dec]
  | [_] => by simp [dec]
  | x :: y :: r => by
    have := dec_length a r
    simp only [dec, List.length_cons, this]
    omega
theorem dec_join (a : Int) : ∀ x y : List Int, x.length % 2 = 0 → dec a (x ++ y) = dec a x ++ dec a y
  | [], y, _ => by simp [dec]
  | [_], _, h => by simp at h
  | p :: q :: r, y, h => by
    have := dec_join a r y (by simp only [List.length_cons] at h; omega)
    simp only [List.cons_append, dec, this]

/-! Round -/
theorem round_loop (n f dr : Int) (m : Nat) (hn : 1 ≤ n) (hf : 0 ≤ f ∧ f < n) (hm : n ≤ 10000 ∧ m ≤ 10000) : ∀ (d i : Nat) (x : List S34), m - i = d → i ≤ m → x.length ≤ i →
    Ev (fun k => picks_Round.l0 k n f dr x (m : Int) (i : Int)) (x ++ (List.range' i (m - i)).map fun (j : Nat) => (⟨(f + (j : Int)) % n, dr⟩ : S34)) := by
  intro d
  induction d with
  | zero =>
    intro i x hd hi hx
    rw [hd]
    simp only [List.range'_zero, List.map_nil, List.append_nil]
    exact Ev.step (f := fun _ => some x) (fun k => by simp only [picks_Round.l0]; rw [if_neg (by omega)]) (Ev.now x)
  | succ d ih =>
    intro i x hd hi hx
    have h := ih (i + 1) (x ++ [⟨(f + (i : Int)) % n, dr⟩]) (by omega) (by omega) (by rw [List.length_append, List.length_singleton]; omega)
    rw [hd]
    have hd' : m - (i + 1) = d := by omega
    rw [hd'] at h
    rw [List.range'_succ, List.map_cons]
    rw [List.append_assoc, List.singleton_append] at h
    refine Ev.step (fun k => ?_) h
    simp only [picks_Round.l0]
    rw [if_pos (by omega), if_neg (by omega), if_pos (by omega), wrap_in (x := f + (i : Int)) (by omega) (by omega), wrap_in (x := (i : Int) + 1) (by omega) (by omega), nat1, Int.tmod_eq_emod_of_nonneg (by omega)]
/-- Picks by turns: from f on, so many. -/
def turns (n f dr : Int) (m : Nat) : List S34 := (List.range' 0 m).map fun (j : Nat) => (⟨(f + (j : Int)) % n, dr⟩ : S34)
theorem from_rest (a n : Int) (hn : 1 ≤ n) (h2 : n ≤ 10000) : Int.tmod (wrap64 (Int.tmod a n + n)) n = a % n := by
  have h0 := Int.emod_nonneg a (show n ≠ 0 by omega)
  have h1 := Int.emod_lt_of_pos a (show 0 < n by omega)
  have hb : -n < Int.tmod a n ∧ Int.tmod a n < n ∧ (Int.tmod a n = a % n ∨ Int.tmod a n = a % n - n) := by
    rcases Int.le_total 0 a with h | h
    · rw [Int.tmod_eq_emod_of_nonneg h]
      omega
    · have e : Int.tmod a n = -((-a) % n) := by
        have h3 : Int.tmod (-(-a)) n = -(Int.tmod (-a) n) := Int.neg_tmod _ _
        rw [Int.neg_neg] at h3
        rw [h3, Int.tmod_eq_emod_of_nonneg (by omega)]
      have h4 := Int.emod_nonneg (-a) (show n ≠ 0 by omega)
      have h5 := Int.emod_lt_of_pos (-a) (show 0 < n by omega)
      have h6 : (-a) % n = 0 ∧ a % n = 0 ∨ (-a) % n = n - a % n := by
        rw [Int.neg_emod]
        split
        · left
          exact ⟨rfl, Int.emod_eq_zero_of_dvd (by assumption)⟩
        · right
          rw [Int.natAbs_of_nonneg (by omega)]
      omega
  rw [wrap_in (by omega) (by omega), Int.tmod_eq_emod_of_nonneg (by omega)]
  rcases hb.2.2 with h | h
  · rw [h, Int.add_emod_right, Int.emod_emod_of_dvd a (Int.dvd_refl n)]
  · rw [h, show a % n - n + n = a % n by omega, Int.emod_emod_of_dvd a (Int.dvd_refl n)]
theorem round_some (n r a dr : Int) (hn : 1 ≤ n) (hr : 1 ≤ r) (h : n * r ≤ 10000) : Ev (fun k => picks_Round.f k n r a dr) (turns n (a % n) dr (n * r).toNat) := by
  have hn2 : n ≤ 10000 := Int.le_trans (by rw [← Int.mul_one n, Int.mul_assoc]; exact Int.mul_le_mul_of_nonneg_left (by omega) (by omega)) h
  have hr2 : r ≤ 10000 := Int.le_trans (by rw [← Int.one_mul r, ← Int.mul_assoc]; exact Int.mul_le_mul_of_nonneg_right (by omega) (by omega)) h
  have hnr : 0 ≤ n * r := Int.mul_nonneg (by omega) (by omega)
  have hq : n ≤ 10000 / r := (Int.le_ediv_iff_mul_le (by omega)).2 h
  have hq2 : 10000 / r ≤ 10000 := Int.ediv_le_self _ (by omega)
  have hl := round_loop n (a % n) dr (n * r).toNat hn ⟨Int.emod_nonneg a (by omega), Int.emod_lt_of_pos a (by omega)⟩ ⟨hn2, by omega⟩ (n * r).toNat 0 [] (by omega) (by omega) (by simp)
  rw [List.nil_append, Nat.sub_zero, Int.toNat_of_nonneg hnr] at hl
  refine Ev.congr (f := fun k => picks_Round.j0 k n r a dr false) (fun k => ?_) ?_
  · simp only [picks_Round.f]
    rw [if_neg (by omega), if_neg (by omega), if_neg (by omega), wrap_in (by omega) (by omega), decide_eq_false (by omega)]
  · refine Ev.step (fun k => ?_) hl
    simp only [picks_Round.j0]
    rw [if_neg (by simp), if_neg (by omega), from_rest a n hn hn2, wrap_in (by omega) (by omega)]
    rfl
theorem round_none (n r a dr : Int) (h : ¬ (1 ≤ n ∧ 1 ≤ r ∧ n * r ≤ 10000)) : Ev (fun k => picks_Round.f k n r a dr) [] := by
  have stop : Ev (fun k => picks_Round.j0 k n r a dr true) [] := Ev.step (f := fun _ => some []) (fun k => by simp only [picks_Round.j0]; rw [if_pos trivial]) (Ev.now _)
  refine Ev.congr (fun k => ?_) stop
  simp only [picks_Round.f]
  by_cases h1 : n < 1
  · rw [if_pos h1]
  · by_cases h2 : r < 1
    · rw [if_neg h1, if_pos h2]
    · have hq : ¬ n ≤ 10000 / r := fun hq => h ⟨by omega, by omega, (Int.le_ediv_iff_mul_le (by omega)).1 hq⟩
      have hq2 : 10000 / r ≤ 10000 := Int.ediv_le_self _ (by omega)
      have hq3 : 0 ≤ 10000 / r := Int.ediv_nonneg (by omega) (by omega)
      rw [if_neg h1, if_neg h2, if_neg (by omega), wrap_in (by omega) (by omega), decide_eq_true (by omega)]

/-! Windows: each stretch has all -/
/-- Each stretch of so many turns has each of 0 to all less 1. -/
def Wins (l : List Int) (all : Int) (wide : Nat) : Prop := ∀ i, i + wide ≤ l.length → ∀ who : Int, 0 ≤ who → who < all → who ∈ (l.drop i).take wide
/-- A stretch from j on, up to e: is who there? -/
theorem win_in (l : List Int) (all : Int) (wide i : Nat) (who : Int) (h0 : 0 ≤ who) (hb : all ≤ 1000) (hw : who < all) (he : i + wide ≤ l.length) (hl : l.length ≤ 1000000)
    (next : Ev (fun k => dustmanref03_Windows.l1 k l all wide i (who + 1)) true) : ∀ (d j : Nat) (is : Bool), i + wide - j = d → i ≤ j → j ≤ i + wide → (is = true ∨ who ∈ (l.drop j).take (i + wide - j)) →
    Ev (fun k => dustmanref03_Windows.l2 k l all (wide : Int) (i : Int) who is (j : Int)) true := by
  intro d
  induction d with
  | zero =>
    intro j is hd hi hj his
    obtain rfl : is = true := by
      rcases his with h | h
      · exact h
      · rw [hd, List.take_zero] at h
        cases h
    refine Ev.step (fun k => ?_) next
    simp only [dustmanref03_Windows.l2]
    rw [wrap_in (x := (i : Int) + wide) (by omega) (by omega), if_neg (by omega), if_pos trivial, wrap_in (by omega) (by omega)]
  | succ d ih =>
    intro j is hd hi hj his
    have hlt : j < l.length := by omega
    cases is with
    | true =>
      refine Ev.step (fun k => ?_) (ih (j + 1) true (by omega) (by omega) (by omega) (Or.inl rfl))
      simp only [dustmanref03_Windows.l2]
      rw [wrap_in (x := (i : Int) + wide) (by omega) (by omega), if_pos (by omega), if_pos trivial, wrap_in (by omega) (by omega), nat1]
    | false =>
      rcases his with h | h
      · cases h
      · rw [drop_cons l 0 j hlt, show i + wide - j = (i + wide - (j + 1)) + 1 by omega, List.take_succ_cons, List.mem_cons] at h
        refine Ev.step (fun k => ?_) (ih (j + 1) (l.getD j 0 == who) (by omega) (by omega) (by omega) ?_)
        · simp only [dustmanref03_Windows.l2]
          rw [wrap_in (x := (i : Int) + wide) (by omega) (by omega), if_pos (by omega), if_neg (by simp), if_pos (by omega), if_pos (by omega), rdn, wrap_in (by omega) (by omega), nat1]
        · rcases h with h | h
          · left
            rw [h]
            simp
          · exact Or.inr h
theorem win_all (l : List Int) (all : Int) (wide i : Nat) (hb : all ≤ 1000) (he : i + wide ≤ l.length) (hl : l.length ≤ 1000000) (hw : Wins l all wide)
    (next : Ev (fun k => dustmanref03_Windows.l0 k l all wide ((i + 1 : Nat) : Int)) true) : ∀ (d : Nat) (who : Int), all - who ≤ d → 0 ≤ who →
    Ev (fun k => dustmanref03_Windows.l1 k l all (wide : Int) (i : Int) who) true := by
  intro d
  induction d with
  | zero =>
    intro who hd h0
    refine Ev.step (fun k => ?_) next
    simp only [dustmanref03_Windows.l1]
    rw [if_neg (by omega), wrap_in (by omega) (by omega), nat1]
  | succ d ih =>
    intro who hd h0
    by_cases hlt : who < all
    · refine Ev.step (fun k => ?_) (win_in l all wide i who h0 hb hlt he hl (ih (who + 1) (by omega) (by omega)) wide i false (by omega) (by omega) (by omega) (Or.inr (by rw [show i + wide - i = wide by omega]; exact hw i he who h0 hlt)))
      simp only [dustmanref03_Windows.l1]
      rw [if_pos hlt]
    · refine Ev.step (fun k => ?_) next
      simp only [dustmanref03_Windows.l1]
      rw [if_neg hlt, wrap_in (by omega) (by omega), nat1]
theorem win_from (l : List Int) (all : Int) (wide : Nat) (hb : all ≤ 1000) (hl : l.length ≤ 1000000) (hwd : 1 ≤ wide) (hw : Wins l all wide) : ∀ (d i : Nat), l.length - i = d → i ≤ l.length →
    Ev (fun k => dustmanref03_Windows.l0 k l all (wide : Int) (i : Int)) true := by
  have stop : ∀ i : Nat, Ev (fun k => dustmanref03_Windows.j1 k l all (wide : Int) (i : Int) false) true := fun i =>
    Ev.step (f := fun _ => some true) (fun k => by simp only [dustmanref03_Windows.j1]; rw [if_neg (by simp)]) (Ev.now _)
  intro d
  induction d with
  | zero =>
    intro i hd hi
    refine Ev.step (fun k => ?_) (stop i)
    simp only [dustmanref03_Windows.l0]
    rw [if_neg (by omega)]
  | succ d ih =>
    intro i hd hi
    by_cases he : i + wide ≤ l.length
    · refine Ev.step (f := fun k => dustmanref03_Windows.j1 k l all (wide : Int) (i : Int) true) (fun k => ?_) ?_
      · simp only [dustmanref03_Windows.l0]
        rw [if_pos (by omega), wrap_in (by omega) (by omega), decide_eq_true (by omega)]
      · refine Ev.step (fun k => ?_) (win_all l all wide i hb he hl hw (ih (i + 1) (by omega) (by omega)) all.toNat 0 (by omega) (by omega))
        simp only [dustmanref03_Windows.j1]
        rw [if_pos trivial]
    · refine Ev.step (fun k => ?_) (stop i)
      simp only [dustmanref03_Windows.l0]
      rw [if_pos (by omega), wrap_in (by omega) (by omega), decide_eq_false (by omega)]
theorem wins_true (l : List Int) (all : Int) (wide : Nat) (hb : all ≤ 1000) (hl : l.length ≤ 1000000) (hwd : 1 ≤ wide) (hw : Wins l all wide) : Ev (fun k => dustmanref03_Windows.f k l all (wide : Int)) true := by
  by_cases ha : all < 1
  · exact Ev.congr (f := fun _ => some true) (fun k => by simp only [dustmanref03_Windows.f]; rw [if_pos ha]) (Ev.now _)
  · refine Ev.congr (fun k => ?_) (win_from l all wide hb hl hwd hw l.length 0 (by omega) (by omega))
    simp only [dustmanref03_Windows.f]
    rw [if_neg ha, if_neg (by omega)]
    rfl

end Go.Proofs.Ytlhlhlnfojgfgaa.P
