/- The picks of any bytes, among any number, and any picks as bytes, are the document's: what the callees answer; for every input. -/
import Derived.Test.YtlhlhlnfojgfgaaLem2
namespace Go.Proofs.Ytlhlhlnfojgfgaa.Pure
open Go.RowKit Go.Proofs.Ytlhlhlnfojgfgaa.P Go.Proofs.YtlhlhlnfojgfgaaW.PrintWords Go.Proofs.YtlhlhlnfojgfgaaW.PrintLast Go.Proofs.YtlhlhlnfojgfgaaW.PrintMore

theorem str_size (l : List Int) : (strOfNums l).size = l.length := by
  show (strOfNums l).data.size = _
  simp [strOfNums]
theorem str_bt (l : List Int) (i : Nat) (h : i < l.length) (hb : ∀ x ∈ l, 0 ≤ x ∧ x ≤ 255) : bt (strOfNums l) (i : Int) = l.getD i 0 := by
  have hs := str_size l
  have hm : l.getD i 0 ∈ l := by
    have e : l.getD i 0 = l[i] := by simp [List.getD, h]
    rw [e]
    exact List.getElem_mem h
  have hv := hb _ hm
  have e : l.getD i 0 = l[i] := by simp [List.getD, h]
  rw [← bt_at (strOfNums l) (i : Int) (by rw [Int.toNat_natCast, hs]; exact h)]
  show (((strOfNums l).data[i]'(by show i < (strOfNums l).size; omega)).toNat : Int) = _
  simp only [strOfNums, List.getElem_toArray, List.getElem_map]
  rw [e] at hv ⊢
  rw [UInt8.toNat_ofNat']
  omega
theorem str_append (x y : List Int) : strOfNums x ++ strOfNums y = strOfNums (x ++ y) := by
  apply ByteArray.ext
  simp [strOfNums]
theorem refDec_is (a : Int) (b : List Int) (hb : ∀ x ∈ b, 0 ≤ x ∧ x ≤ 255) : ∀ (n i : Nat), b.length < n + i → refDec (strOfNums b) a n i = (dec a (b.drop i)).map to47
  | 0, i, h => by
    rw [List.drop_eq_nil_of_le (by omega)]
    rfl
  | n + 1, i, h => by
    have hs := str_size b
    rw [refDec, hs]
    by_cases h0 : i < b.length
    · rw [if_pos h0, refDec_is a b hb n (i + 2) (by omega), drop_cons b 0 i h0]
      unfold refAt
      rw [hs]
      by_cases h1 : i + 1 < b.length
      · rw [if_pos h1, drop_cons b 0 (i + 1) h1, str_bt b i h0 hb, show ((i : Int) + 1) = ((i + 1 : Nat) : Int) by omega, str_bt b (i + 1) h1 hb]
        have e : dec a (b.getD i 0 :: b.getD (i + 1) 0 :: b.drop (i + 1 + 1)) = one a (b.getD i 0) (b.getD (i + 1) 0) :: dec a (b.drop (i + 2)) := rfl
        rw [e, List.map_cons]
        congr 1
        unfold one to47
        by_cases h2 : wrap64 (b.getD i 0) < a
        · rw [if_pos h2, if_neg (by omega)]
        · rw [if_neg h2, if_pos (by omega)]
      · rw [if_neg h1, List.drop_eq_nil_of_le (show b.length ≤ i + 1 by omega), List.drop_eq_nil_of_le (show b.length ≤ i + 2 by omega)]
        rfl
    · rw [if_neg h0, List.drop_eq_nil_of_le (by omega)]
      rfl
theorem refenc_loop (l : List S34) (hl : l.length ≤ 1000) : ∀ (d i : Nat) (x : List Int), l.length - i = d → i ≤ l.length → x.length ≤ 2 * i →
    Ev (fun k => dustmanref04_Encode.l0 k (l.map to47) (strOfNums x) (i : Int)) (strOfNums (x ++ enc (l.drop i))) := by
  intro d
  induction d with
  | zero =>
    intro i x hd hi hx
    have e : x ++ enc (l.drop i) = x := by rw [List.drop_eq_nil_of_le (by omega)]; simp [enc]
    rw [e]
    exact Ev.step (f := fun _ => some (strOfNums x)) (fun k => by simp only [dustmanref04_Encode.l0]; rw [if_neg (by rw [List.length_map]; omega)]) (Ev.now _)
  | succ d ih =>
    intro i x hd hi hx
    have hlt : i < l.length := by omega
    have h := ih (i + 1) (x ++ enc1 (l.getD i z34)) (by omega) (by omega) (by simp [enc1]; omega)
    rw [drop_cons l z34 i hlt]
    have e : x ++ enc1 (l.getD i z34) ++ enc (l.drop (i + 1)) = x ++ enc (l.getD i z34 :: l.drop (i + 1)) := by simp [enc]
    rw [e] at h
    have hrd : rd_T47 (l.map to47) (i : Int) = ⟨(l.getD i z34).f0, (l.getD i z34).f1⟩ := by rw [rd47, map47_at l i hlt]; rfl
    have hlm : ((l.map to47).length : Int) = l.length := by rw [List.length_map]
    generalize l.getD i z34 = p at *
    have hs := rest_sign p.f1 256 (by omega)
    have h0 := Int.emod_nonneg p.f1 (show (256 : Int) ≠ 0 by omega)
    have h1 := Int.emod_lt_of_pos p.f1 (show (0 : Int) < 256 by omega)
    have sz : ∀ a b : Int, (strOfNums x).size + (strOfNums [a, b]).size ≤ 9223372036854775807 := fun a b => by rw [str_size, str_size]; simp; omega
    by_cases hw : p.f0 < 0 ∨ p.f0 ≥ 255
    · have he : enc1 p = [255, p.f1 % 256] := by unfold enc1; rw [if_pos hw]
      rw [he, ← str_append] at h
      have hj : Ev (fun k => dustmanref04_Encode.j1 k (l.map to47) (strOfNums x) (i : Int) p.f0 true) (strOfNums (x ++ enc (p :: l.drop (i + 1)))) := by
        refine Ev.step (fun k => ?_) h
        simp only [dustmanref04_Encode.j1]
        rw [if_pos trivial, if_pos (by omega), if_pos (by rw [hlm]; omega), hrd]
        simp only []
        by_cases hn : Int.tmod p.f1 256 < 0
        · rw [if_pos hn, hs.1 hn, wrap_in (x := p.f1 % 256) (by omega) (by omega), Int.emod_eq_of_lt (a := p.f1 % 256) (by omega) (by omega), Option.bind_some, if_pos (sz _ _), wrap_in (by omega) (by omega), nat1]
        · rw [if_neg hn, hs.2 hn, Int.emod_eq_of_lt (a := p.f1 % 256) (by omega) (by omega), Option.bind_some, if_pos (sz _ _), wrap_in (by omega) (by omega), nat1]
      refine Ev.step (fun k => ?_) hj
      simp only [dustmanref04_Encode.l0]
      rw [if_pos (by rw [hlm]; omega), if_pos (by omega), hrd]
      simp only []
      by_cases h2 : p.f0 < 0
      · rw [if_pos h2]
      · rw [if_neg h2, decide_eq_true (by omega)]
    · have he : enc1 p = [p.f0 % 256, p.f1 % 256] := by unfold enc1; rw [if_neg hw]
      rw [he, ← str_append] at h
      have hj : Ev (fun k => dustmanref04_Encode.j1 k (l.map to47) (strOfNums x) (i : Int) p.f0 false) (strOfNums (x ++ enc (p :: l.drop (i + 1)))) := by
        refine Ev.step (fun k => ?_) h
        simp only [dustmanref04_Encode.j1]
        rw [if_neg (by simp), if_pos (by omega), if_pos (by rw [hlm]; omega), hrd]
        simp only []
        by_cases hn : Int.tmod p.f1 256 < 0
        · rw [if_pos hn, hs.1 hn, wrap_in (x := p.f1 % 256) (by omega) (by omega), Int.emod_eq_of_lt (a := p.f1 % 256) (by omega) (by omega), Option.bind_some, if_pos (sz _ _), wrap_in (by omega) (by omega), nat1]
        · rw [if_neg hn, hs.2 hn, Int.emod_eq_of_lt (a := p.f1 % 256) (by omega) (by omega), Option.bind_some, if_pos (sz _ _), wrap_in (by omega) (by omega), nat1]
      refine Ev.step (fun k => ?_) hj
      simp only [dustmanref04_Encode.l0]
      rw [if_pos (by rw [hlm]; omega), if_pos (by omega), hrd]
      simp only []
      rw [if_neg (by omega), decide_eq_false (by omega)]
theorem refenc_is (l : List S34) (hl : l.length ≤ 1000) : Ev (fun k => dustmanref04_Encode.f k (l.map to47)) (strOfNums (enc l)) := by
  have := refenc_loop l hl l.length 0 [] (by omega) (by omega) (by simp)
  simpa [dustmanref04_Encode.f, strOfNums] using this

/-- All that the walk asks of the callees, where both are short. -/
theorem decode_facts (b : List Int) (a : Int) (l : List S34) (hb : ∀ x ∈ b, 0 ≤ x ∧ x ≤ 255) (h0 : b.length ≤ 400) (h2 : l.length ≤ 200) :
    ∃ ka ks ke km kr, dustmanlaw04_awake.f ka = some true ∧ picks_Decode.f b a = some (dec a b) ∧ dustmanref04_Decode.f (strOfNums b) a = some ((dec a b).map to47) ∧ dustmanlaw04_same.f ks (dec a b) ((dec a b).map to47) = some true ∧
      picks_Encode.f ke l = some (enc l) ∧ dustmanlaw04_model.f km l = some (l.map to47) ∧ dustmanref04_Encode.f kr (l.map to47) = some (strOfNums (enc l)) := by
  have hd := dec_length a b
  obtain ⟨ka, h1⟩ := awake_is.rounds
  obtain ⟨ks, h4⟩ := (same_is (dec a b) (by omega)).rounds
  obtain ⟨ke, h5⟩ := (enc_is l (by omega)).rounds
  obtain ⟨km, h6⟩ := (model_is l (by omega)).rounds
  obtain ⟨kr, h7⟩ := (refenc_is l (by omega)).rounds
  have hs := str_size b
  refine ⟨ka, ks, ke, km, kr, h1, dec_is b a (by omega), ?_, h4, h5, h6, h7⟩
  unfold dustmanref04_Decode.f
  rw [if_pos (by omega), hs, refDec_is a b hb (b.length + 1) 0 (by omega), List.drop_zero]

end Go.Proofs.Ytlhlhlnfojgfgaa.Pure
