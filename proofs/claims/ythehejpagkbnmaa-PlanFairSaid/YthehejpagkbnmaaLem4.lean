/- Plain facts on turns: whose turn it is, by the heap and by the document. -/
import Derived.Test.YthehejpagkbnmaaLem3
namespace Go.Proofs.Ythehejpagkbnmaa.P
open Go.RowKit Go.Proofs.YthehejpagkbnmaaW.PrintWords Go.Proofs.YthehejpagkbnmaaW.PrintLast Go.Proofs.YthehejpagkbnmaaW.PrintMore

/-- Those that are there, when each is due. -/
def rows (N : Nat) (due per : Nat → Int) : List S40 := (List.range N).map fun i => ⟨due i, (i : Int), per i⟩
def upd (due per : Nat → Int) (w : Nat) : Nat → Int := fun i => if i = w then due w + per w else due i
/-- The first one of those due earliest. -/
def Least (N : Nat) (due : Nat → Int) (w : Nat) : Prop := w < N ∧ ∀ i, i < N → due w < due i ∨ due w = due i ∧ w ≤ i
theorem least_one {N : Nat} {due : Nat → Int} {v w : Nat} (h : Least N due v) (k : Least N due w) : v = w := by
  have h1 := h.2 w k.1
  have h2 := k.2 v h.1
  omega
theorem least_some (N : Nat) (due : Nat → Int) (h : 0 < N) : ∃ w, Least N due w := by
  induction N with
  | zero => omega
  | succ N ih =>
    by_cases h0 : N = 0
    · subst h0
      exact ⟨0, by omega, fun i hi => by
        obtain rfl : i = 0 := by omega
        omega⟩
    · obtain ⟨w, h1, h2⟩ := ih (by omega)
      by_cases hlt : due N < due w
      · refine ⟨N, by omega, fun i hi => ?_⟩
        by_cases e : i = N
        · subst e
          omega
        · have := h2 i (by omega)
          omega
      · refine ⟨w, by omega, fun i hi => ?_⟩
        by_cases e : i = N
        · subst e
          omega
        · exact h2 i (by omega)
/-- These are the turns. -/
def Turns (N : Nat) (per : Nat → Int) : (Nat → Int) → List Int → Prop
  | _, [] => True
  | due, x :: r => ∃ w, Least N due w ∧ x = (w : Int) ∧ Turns N per (upd due per w) r
theorem turns_one (N : Nat) (per : Nat → Int) : ∀ (r s : List Int) (due : Nat → Int), r.length = s.length → Turns N per due r → Turns N per due s → r = s
  | [], [], _, _, _, _ => rfl
  | [], _ :: _, _, h, _, _ => by simp at h
  | _ :: _, [], _, h, _, _ => by simp at h
  | x :: r, y :: s, due, h, h1, h2 => by
    obtain ⟨v, hv, rfl, h1⟩ := h1
    obtain ⟨w, hw, rfl, h2⟩ := h2
    obtain rfl := least_one hv hw
    rw [turns_one N per r s _ (by simpa using h) h1 h2]
theorem turns_ext (N : Nat) (per : Nat → Int) : ∀ (r : List Int) (due due' : Nat → Int), (∀ i, i < N → due i = due' i) → Turns N per due r → Turns N per due' r
  | [], _, _, _, _ => trivial
  | x :: r, due, due', h, h1 => by
    obtain ⟨w, hw, rfl, h1⟩ := h1
    refine ⟨w, ⟨hw.1, fun i hi => by rw [← h w hw.1, ← h i hi]; exact hw.2 i hi⟩, rfl, turns_ext N per r _ _ (fun i hi => ?_) h1⟩
    unfold upd
    rw [h i hi, h w hw.1]
/-- The heap has those that are there. -/
structure Inv (N : Nat) (due per : Nat → Int) (l : List S40) : Prop where
  perm : l.Perm (rows N due per)
  heap : Heap l.length l
theorem Inv.len {N : Nat} {due per : Nat → Int} {l : List S40} (h : Inv N due per l) : l.length = N := by
  rw [h.perm.length_eq]
  simp [rows]
theorem rows_split (N w : Nat) (h : w < N) : ∃ rest : List Nat, w ∉ rest ∧ ∀ f : Nat → S40, ((List.range N).map f).Perm (f w :: rest.map f) := by
  have hp := List.perm_cons_erase (List.mem_range.2 h)
  refine ⟨(List.range N).erase w, List.nodup_range.not_mem_erase, fun f => ?_⟩
  exact hp.map f
theorem rows_upd (N : Nat) (due per : Nat → Int) (w : Nat) (h : w < N) : ∃ rest : List S40, (rows N due per).Perm (⟨due w, (w : Int), per w⟩ :: rest) ∧ (rows N (upd due per w) per).Perm (⟨due w + per w, (w : Int), per w⟩ :: rest) := by
  obtain ⟨r, hr, hp⟩ := rows_split N w h
  refine ⟨r.map fun i => ⟨due i, (i : Int), per i⟩, hp _, ?_⟩
  have h1 := hp fun i => (⟨upd due per w i, (i : Int), per i⟩ : S40)
  have e1 : upd due per w w = due w + per w := by simp [upd]
  have e2 : (r.map fun i => (⟨upd due per w i, (i : Int), per i⟩ : S40)) = r.map fun i => ⟨due i, (i : Int), per i⟩ := by
    refine List.map_congr_left fun i hi => ?_
    have : i ≠ w := fun e => hr (e ▸ hi)
    simp [upd, this]
  rw [e2, e1] at h1
  exact h1
theorem next_inv (N : Nat) (due per : Nat → Int) (l : List S40) (h : Inv N due per l) (h0 : 0 < N) : ∃ w, Least N due w ∧ (popX l).f1 = (w : Int) ∧ Inv N (upd due per w) per (nextL l) := by
  have hl : 0 < l.length := by rw [h.len]; exact h0
  have hp := pop_perm l hl
  have hx : popX l ∈ rows N due per := h.perm.mem_iff.1 (hp.mem_iff.1 List.mem_cons_self)
  obtain ⟨w, hw, hxe⟩ := List.mem_map.1 hx
  have hw := List.mem_range.1 hw
  have hle := pop_least l hl h.heap
  refine ⟨w, ⟨hw, fun i hi => ?_⟩, by rw [← hxe], ?_, next_heap l hl h.heap⟩
  · have := hle ⟨due i, (i : Int), per i⟩ (h.perm.mem_iff.2 (List.mem_map.2 ⟨i, List.mem_range.2 hi, rfl⟩))
    rw [← hxe, le_iff] at this
    simp only at this
    omega
  · obtain ⟨rest, h1, h2⟩ := rows_upd N due per w hw
    have h3 : (popX l :: popL l).Perm (popX l :: rest) := by
      rw [← hxe] at hp ⊢
      exact (hp.trans h.perm).trans h1
    have h4 := h3.cons_inv
    refine (nextL_perm l hl).trans ?_
    have e : bump (popX l) = ⟨due w + per w, (w : Int), per w⟩ := by rw [← hxe]; rfl
    rw [e]
    exact (h4.cons _).trans h2.symm
theorem ord_turns (N : Nat) (per : Nat → Int) (h0 : 0 < N) : ∀ (k : Nat) (due : Nat → Int) (l : List S40), Inv N due per l → Turns N per due (ordL k l)
  | 0, _, _, _ => trivial
  | k + 1, due, l, h => by
    obtain ⟨w, h1, h2, h3⟩ := next_inv N due per l h h0
    exact ⟨w, h1, h2, ord_turns N per h0 k _ _ h3⟩
theorem start_inv (l0 : List Int) : ∀ (ps : List Int) (i : Nat) (l : List S40), l0.drop i = ps → i ≤ l0.length → Inv i (fun j => bnd (l0.getD j 0)) (fun j => bnd (l0.getD j 0)) l →
    Inv l0.length (fun j => bnd (l0.getD j 0)) (fun j => bnd (l0.getD j 0)) (startL i ps l)
  | [], i, l, hd, hi, h => by
    have : i = l0.length := by
      have := congrArg List.length hd
      rw [List.length_drop] at this
      simp at this
      omega
    subst this
    exact h
  | p :: ps, i, l, hd, hi, h => by
    have hlt : i < l0.length := by
      have := congrArg List.length hd
      rw [List.length_drop, List.length_cons] at this
      omega
    rw [drop_cons l0 0 i hlt] at hd
    injection hd with h1 h2
    refine start_inv l0 ps (i + 1) _ h2 hlt ⟨?_, push_heap _ _ h.heap⟩
    refine (pushL_perm _ _).trans ?_
    have e : rows (i + 1) (fun j => bnd (l0.getD j 0)) (fun j => bnd (l0.getD j 0)) = rows i (fun j => bnd (l0.getD j 0)) (fun j => bnd (l0.getD j 0)) ++ [⟨bnd p, (i : Int), bnd p⟩] := by
      unfold rows
      rw [List.range_succ, List.map_append, List.map_singleton]
      simp only [h1]
    rw [e]
    exact (h.perm.cons _).trans (List.perm_append_comm (l₁ := [_]))
/-- Each one's period, and when it is due first. -/
def pers (l0 : List Int) : Nat → Int := fun j => bnd (l0.getD j 0)
theorem plan_some (l0 : List Int) (n : Int) (h0 : l0.length ≠ 0) (h1 : l0.length ≤ 100) (h2 : n ≤ 100000) : ∃ r, plan_Order.f l0 n = some r ∧ r.length = n.toNat ∧ Turns l0.length (pers l0) (pers l0) r := by
  unfold plan_Order.f
  by_cases hn : n < 1
  · rw [if_pos (Or.inr hn)]
    exact ⟨[], rfl, by simp; omega, trivial⟩
  · rw [if_neg (by omega), if_neg (by omega)]
    refine ⟨_, rfl, ordL_length _ _, ord_turns _ _ (by omega) _ _ _ (start_inv l0 l0 0 [] rfl (by omega) ⟨List.Perm.refl _, fun c _ h => absurd h (by simp)⟩)⟩

/-! the document's -/
theorem bound_is (p : Int) : dustmanref03_bound.f p = some (bnd p) := by
  unfold dustmanref03_bound.f bnd
  by_cases h1 : p < 1
  · rw [if_pos h1]
    congr 1
    omega
  · rw [if_neg h1]
    by_cases h2 : p > 1000
    · rw [if_pos h2]
      congr 1
      omega
    · rw [if_neg h2]
      congr 1
      omega
theorem ref_scan (l0 : List Int) (n : Int) (out due : List Int) (kk : Int) (hN : due.length ≤ 1000) (w0 : Nat) (hL : Least due.length (fun i => due.getD i 0) w0) (r : List Int)
    (next : Ev (fun k => if out.length < 17592186044416 then (if 0 ≤ (w0 : Int) then (if (w0 : Int) < (due.length : Int) then (if (w0 : Int) < (l0.length : Int) then ((dustmanref03_bound.f (rd l0 w0)).bind fun t139 => (dustmanref03_Order.l1 k l0 n (out ++ [(w0 : Int)]) (due.set (w0 : Int).toNat (wrap64 ((rd due w0) + t139))) (wrap64 (kk + 1)))) else (none)) else (none)) else (none)) else (none)) r) :
    ∀ (d i w : Nat), due.length - i = d → i ≤ due.length → w < i → (∀ j, j < i → due.getD w 0 < due.getD j 0 ∨ due.getD w 0 = due.getD j 0 ∧ w ≤ j) →
    Ev (fun k => dustmanref03_Order.l2 k l0 n out due kk (w : Int) (i : Int)) r := by
  intro d
  induction d with
  | zero =>
    intro i w hd hi hw hs
    obtain rfl : i = due.length := by omega
    obtain rfl := least_one (due := fun i => due.getD i 0) ⟨hw, hs⟩ hL
    refine Ev.step (fun k => ?_) next
    simp only [dustmanref03_Order.l2]
    rw [if_neg (by omega)]
  | succ d ih =>
    intro i w hd hi hw hs
    by_cases hlt : due.getD i 0 < due.getD w 0
    · refine Ev.step (fun k => ?_) (ih (i + 1) i (by omega) (by omega) (by omega) (fun j hj => ?_))
      · simp only [dustmanref03_Order.l2]
        rw [if_pos (by omega), if_pos (by omega), if_pos (by omega), if_pos (by omega), rdn, rdn, if_pos hlt, wrap_in (by omega) (by omega), nat1]
      · by_cases e : j = i
        · subst e
          omega
        · have := hs j (by omega)
          omega
    · refine Ev.step (fun k => ?_) (ih (i + 1) w (by omega) (by omega) (by omega) (fun j hj => ?_))
      · simp only [dustmanref03_Order.l2]
        rw [if_pos (by omega), if_pos (by omega), if_pos (by omega), if_pos (by omega), rdn, rdn, if_neg hlt, wrap_in (by omega) (by omega), nat1]
      · by_cases e : j = i
        · subst e
          omega
        · exact hs j (by omega)
theorem ref_turns (l0 : List Int) (n : Nat) (h0 : l0.length ≠ 0) (h1 : l0.length ≤ 1000) (hn : n ≤ 100000) : ∀ (d k : Nat) (out due : List Int), n - k = d → k ≤ n → out.length = k → due.length = l0.length → (∀ i, 0 ≤ due.getD i 0 ∧ due.getD i 0 ≤ 1000 * (k + 1)) →
    ∃ r, Ev (fun j => dustmanref03_Order.l1 j l0 (n : Int) out due (k : Int)) (out ++ r) ∧ r.length = d ∧ Turns l0.length (pers l0) (fun i => due.getD i 0) r := by
  intro d
  induction d with
  | zero =>
    intro k out due hd hk ho hl hb
    refine ⟨[], ?_, rfl, trivial⟩
    rw [List.append_nil]
    exact Ev.step (f := fun _ => some out) (fun j => by simp only [dustmanref03_Order.l1]; rw [if_neg (by omega)]) (Ev.now _)
  | succ d ih =>
    intro k out due hd hk ho hl hb
    obtain ⟨w, hw⟩ := least_some due.length (fun i => due.getD i 0) (by omega)
    have hp := bnd_at (l0.getD w 0)
    have hbw := hb w
    have hset : ∀ i, (due.set w (due.getD w 0 + bnd (l0.getD w 0))).getD i 0 = upd (fun i => due.getD i 0) (pers l0) w i := by
      intro i
      unfold upd pers
      simp only [List.getD_eq_getElem?_getD, List.getElem?_set]
      by_cases e : w = i
      · subst e
        rw [if_pos rfl, if_pos hw.1, if_pos rfl]
        rfl
      · rw [if_neg e, if_neg (fun h => e h.symm)]
    obtain ⟨r, hr, hrl, hrt⟩ := ih (k + 1) (out ++ [(w : Int)]) (due.set w (due.getD w 0 + bnd (l0.getD w 0))) (by omega) (by omega) (by rw [List.length_append, ho]; rfl) (by rw [List.length_set, hl]) (fun i => by
      rw [hset i]
      unfold upd pers
      have := hb i
      by_cases e : i = w
      · simp only [if_pos e]
        omega
      · simp only [if_neg e]
        omega)
    refine ⟨(w : Int) :: r, ?_, by rw [List.length_cons, hrl], ⟨w, by rw [← hl]; exact hw, rfl, ?_⟩⟩
    · refine Ev.step (fun j => ?_) (ref_scan l0 n out due k (by omega) w hw _ ?_ (due.length - 1) 1 0 (by omega) (by omega) (by omega) (fun j hj => ?_))
      · simp only [dustmanref03_Order.l1]
        rw [if_pos (by omega)]
        rfl
      · have e : out ++ (w : Int) :: r = out ++ [(w : Int)] ++ r := by simp
        rw [e]
        refine Ev.congr (fun j => ?_) hr
        have hw1 := hw.1
        rw [if_pos (by omega), if_pos (by omega), if_pos (by omega), if_pos (by omega), rdn, rdn, bound_is, Option.bind_some, wrap_in (x := due.getD w 0 + bnd (l0.getD w 0)) (by omega) (by omega), wrap_in (by omega) (by omega), nat1, Int.toNat_natCast]
      · obtain rfl : j = 0 := by omega
        omega
    · have e : (fun i => (due.set w (due.getD w 0 + bnd (l0.getD w 0))).getD i 0) = upd (fun i => due.getD i 0) (pers l0) w := funext hset
      rw [e] at hrt
      exact hrt
theorem ref_start (l0 : List Int) (n : Int) (h1 : l0.length ≤ 1000) (r : List Int) (next : Ev (fun j => dustmanref03_Order.l1 j l0 n [] (l0.map bnd) 0) r) : ∀ (d i : Nat), l0.length - i = d → i ≤ l0.length → Ev (fun j => dustmanref03_Order.l0 j l0 n ((l0.take i).map bnd) (i : Int)) r := by
  intro d
  induction d with
  | zero =>
    intro i hd hi
    obtain rfl : i = l0.length := by omega
    rw [List.take_length]
    refine Ev.step (fun k => ?_) next
    simp only [dustmanref03_Order.l0]
    rw [if_neg (by omega)]
  | succ d ih =>
    intro i hd hi
    have hlt : i < l0.length := by omega
    have e : (l0.take (i + 1)).map bnd = (l0.take i).map bnd ++ [bnd (l0.getD i 0)] := by
      rw [List.take_add_one, List.map_append]
      simp [List.getD_eq_getElem?_getD, List.getElem?_eq_getElem hlt]
    have := ih (i + 1) (by omega) (by omega)
    rw [e] at this
    refine Ev.step (fun k => ?_) this
    simp only [dustmanref03_Order.l0]
    rw [if_pos (by omega), if_pos (by omega), rdn, bound_is, Option.bind_some, if_pos (by rw [List.length_map, List.length_take]; omega), wrap_in (by omega) (by omega), nat1]
theorem ref_some (l0 : List Int) (n : Int) (h0 : l0.length ≠ 0) (h1 : l0.length ≤ 1000) (h2 : n ≤ 100000) : ∃ r, Ev (fun k => dustmanref03_Order.f k l0 n) r ∧ r.length = n.toNat ∧ Turns l0.length (pers l0) (pers l0) r := by
  have hm : ∀ i, (l0.map bnd).getD i 0 = if i < l0.length then bnd (l0.getD i 0) else 0 := by
    intro i
    by_cases h : i < l0.length
    · rw [if_pos h]
      simp [List.getD_eq_getElem?_getD, List.getElem?_eq_getElem h]
    · rw [if_neg h]
      simp [List.getD_eq_getElem?_getD, List.getElem?_eq_none (Nat.le_of_not_lt h)]
  by_cases hn : n < 1
  · refine ⟨[], ?_, by simp; omega, trivial⟩
    refine Ev.congr (fun k => ?_) (ref_start l0 n h1 [] (Ev.step (f := fun _ => some []) (fun k => ?_) (Ev.now _)) l0.length 0 (by omega) (by omega))
    · simp only [dustmanref03_Order.f]
      rw [if_neg (by omega)]
      rfl
    · simp only [dustmanref03_Order.l1]
      rw [if_neg (by omega)]
  · obtain ⟨m, rfl⟩ := Int.eq_ofNat_of_zero_le (show 0 ≤ n by omega)
    obtain ⟨r, hr, hrl, hrt⟩ := ref_turns l0 m h0 h1 (by omega) m 0 [] (l0.map bnd) (by omega) (by omega) rfl (List.length_map ..) (fun i => by
      rw [hm i]
      have := bnd_at (l0.getD i 0)
      split <;> omega)
    refine ⟨r, ?_, by rw [hrl]; omega, ?_⟩
    · refine Ev.congr (fun k => ?_) (ref_start l0 m h1 r (by simpa using hr) l0.length 0 (by omega) (by omega))
      simp only [dustmanref03_Order.f]
      rw [if_neg (by omega)]
      rfl
    · refine turns_ext l0.length (pers l0) r _ _ (fun i hi => ?_) hrt
      rw [hm i, if_pos hi]
      rfl

end Go.Proofs.Ythehejpagkbnmaa.P
