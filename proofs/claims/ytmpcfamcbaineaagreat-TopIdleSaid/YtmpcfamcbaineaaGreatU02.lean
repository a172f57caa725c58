/- Part 2 of the proof: contracts of the functions that the law reaches, and the plain law. No condition. -/
import Derived.Test.YtmpcfamcbaineaaGreatU01
namespace Go.Proofs.YtmpcfamcbaineaaGreat.Mo
open Go.RowKit Go.Proofs.YtmpcfamcbaineaaGreat.Mo
set_option linter.unusedVariables false
set_option linter.unusedSimpArgs false
abbrev Dom := Nat → Prop
abbrev Asr := Dom → World → Prop
structure Bk where
  b : Nat
  t : Nat
  cs : List Value
def Bk.is (x : Bk) (w : World) : Prop := w.heap[x.b]? = some (.cells x.cs.toArray x.t (0, 0))
def Loc (R : Asr) : Prop := ∀ D w w', R D w → (∀ k, D k → w'.heap[k]? = w.heap[k]?) → R D w'
def emp : Asr := fun D _ => ∀ k, ¬ D k
theorem loc_emp : Loc emp := fun _ _ _ h _ => h
def blk (x : Bk) (R : Asr) : Asr := fun D w => x.is w ∧ ∃ D1, R D1 w ∧ ¬ D1 x.b ∧ ∀ k, D k ↔ (k = x.b ∨ D1 k)
theorem loc_blk {x : Bk} {R : Asr} (h : Loc R) : Loc (blk x R) := fun D w w' ⟨h1, D1, h2, h3, h4⟩ hk =>
  ⟨(hk x.b ((h4 _).2 (.inl rfl))).trans h1, D1, h D1 w w' h2 (fun k hd => hk k ((h4 k).2 (.inr hd))), h3, h4⟩
def sep (R R' : Asr) : Asr := fun D w => ∃ D1 D2, R D1 w ∧ R' D2 w ∧ (∀ k, D1 k → ¬ D2 k) ∧ ∀ k, D k ↔ (D1 k ∨ D2 k)
theorem loc_sep {R R' : Asr} (h : Loc R) (h' : Loc R') : Loc (sep R R') := fun D w w' ⟨D1, D2, h1, h2, h3, h4⟩ hk =>
  ⟨D1, D2, h D1 w w' h1 (fun k hd => hk k ((h4 k).2 (.inl hd))), h' D2 w w' h2 (fun k hd => hk k ((h4 k).2 (.inr hd))), h3, h4⟩
def blks : List Bk → Asr → Asr
  | [], R => R
  | x :: H, R => blk x (blks H R)
theorem loc_blks {R : Asr} (h : Loc R) : ∀ H, Loc (blks H R)
  | [] => h
  | x :: H => loc_blk (loc_blks h H)
theorem loc_ex {α : Sort _} {R : α → Asr} (h : ∀ a, Loc (R a)) : Loc (fun D w => ∃ a, R a D w) := fun D w w' ⟨a, ha⟩ hk => ⟨a, h a D w w' ha hk⟩
theorem loc_and {p : Prop} {R : Asr} (h : Loc R) : Loc (fun D w => p ∧ R D w) := fun D w w' ⟨hp, ha⟩ hk => ⟨hp, h D w w' ha hk⟩
structure Amb (C : Cx) (w : World) (D : Dom) : Prop where
  map : MapAt w C
  lt : ∀ k, D k → k < w.heap.size
  ls : C.s < w.heap.size ∧ C.g < w.heap.size
  ns : ¬ D C.s
  ng : ¬ D C.g
  nm : ¬ D C.m ∧ C.m ≠ C.s ∧ C.m ≠ C.g
  na : ¬ D C.ga ∧ C.ga ≠ C.s ∧ C.ga ≠ C.g
  nr : ¬ D C.gr ∧ C.gr ≠ C.s ∧ C.gr ≠ C.g
def Cx.with (C : Cx) (D : Dom) : Dom := fun k => D k ∨ k = C.s ∨ k = C.g
theorem MapAt.lt {w : World} {C : Cx} (h : MapAt w C) : C.m < w.heap.size ∧ C.ga < w.heap.size ∧ C.gr < w.heap.size :=
  ⟨lt_of_block h.mb, (World.ownsRow.lt h.ra C.ga rfl).2, (World.ownsRow.lt h.rr C.gr rfl).2⟩
theorem MapAt.chg {w w' : World} {C : Cx} (h : MapAt w C) {F : Nat → Prop} (hb : Chg F w w') (h1 : ¬ F C.m) (h2 : ¬ F C.ga) (h3 : ¬ F C.gr) : MapAt w' C := by
  refine ⟨h.ok, (hb.block C.m h.lt.1 h1).trans h.mb, own_move h.ra (fun k hk => ?_), own_move h.rr (fun k hk => ?_)⟩
  · have e : C.ga = k := by simpa [Value.ownBlock] using hk
    subst e
    exact hb.block C.ga h.lt.2.1 h2
  · have e : C.gr = k := by simpa [Value.ownBlock] using hk
    subst e
    exact hb.block C.gr h.lt.2.2 h3
def Ct (C : Cx) (f : Nat) (args : Array Value) (l : Wds) (R : Asr) (Q : Value → Wds → Asr) : Prop :=
  ∀ w D, Amb C w D → Mem w C l → R D w → Calls Tryz.prog f args w fun e w' => ∃ v l' D', e = .returned v ∧ Mem w' C l' ∧ Q v l' D' w' ∧
    Chg (C.with D) w w' ∧ ∀ k, D' k → k < w'.heap.size ∧ (D k ∨ w.heap.size ≤ k)
structure Sy (C : Cx) (w0 : World) (D0 : Dom) (l : Wds) (H : List Bk) (R : Asr) (w : World) : Prop where
  amb : Amb C w0 D0
  chg : Chg (C.with D0) w0 w
  mem : Mem w C l
  loc : Loc R
  rep : ∃ D, blks H R D w ∧ ∀ k, D k → k < w.heap.size ∧ (D0 k ∨ w0.heap.size ≤ k)
section
variable {C : Cx} {w0 : World} {D0 : Dom} {l : Wds} {H : List Bk} {R : Asr} {w : World}
theorem Sy.drew (h : Sy C w0 D0 l H R w) : Sy C w0 D0 l H R w.drew := by
  obtain ⟨D, h1, h2⟩ := h.rep
  have hm := h.mem
  refine ⟨h.amb, h.chg.drew, ?_, h.loc, D, loc_blks h.loc H D w _ h1 (fun _ _ => rfl), h2⟩
  exact hm.chg (F := fun _ => False) ⟨rfl, rfl, rfl, Nat.le_refl _, fun _ _ _ => rfl⟩ id id
theorem Sy.map (h : Sy C w0 D0 l H R w) : MapAt w C := by
  have ha := h.amb
  refine ha.map.chg h.chg ?_ ?_ ?_
  · rintro (h1 | h1 | h1)
    · exact ha.nm.1 h1
    · exact ha.nm.2.1 h1
    · exact ha.nm.2.2 h1
  · rintro (h1 | h1 | h1)
    · exact ha.na.1 h1
    · exact ha.na.2.1 h1
    · exact ha.na.2.2 h1
  · rintro (h1 | h1 | h1)
    · exact ha.nr.1 h1
    · exact ha.nr.2.1 h1
    · exact ha.nr.2.2 h1
theorem Amb.later {C : Cx} {w0 w : World} {D0 D : Dom} (h : Amb C w0 D0) (hsz : w0.heap.size ≤ w.heap.size) (hm : MapAt w C) (hD : ∀ k, D k → k < w.heap.size ∧ (D0 k ∨ w0.heap.size ≤ k)) : Amb C w D := by
  have no : ∀ b, ¬ D0 b → b < w0.heap.size → ¬ D b := fun b h1 h2 h3 => by
    rcases (hD b h3).2 with h4 | h4
    · exact h1 h4
    · omega
  have h1 := h.map.lt
  have h2 := h.ls
  exact ⟨hm, fun k hk => (hD k hk).1, ⟨Nat.lt_of_lt_of_le h2.1 hsz, Nat.lt_of_lt_of_le h2.2 hsz⟩, no _ h.ns h2.1, no _ h.ng h2.2, ⟨no _ h.nm.1 h1.1, h.nm.2⟩, ⟨no _ h.na.1 h1.2.1, h.na.2⟩, ⟨no _ h.nr.1 h1.2.2, h.nr.2⟩⟩
theorem blks_mem {H : List Bk} {R : Asr} {D : Dom} {w : World} (h : blks H R D w) {x : Bk} (hx : x ∈ H) : x.is w ∧ D x.b := by
  induction H generalizing D with
  | nil => cases hx
  | cons y H ih =>
    obtain ⟨h1, D1, h2, h3, h4⟩ := h
    rcases List.mem_cons.1 hx with rfl | hx
    · exact ⟨h1, (h4 _).2 (.inl rfl)⟩
    · have := ih h2 hx
      exact ⟨this.1, (h4 _).2 (.inr this.2)⟩
end
inductive Upd : List Bk → Nat → (List Value → List Value) → List Bk → Prop
  | z {b t : Nat} {cs : List Value} {H : List Bk} {f : List Value → List Value} : Upd (⟨b, t, cs⟩ :: H) b f (⟨b, t, f cs⟩ :: H)
  | s {x : Bk} {H H' : List Bk} {b : Nat} {f : List Value → List Value} (h : Upd H b f H') : Upd (x :: H) b f (x :: H')
inductive In : Nat → List Value → List Bk → Prop
  | z {b t : Nat} {cs : List Value} {H : List Bk} : In b cs (⟨b, t, cs⟩ :: H)
  | s {x : Bk} {H : List Bk} {b : Nat} {cs : List Value} (h : In b cs H) : In b cs (x :: H)
theorem In.mem {b : Nat} {cs : List Value} {H : List Bk} (h : In b cs H) : ∃ t, ⟨b, t, cs⟩ ∈ H := by
  induction h with
  | z => exact ⟨_, List.mem_cons_self ..⟩
  | s _ ih => obtain ⟨t, h⟩ := ih; exact ⟨t, List.mem_cons_of_mem _ h⟩
def nth : List Value → Nat → Option Value
  | [], _ => none
  | c :: _, 0 => some c
  | _ :: cs, k + 1 => nth cs k
def setc : List Value → Nat → Value → List Value
  | [], _, _ => []
  | _ :: cs, 0, v => v :: cs
  | c :: cs, k + 1, v => c :: setc cs k v
theorem nth_eq : ∀ (cs : List Value) (k : Nat), nth cs k = cs[k]?
  | [], _ => rfl
  | _ :: _, 0 => rfl
  | _ :: cs, k + 1 => by simp [nth, nth_eq cs k]
theorem setc_eq : ∀ (cs : List Value) (k : Nat) (v : Value), setc cs k v = cs.set k v
  | [], _, _ => rfl
  | _ :: _, 0, _ => rfl
  | _ :: cs, k + 1, v => by simp [setc, setc_eq cs k v]
theorem blks_upd {H H' : List Bk} {b : Nat} {f : List Value → List Value} {R : Asr} (hR : Loc R) {D : Dom} {w w' : World} (h : blks H R D w) (hu : Upd H b f H')
    (hw : ∀ t cs, w.heap[b]? = some (.cells (List.toArray cs) t (0, 0)) → w'.heap[b]? = some (.cells (f cs).toArray t (0, 0))) (ho : ∀ k, k ≠ b → D k → w'.heap[k]? = w.heap[k]?) : blks H' R D w' := by
  induction hu generalizing D with
  | z =>
    obtain ⟨h1, D1, h2, h3, h4⟩ := h
    exact ⟨hw _ _ h1, D1, loc_blks hR _ D1 w w' h2 (fun k hk => ho k (fun e => h3 (e ▸ hk)) ((h4 k).2 (.inr hk))), h3, h4⟩
  | @s x H H' b f hu ih =>
    obtain ⟨h1, D1, h2, h3, h4⟩ := h
    have hb : D1 b := by
      have : ∃ y ∈ H, y.b = b := by
        clear ih h2 h1 h3 h4 hw ho
        induction hu with
        | z => exact ⟨_, List.mem_cons_self .., rfl⟩
        | s _ ih => obtain ⟨y, hy, e⟩ := ih; exact ⟨y, List.mem_cons_of_mem _ hy, e⟩
      obtain ⟨y, hy, rfl⟩ := this
      exact (blks_mem h2 hy).2
    refine ⟨(ho x.b (fun e => h3 (e ▸ hb)) ((h4 _).2 (.inl rfl))).trans h1, D1, ih h2 hw (fun k hk hd => ho k hk ((h4 k).2 (.inr hd))), h3, h4⟩
section
variable {C : Cx} {w0 : World} {D0 : Dom} {l : Wds} {H H' : List Bk} {R : Asr} {w : World}
theorem Sy.cell (h : Sy C w0 D0 l H R w) {b : Nat} {cs : List Value} (hi : In b cs H) {o : Nat} {v : Value} (hv : nth cs o = some v) : w.cell? ⟨b, o, none⟩ = some v ∧ w.frozen? ⟨b, o, none⟩ = false := by
  obtain ⟨D, h1, h2⟩ := h.rep
  obtain ⟨t, hm⟩ := hi.mem
  have h3 := (blks_mem h1 hm).1
  unfold Bk.is at h3
  rw [nth_eq] at hv
  constructor
  · simp [World.cell?, h3, hv]
  · simp [World.frozen?, h3]
theorem Sy.notMem (h : Sy C w0 D0 l H R w) {k : Nat} (hk : D0 k ∨ w0.heap.size ≤ k) : k ≠ C.s ∧ k ≠ C.g := by
  have ha := h.amb
  have h2 := ha.ls
  constructor
  · rintro rfl
    rcases hk with hk | hk
    · exact ha.ns hk
    · omega
  · rintro rfl
    rcases hk with hk | hk
    · exact ha.ng hk
    · omega
theorem upd_in {H H' : List Bk} {b : Nat} {f : List Value → List Value} (h : Upd H b f H') : ∃ x ∈ H, x.b = b := by
  induction h with
  | z => exact ⟨_, List.mem_cons_self .., rfl⟩
  | s _ ih => obtain ⟨y, hy, e⟩ := ih; exact ⟨y, List.mem_cons_of_mem _ hy, e⟩
end
section
variable {C : Cx} {w0 : World} {D0 : Dom} {l : Wds} {H H' : List Bk} {R : Asr} {w : World}
theorem Chg.after {F G : Nat → Prop} {w w1 w2 : World} (h : Chg F w w1) (k : Chg G w1 w2) (hFG : ∀ i, i < w.heap.size → G i → F i) : Chg F w w2 :=
  ⟨k.os.trans h.os, k.tape.trans h.tape, k.output.trans h.output, Nat.le_trans h.size k.size, fun i h1 h2 => (k.block i (Nat.lt_of_lt_of_le h1 h.size) (fun h3 => h2 (hFG i h1 h3))).trans (h.block i h1 h2)⟩
theorem heap_setCell_ne {w : World} {b o k : Nat} {v : Value} (h : k ≠ b) : (w.setCell ⟨b, o, none⟩ v).heap[k]? = w.heap[k]? := Below.heap_setCell _ _ _ _ h
theorem Sy.set (h : Sy C w0 D0 l H R w) {b o : Nat} {v : Value} (hu : Upd H b (fun cs => setc cs o v) H') : Sy C w0 D0 l H' R (w.setCell ⟨b, o, none⟩ v) := by
  obtain ⟨D, h1, h2⟩ := h.rep
  obtain ⟨x, hx, rfl⟩ := upd_in hu
  have hx' := blks_mem h1 hx
  have hD := (h2 _ hx'.2).2
  have hn := h.notMem hD
  have hch : Chg (C.with D0) w0 (w.setCell ⟨x.b, o, none⟩ v) := h.chg.setCell v (by
    rcases hD with hD | hD
    · exact .inl (.inl hD)
    · exact .inr hD)
  refine ⟨h.amb, hch, ?_, h.loc, D, blks_upd h.loc h1 hu (fun t cs hc => ?_) (fun k hk _ => heap_setCell_ne hk), fun k hk => ⟨?_, (h2 k hk).2⟩⟩
  · have hm := h.mem
    have := (Chg.refl (fun k => k = x.b) w).setCell (o := o) v (.inl rfl)
    exact hm.chg this hn.1.symm hn.2.symm
  · rw [setCell_same hc, setc_eq]
    simp
  · have := (h2 k hk).1
    simpa [World.setCell] using this
theorem Sy.alloc (h : Sy C w0 D0 l H R w) (t : Nat) (cs : List Value) : Sy C w0 D0 l (⟨w.heap.size, t, cs⟩ :: H) R (w.alloc (.cells cs.toArray t)) := by
  obtain ⟨D, h1, h2⟩ := h.rep
  have hb : Below w.heap.size w (w.alloc (.cells cs.toArray t)) := below_alloc (Below.refl _ _) _
  have hch := h.chg.alloc (.cells cs.toArray t)
  refine ⟨h.amb, hch, ?_, h.loc, fun k => k = w.heap.size ∨ D k, ⟨?_, D, loc_blks h.loc H D w _ h1 (fun k hk => hb.block k (h2 k hk).1), fun hk => ?_, fun k => Iff.rfl⟩, fun k hk => ?_⟩
  · have hm := h.mem
    exact hm.chg (Chg.below (F := fun _ => False) hb) id id
  · show (w.heap.push _)[w.heap.size]? = _
    simp
  · exact absurd (h2 _ hk).1 (Nat.lt_irrefl _)
  · have hs := h.chg.size
    rcases hk with rfl | hk
    · refine ⟨?_, .inr hs⟩
      show _ < (w.heap.push _).size
      simp
    · have := h2 k hk
      refine ⟨?_, this.2⟩
      have := this.1
      show _ < (w.heap.push _).size
      simp
      omega
theorem Sy.call {f : Nat} {args : Array Value} {Q : Value → Wds → Asr} (h : Sy C w0 D0 l H R w) (hc : Ct C f args l R Q) (hl : ∀ v l', Loc (Q v l')) :
    Calls Tryz.prog f args w fun e w' => ∃ v, e = .returned v ∧ ∃ l', (∃ D w, Q v l' D w) ∧ Sy C w0 D0 l' H (Q v l') w' := by
  obtain ⟨D, h1, h2⟩ := h.rep
  -- the piece in two: the blocks, and R's
  have hsplit : ∀ (H : List Bk) (D : Dom), blks H R D w → ∃ D1, R D1 w ∧ (∀ k, D1 k → D k) ∧ (∀ x ∈ H, ¬ D1 x.b) ∧
      ∀ (D2 : Dom) (w' : World) (R' : Asr), R' D2 w' → (∀ k, D2 k → D1 k ∨ ¬ D k) → (∀ x ∈ H, x.is w → x.is w') → ∃ D', blks H R' D' w' ∧ ∀ k, D' k → D2 k ∨ (D k ∧ ¬ D1 k) := by
    intro H
    induction H with
    | nil => exact fun D h => ⟨D, h, fun _ hk => hk, by simp, fun D2 w' R' h2 _ _ => ⟨D2, h2, fun k hk => .inl hk⟩⟩
    | cons x H ih =>
      rintro D ⟨h1, DH, h2, h3, h4⟩
      obtain ⟨D1, g1, g2, g3, g4⟩ := ih DH h2
      refine ⟨D1, g1, fun k hk => (h4 k).2 (.inr (g2 k hk)), fun y hy => ?_, fun D2 w' R' k1 k2 k3 => ?_⟩
      · rcases List.mem_cons.1 hy with rfl | hy
        · exact fun hd => h3 (g2 _ hd)
        · exact g3 y hy
      · obtain ⟨D', m1, m2⟩ := g4 D2 w' R' k1 (fun k hk => (k2 k hk).imp id (fun hn hd => hn ((h4 k).2 (.inr hd)))) (fun y hy => k3 y (List.mem_cons_of_mem _ hy))
        refine ⟨fun k => k = x.b ∨ D' k, ⟨k3 x (List.mem_cons_self ..) h1, D', m1, fun hx => ?_, fun k => Iff.rfl⟩, fun k hk => ?_⟩
        · rcases m2 _ hx with m2 | ⟨m2, -⟩
          · rcases k2 _ m2 with k2 | k2
            · exact h3 (g2 _ k2)
            · exact k2 ((h4 _).2 (.inl rfl))
          · exact h3 m2
        · rcases hk with rfl | hk
          · exact .inr ⟨(h4 _).2 (.inl rfl), fun hd => h3 (g2 _ hd)⟩
          · rcases m2 k hk with m2 | ⟨m2, m3⟩
            · exact .inl m2
            · exact .inr ⟨(h4 k).2 (.inr m2), m3⟩
  obtain ⟨D1, g1, g2, g3, g4⟩ := hsplit H D h1
  have hsz := h.chg.size
  have hamb : Amb C w D1 := h.amb.later hsz h.map (fun k hk => h2 k (g2 k hk))
  refine (hc w D1 hamb h.mem g1).mono ?_
  rintro e w' ⟨v, l', D', rfl, hm, hQ, hch, hD'⟩
  obtain ⟨DD, m1, m2⟩ := g4 D' w' (Q v l') hQ (fun k hk => (hD' k hk).2.imp id (fun hk hd => by have := (h2 k hd).1; omega)) (fun x hx hxw => by
    have hxD := (blks_mem h1 hx).2
    have hlt := (h2 _ hxD)
    have hn := h.notMem hlt.2
    refine (hch.block x.b hlt.1 ?_).trans hxw
    rintro (h5 | h5 | h5)
    · exact g3 x hx h5
    · exact hn.1 h5
    · exact hn.2 h5)
  refine ⟨v, rfl, l', ⟨D', w', hQ⟩, h.amb, h.chg.after hch (fun k hk h5 => ?_), hm, hl v l', DD, m1, fun k hk => ?_⟩
  · rcases h5 with h5 | h5
    · rcases (h2 k (g2 k h5)).2 with h6 | h6
      · exact .inl h6
      · omega
    · exact .inr h5
  · rcases m2 k hk with m2 | ⟨m2, m3⟩
    · have := hD' k m2
      refine ⟨this.1, ?_⟩
      rcases this.2 with h6 | h6
      · exact (h2 k (g2 k h6)).2
      · exact .inr (by omega)
    · have := h2 k m2
      have := hch.size
      exact ⟨by omega, (h2 k m2).2⟩
end
abbrev ptr (b : Nat) : Value := .pointer (some ⟨b, 0, none⟩)
abbrev fm (id d : Nat) : Value := .func (.func id) #[ptr d] #[]
def Mch (t d : Nat) (cs : Value → List Value) (Nx : Value → Asr → Prop) : Asr := fun D w => ∃ nv RN, Nx nv RN ∧ blk ⟨d, t, cs nv⟩ RN D w
theorem loc_Mch {t d : Nat} {cs : Value → List Value} {Nx : Value → Asr → Prop} (h : ∀ nv RN, Nx nv RN → Loc RN) : Loc (Mch t d cs Nx) := fun D w w' ⟨nv, RN, h1, h2⟩ hk => ⟨nv, RN, h1, loc_blk (h nv RN h1) D w w' h2 hk⟩
section
variable {C : Cx} {w0 : World} {D0 : Dom} {l : Wds} {H : List Bk} {R : Asr}
theorem Sy.opens {H2 : List Bk} {w : World} (h : Sy C w0 D0 l [] (blks H2 R) w) (hl : Loc R) : Sy C w0 D0 l H2 R w := ⟨h.amb, h.chg, h.mem, hl, h.rep⟩
theorem blks_app : ∀ (H1 H2 : List Bk) (R : Asr), blks (H1 ++ H2) R = blks H1 (blks H2 R)
  | [], _, _ => rfl
  | x :: H1, H2, R => by
    show blk x (blks (H1 ++ H2) R) = blk x (blks H1 (blks H2 R))
    rw [blks_app H1 H2 R]
theorem Sy.unfold {H1 H2 : List Bk} {w : World} (h : Sy C w0 D0 l H1 (blks H2 R) w) (hl : Loc R) : Sy C w0 D0 l (H1 ++ H2) R w := ⟨h.amb, h.chg, h.mem, hl, by rw [blks_app]; exact h.rep⟩
theorem Sy.fold {H1 H2 : List Bk} {w : World} (h : Sy C w0 D0 l (H1 ++ H2) R w) : Sy C w0 D0 l H1 (blks H2 R) w := ⟨h.amb, h.chg, h.mem, loc_blks h.loc H2, by rw [← blks_app]; exact h.rep⟩
theorem Sy.exR {α : Sort _} {R : α → Asr} {w : World} (h : Sy C w0 D0 l H (fun D w => ∃ a, R a D w) w) (hl : ∀ a, Loc (R a)) : ∃ a, Sy C w0 D0 l H (R a) w := by
  obtain ⟨D, h1, h2⟩ := h.rep
  have hb : ∀ (H : List Bk) (D : Dom), blks H (fun D w => ∃ a, R a D w) D w → ∃ a, blks H (R a) D w := by
    intro H
    induction H with
    | nil => exact fun D h => h
    | cons x H ih =>
      rintro D ⟨g1, D1, g2, g3, g4⟩
      obtain ⟨a, ha⟩ := ih D1 g2
      exact ⟨a, g1, D1, ha, g3, g4⟩
  obtain ⟨a, ha⟩ := hb H D h1
  exact ⟨a, h.amb, h.chg, h.mem, hl a, D, ha, h2⟩
theorem Sy.andR {p : Prop} {R : Asr} {w : World} (h : Sy C w0 D0 l H (fun D w => p ∧ R D w) w) (hl : Loc R) : p ∧ Sy C w0 D0 l H R w := by
  obtain ⟨D, h1, h2⟩ := h.rep
  have hb : ∀ (H : List Bk) (D : Dom), blks H (fun D w => p ∧ R D w) D w → p ∧ blks H R D w := by
    intro H
    induction H with
    | nil => exact fun D h => h
    | cons x H ih =>
      rintro D ⟨g1, D1, g2, g3, g4⟩
      obtain ⟨hp, ha⟩ := ih D1 g2
      exact ⟨hp, g1, D1, ha, g3, g4⟩
  obtain ⟨hp, ha⟩ := hb H D h1
  exact ⟨hp, h.amb, h.chg, h.mem, hl, D, ha, h2⟩
theorem Sy.andR' {p : Prop} {R : Asr} {w : World} (h : Sy C w0 D0 l H (fun D w => p ∧ R D w) w) (hl : p → Loc R) : p ∧ Sy C w0 D0 l H R w := by
  obtain ⟨D, h1, h2⟩ := h.rep
  have hb : ∀ (H : List Bk) (D : Dom), blks H (fun D w => p ∧ R D w) D w → p ∧ blks H R D w := by
    intro H
    induction H with
    | nil => exact fun D h => h
    | cons x H ih =>
      rintro D ⟨g1, D1, g2, g3, g4⟩
      obtain ⟨hp, ha⟩ := ih D1 g2
      exact ⟨hp, g1, D1, ha, g3, g4⟩
  obtain ⟨hp, ha⟩ := hb H D h1
  exact ⟨hp, h.amb, h.chg, h.mem, hl hp, D, ha, h2⟩
theorem Sy.mch {t d : Nat} {cs : Value → List Value} {Nx : Value → Asr → Prop} {w : World} (h : Sy C w0 D0 l H (Mch t d cs Nx) w) (hl : ∀ nv RN, Nx nv RN → Loc RN) : ∃ nv RN, Nx nv RN ∧ Loc RN ∧ Sy C w0 D0 l (H ++ [⟨d, t, cs nv⟩]) RN w := by
  obtain ⟨D, h1, h2⟩ := h.rep
  have hb : ∀ (H : List Bk) (D : Dom), blks H (Mch t d cs Nx) D w → ∃ nv RN, Nx nv RN ∧ blks (H ++ [⟨d, t, cs nv⟩]) RN D w := by
    intro H
    induction H with
    | nil => exact fun D h => h
    | cons x H ih =>
      rintro D ⟨g1, D1, g2, g3, g4⟩
      obtain ⟨nv, RN, hn, ha⟩ := ih D1 g2
      exact ⟨nv, RN, hn, g1, D1, ha, g3, g4⟩
  obtain ⟨nv, RN, hn, ha⟩ := hb H D h1
  exact ⟨nv, RN, hn, hl nv RN hn, h.amb, h.chg, h.mem, hl nv RN hn, D, ha, h2⟩
end
theorem blks_one {x : Bk} {H : List Bk} {R : Asr} {D : Dom} {w : World} (h : blks (x :: H) R D w) : ∃ D', blks [x] emp D' w ∧ ∀ k, D' k → D k := by
  obtain ⟨g1, D1, g2, g3, g4⟩ := h
  exact ⟨fun k => k = x.b, ⟨g1, fun _ => False, fun _ h => h, id, fun k => by simp⟩, fun k hk => (g4 k).2 (.inl hk)⟩
theorem blks_tail {x : Bk} {H : List Bk} {R : Asr} {D : Dom} {w : World} (h : blks (x :: H) R D w) : ∃ D', blks H R D' w ∧ ∀ k, D' k → D k := by
  obtain ⟨g1, D1, g2, g3, g4⟩ := h
  exact ⟨D1, g2, fun k hk => (g4 k).2 (.inr hk)⟩
theorem blks_drop {H : List Bk} {R : Asr} {D : Dom} {w : World} (h : blks H R D w) : ∃ D', blks H emp D' w ∧ ∀ k, D' k → D k := by
  induction H generalizing D with
  | nil => exact ⟨fun _ => False, fun _ h => h, fun _ h => h.elim⟩
  | cons x H ih =>
    obtain ⟨g1, D1, g2, g3, g4⟩ := h
    obtain ⟨D', m1, m2⟩ := ih g2
    refine ⟨fun k => k = x.b ∨ D' k, ⟨g1, D', m1, fun hx => g3 (m2 _ hx), fun k => Iff.rfl⟩, fun k hk => (g4 k).2 ?_⟩
    rcases hk with hk | hk
    · exact .inl hk
    · exact .inr (m2 k hk)
theorem blks_all {H : List Bk} {R : Asr} {D : Dom} {w : World} (h : blks H R D w) : H.Pairwise (fun x y => x.b ≠ y.b) ∧ (∀ x ∈ H, x.is w ∧ D x.b) ∧ ∃ DR, R DR w ∧ (∀ x ∈ H, ¬ DR x.b) ∧ ∀ k, DR k → D k := by
  induction H generalizing D with
  | nil => exact ⟨.nil, by simp, D, h, by simp, fun _ h => h⟩
  | cons x H ih =>
    obtain ⟨g1, D1, g2, g3, g4⟩ := h
    obtain ⟨h1, h2, DR, h3, h4, h5⟩ := ih g2
    refine ⟨List.pairwise_cons.2 ⟨fun y hy e => g3 (e ▸ (h2 y hy).2), h1⟩, fun y hy => ?_, DR, h3, fun y hy => ?_, fun k hk => (g4 k).2 (.inr (h5 k hk))⟩
    · rcases List.mem_cons.1 hy with rfl | hy
      · exact ⟨g1, (g4 _).2 (.inl rfl)⟩
      · exact ⟨(h2 y hy).1, (g4 _).2 (.inr (h2 y hy).2)⟩
    · rcases List.mem_cons.1 hy with rfl | hy
      · exact fun hd => g3 (h5 _ hd)
      · exact h4 y hy
theorem blks_mk {R : Asr} {DR : Dom} {w : World} (hR : R DR w) : ∀ {H : List Bk}, H.Pairwise (fun x y => x.b ≠ y.b) → (∀ x ∈ H, x.is w ∧ ¬ DR x.b) → ∃ D, blks H R D w ∧ ∀ k, D k → DR k ∨ ∃ x ∈ H, k = x.b
  | [], _, _ => ⟨DR, hR, fun _ h => .inl h⟩
  | x :: H, hp, hm => by
    obtain ⟨h1, h2⟩ := List.pairwise_cons.1 hp
    obtain ⟨D, g1, g2⟩ := blks_mk hR h2 (fun y hy => hm y (List.mem_cons_of_mem _ hy))
    refine ⟨fun k => k = x.b ∨ D k, ⟨(hm x (List.mem_cons_self ..)).1, D, g1, fun hx => ?_, fun k => Iff.rfl⟩, fun k hk => ?_⟩
    · rcases g2 _ hx with h3 | ⟨y, hy, e⟩
      · exact (hm x (List.mem_cons_self ..)).2 h3
      · exact h1 y hy e
    · rcases hk with rfl | hk
      · exact .inr ⟨x, List.mem_cons_self .., rfl⟩
      · rcases g2 k hk with h3 | ⟨y, hy, e⟩
        · exact .inl h3
        · exact .inr ⟨y, List.mem_cons_of_mem _ hy, e⟩
def pick (H : List Bk) : List Nat → List Bk
  | [] => []
  | i :: r => match H[i]? with
    | some x => x :: pick H r
    | none => pick H r
theorem pick_mem {H : List Bk} : ∀ {is : List Nat} {x : Bk}, x ∈ pick H is → ∃ i ∈ is, H[i]? = some x
  | [], _, h => by cases h
  | i :: r, x, h => by
    unfold pick at h
    split at h
    · rename_i y hy
      rcases List.mem_cons.1 h with rfl | h
      · exact ⟨i, List.mem_cons_self .., hy⟩
      · obtain ⟨j, hj, e⟩ := pick_mem h
        exact ⟨j, List.mem_cons_of_mem _ hj, e⟩
    · obtain ⟨j, hj, e⟩ := pick_mem h
      exact ⟨j, List.mem_cons_of_mem _ hj, e⟩
theorem pick_pair {H : List Bk} (hp : H.Pairwise (fun x y => x.b ≠ y.b)) : ∀ {is : List Nat}, is.Nodup → (pick H is).Pairwise (fun x y => x.b ≠ y.b)
  | [], _ => .nil
  | i :: r, hn => by
    obtain ⟨h1, h2⟩ := List.nodup_cons.1 hn
    unfold pick
    split
    · rename_i x hx
      refine List.pairwise_cons.2 ⟨fun y hy => ?_, pick_pair hp h2⟩
      obtain ⟨j, hj, e⟩ := pick_mem hy
      have hij : i ≠ j := fun e => h1 (e ▸ hj)
      obtain ⟨hi1, hi2⟩ := List.getElem?_eq_some_iff.1 hx
      obtain ⟨hj1, hj2⟩ := List.getElem?_eq_some_iff.1 e
      rw [List.pairwise_iff_getElem] at hp
      rcases Nat.lt_or_gt_of_ne hij with h | h
      · have := hp i j hi1 hj1 h
        rw [hi2, hj2] at this
        exact this
      · have := hp j i hj1 hi1 h
        rw [hi2, hj2] at this
        exact fun e => this e.symm
    · exact pick_pair hp h2
theorem blks_pick (is : List Nat) (hn : is.Nodup) {H : List Bk} {R : Asr} {D : Dom} {w : World} (h : blks H R D w) : ∃ D', blks (pick H is) R D' w ∧ ∀ k, D' k → D k := by
  obtain ⟨h1, h2, DR, h3, h4, h5⟩ := blks_all h
  have hm : ∀ x ∈ pick H is, x ∈ H := fun x hx => by
    obtain ⟨i, -, e⟩ := pick_mem hx
    exact List.mem_of_getElem? e
  obtain ⟨D', g1, g2⟩ := blks_mk h3 (pick_pair h1 hn) (fun x hx => ⟨(h2 x (hm x hx)).1, h4 x (hm x hx)⟩)
  refine ⟨D', g1, fun k hk => ?_⟩
  rcases g2 k hk with h6 | ⟨x, hx, rfl⟩
  · exact h5 k h6
  · exact (h2 x (hm x hx)).2
theorem blks_pick0 (is : List Nat) (hn : is.Nodup) {H : List Bk} {R : Asr} {D : Dom} {w : World} (h : blks H R D w) : ∃ D', blks (pick H is) emp D' w ∧ ∀ k, D' k → D k := by
  obtain ⟨D1, h1, h2⟩ := blks_drop h
  obtain ⟨D2, h3, h4⟩ := blks_pick is hn h1
  exact ⟨D2, h3, fun k hk => h2 k (h4 k hk)⟩
def wps (Q : Exit → Act → World → Prop) : List Code → Act → World → Prop
  | [], a, w => Q .normal a w
  | c :: r, a, w => c.wp Tryz.prog (Exit.then (wps Q r) Q) a w
def T (Q : Exit → Act → World → Prop) (n : Nat) (r : List Code) (S : World → Prop) (e : Env) : Prop := ∀ w a, S w → Fits a n e → wps Q r a w
section
variable {Q : Exit → Act → World → Prop} {n : Nat} {r : List Code} {S : World → Prop} {e : Env}
theorem T.seq {x y : Code} (h : T Q n (x :: y :: r) S e) : T Q n (.seq x y :: r) S e := fun w a hS hF => by
  refine wp_seq (wp_mono (h w a hS hF) ?_)
  intro ex a' w' hq
  cases ex <;> exact hq
theorem T.skip (h : T Q n r S e) : T Q n (.skip :: r) S e := fun w a hS hF => wp_skip (h w a hS hF)
theorem T.cond {c : Operand} {x y : Code} {b : Bool} (hc : ev e c = .bool b) (ht : b = true → T Q n (x :: r) S e) (hf : b = false → T Q n (y :: r) S e) : T Q n (.cond c x y :: r) S e := fun w a hS hF => by
  cases b with
  | true => exact wp_cond_true (by rw [hF.eval]; exact hc) (ht rfl w a hS hF)
  | false => exact wp_cond_false (by rw [hF.eval]; exact hc) (hf rfl w a hS hF)
theorem T.yes {c : Operand} {x y : Code} (hc : ev e c = .bool true) (ht : T Q n (x :: r) S e) : T Q n (.cond c x y :: r) S e := T.cond hc (fun _ => ht) (fun h => nomatch h)
theorem T.no {c : Operand} {x y : Code} (hc : ev e c = .bool false) (hf : T Q n (y :: r) S e) : T Q n (.cond c x y :: r) S e := T.cond hc (fun h => nomatch h) (fun _ => hf)
theorem T.ret (h : ∀ w a, S w → Fits a n e → Q .ret a w) : T Q n (.ret :: r) S e := fun w a hS hF => wp_ret (h w a hS hF)
theorem T.done (h : ∀ w a, S w → Fits a n e → Q .normal a w) : T Q n [] S e := fun w a hS hF => h w a hS hF
theorem T.conv {S' : World → Prop} (h : ∀ w, S w → S' w) (h' : T Q n r S' e) : T Q n r S e := fun w a hS hF => h' w a (h w hS) hF
def dstB (ops : Array Oper) (n : Nat) : Bool := ops.toList.all fun o => match o.dst with | some t => decide (t < n) | none => true
theorem dstB_spec {ops : Array Oper} {n : Nat} (h : dstB ops n = true) (i : Nat) (o : Oper) (ho : ops[i]? = some o) (t : Nat) (ht : o.dst = some t) : t < n := by
  have := List.all_eq_true.1 h o (by simpa using Array.mem_of_getElem? ho)
  simpa [ht] using this
theorem T.text {id : Nat} {ops : Array Oper} {ord : List Nat} {ef : Nat → Bool} (hd : dstB ops n = true) (hord : List.range ops.size = ord) (h : X Tryz.prog ops (fun _ => false) ef (fun S e => T Q n r S e) ord S [] e) : T Q n (.region id ops false :: r) S e := fun w a hS hF => by
  subst hord
  exact x_text (dstB_spec hd) (fun S' e' (hk : T Q n r S' e') w' a' hS' hF' => hk w' a' hS' hF') h hS hF
theorem tx {id : Nat} {ops : Array Oper} (ord : List Nat) (ef : Nat → Bool) (hd : dstB ops n = true) (hord : List.range ops.size = ord) (h : X Tryz.prog ops (fun _ => false) ef (fun S e => T Q n r S e) ord S [] e) : T Q n (.region id ops false :: r) S e := T.text hd hord h
theorem mixed : Tryz.prog.follows .mixedOrders = true := by kernel_rfl
theorem T.any {id : Nat} {ops : Array Oper} {ord : List Nat} {lo ef : Nat → Bool} (hck : chk ops n ord lo ef = true) (hS : ∀ w, S w → S w.drew) (h : X Tryz.prog ops lo ef (fun S e => T Q n r S e) ord S [] e) : T Q n (.region id ops true :: r) S e := fun w a hw hF =>
  x_any mixed hck (fun S' e' (hk : T Q n r S' e') w' a' hS' hF' => hk w' a' hS' hF') h hS hw hF
end
def mkE : Nat → List Value → Env
  | _, [] => []
  | k, v :: l => (k, v) :: mkE (k + 1) l
theorem lk_mkE : ∀ (l : List Value) (k t : Nat), lk (mkE k l) t = if k ≤ t then l.getD (t - k) undef else undef
  | [], k, t => by simp [mkE, lk]
  | v :: l, k, t => by
    show lk ((k, v) :: mkE (k + 1) l) t = _
    rw [lk_cons, lk_mkE l (k + 1) t]
    by_cases h : k = t
    · subst h
      simp
    · rw [if_neg h]
      by_cases h1 : k ≤ t
      · rw [if_pos h1, if_pos (by omega), show t - k = (t - (k + 1)) + 1 by omega]
        rfl
      · rw [if_neg h1, if_neg (by omega)]
theorem fits_init (l : List Value) (n : Nat) (h : l.length ≤ n) : Fits { tmps := l.toArray ++ Array.replicate (n - l.toArray.size) undef, defers := [] } n (mkE 0 l) := by
  refine ⟨rfl, by simp; omega, fun t => ?_⟩
  rw [lk_mkE, if_pos (Nat.zero_le _), Nat.sub_zero]
  simp only [Array.getD_eq_getD_getElem?, List.getD_eq_getElem?_getD, Array.getElem?_append, List.size_toArray]
  by_cases h1 : t < l.length
  · rw [if_pos h1]
    simp
  · rw [if_neg h1, List.getElem?_eq_none (by omega), Array.getElem?_replicate]
    split <;> rfl
def Fin (C : Cx) (w0 : World) (D0 : Dom) (Q : Value → Wds → Asr) : Ending → World → Prop := fun e w' => ∃ v l' D', e = .returned v ∧ Mem w' C l' ∧ Q v l' D' w' ∧ Chg (C.with D0) w0 w' ∧ ∀ k, D' k → k < w'.heap.size ∧ (D0 k ∨ w0.heap.size ≤ k)
theorem Ct.of {C : Cx} {f n : Nat} {fn : Func} {c : Code} {vs : List Value} {l : Wds} {R : Asr} {Q : Value → Wds → Asr} (hf : Tryz.prog.funcs[f]? = some fn) (hb : fn.body = some c) (hnt : fn.ntmps = n) (hn : vs.length ≤ n) (hl : Loc R)
    (h : ∀ w0 D0, T (bodyPost Tryz.prog fn (Fin C w0 D0 Q)) n [c] (Sy C w0 D0 l [] R) (mkE 0 vs)) :
    Ct C f vs.toArray l R Q := fun w D ha hm hR => by
  subst hnt
  refine calls_of_wp hf hb ?_
  have := h w D w _ ⟨ha, Chg.refl _ _, hm, hl, D, hR, fun k hk => ⟨ha.lt k hk, .inl hk⟩⟩ (fits_init vs fn.ntmps hn)
  refine wp_mono this ?_
  intro ex a' w' hq
  cases ex <;> exact hq
section
variable {C : Cx} {w0 : World} {D0 : Dom} {l : Wds} {H : List Bk} {R : Asr} {fn : Func} {n : Nat} {e : Env} {r : List Code} {Q : Value → Wds → Asr}
theorem Sy.fin {w : World} {v : Value} (h : Sy C w0 D0 l H R w) (hq : ∀ D, blks H R D w → ∃ D', Q v l D' w ∧ ∀ k, D' k → D k) : Fin C w0 D0 Q (.returned v) w := by
  obtain ⟨D, h1, h2⟩ := h.rep
  obtain ⟨D', h3, h4⟩ := hq D h1
  exact ⟨v, l, D', rfl, h.mem, h3, h.chg, fun k hk => h2 k (h4 k hk)⟩
theorem T.ret0 (hr : fn.results = #[]) (hq : ∀ w D, blks H R D w → ∃ D', Q (.tuple #[]) l D' w ∧ ∀ k, D' k → D k) : T (bodyPost Tryz.prog fn (Fin C w0 D0 Q)) n (.ret :: r) (Sy C w0 D0 l H R) e :=
  T.ret fun w a hS hF => ⟨hF.defers, _, results_none hr _ _ _, hS.fin (hq w)⟩
theorem T.end0 (hr : fn.results = #[]) (hq : ∀ w D, blks H R D w → ∃ D', Q (.tuple #[]) l D' w ∧ ∀ k, D' k → D k) : T (bodyPost Tryz.prog fn (Fin C w0 D0 Q)) n [] (Sy C w0 D0 l H R) e :=
  T.done fun w a hS hF => ⟨hF.defers, _, results_none hr _ _ _, hS.fin (hq w)⟩
theorem T.ret1 {t : Nat} (hr : fn.results = #[.tmp t]) (hq : ∀ w D, blks H R D w → ∃ D', Q (lk e t) l D' w ∧ ∀ k, D' k → D k) : T (bodyPost Tryz.prog fn (Fin C w0 D0 Q)) n (.ret :: r) (Sy C w0 D0 l H R) e :=
  T.ret fun w a hS hF => ⟨hF.defers, _, results_tmp hr _ _ _, by rw [hF.at_ t]; exact hS.fin (hq w)⟩
theorem T.ret2 {t u : Nat} (hr : fn.results = #[.tmp t, .tmp u]) (hq : ∀ w D, blks H R D w → ∃ D', Q (.tuple #[lk e t, lk e u]) l D' w ∧ ∀ k, D' k → D k) : T (bodyPost Tryz.prog fn (Fin C w0 D0 Q)) n (.ret :: r) (Sy C w0 D0 l H R) e :=
  T.ret fun w a hS hF => ⟨hF.defers, _, results_tmp2 hr _ _ _, by rw [hF.at_ t, hF.at_ u]; exact hS.fin (hq w)⟩
end
def lk? : Env → Nat → Option Value
  | [], _ => none
  | (d, v) :: e, t => bif Nat.beq d t then some v else lk? e t
def evo (e : Env) : Operand → Option Value
  | .tmp t => lk? e t
  | .const v => some v
  | .global g => some (.pointer (some ⟨g, 0, none⟩))
  | .func f => some (.func (.func f) #[] #[])
theorem lk_of : ∀ {e : Env} {t : Nat} {v : Value}, lk? e t = some v → lk e t = v
  | [], _, _, h => nomatch h
  | (d, u) :: e, t, v, h => by
    show (bif Nat.beq d t then u else lk e t) = v
    have h' : (bif Nat.beq d t then some u else lk? e t) = some v := h
    cases hb : Nat.beq d t with
    | true => rw [hb] at h'; exact Option.some.inj h'
    | false => rw [hb] at h'; exact lk_of h'
theorem ev_of {e : Env} {x : Operand} {v : Value} (h : evo e x = some v) : ev e x = v := by
  cases x with
  | tmp t => exact lk_of h
  | const u => exact Option.some.inj h
  | global g => exact Option.some.inj h
  | func f => exact Option.some.inj h
section
variable {ops : Array Oper} {lo ef : Nat → Bool} {K : (World → Prop) → Env → Prop} {i : Nat} {r : List Nat} {S : World → Prop} {U : List (Nat × Value)} {e : Env} {o : Oper} {v : Value}
theorem x_val (ho : ops[i]? = some o) (hef : ef i = false) (hw : wantedE ops o e = true) (hq : ∀ w, S w → (execOp (ev e) o).run Tryz.prog w = .ok (.value v) w) (h : X Tryz.prog ops lo ef K r S (bif lo i then (i, v) :: U else U) (pute o.dst v e)) : X Tryz.prog ops lo ef K (i :: r) S U e := by
  refine ⟨o, ho, ?_⟩
  rw [hef]
  refine ⟨v, .inl ⟨hw, fun w hS => ?_⟩, h⟩
  unfold eff
  rw [hq w hS]
  exact ⟨rfl, hS⟩
theorem x_skip (ho : ops[i]? = some o) (hef : ef i = false) (hw : wantedE ops o e = false) (h : X Tryz.prog ops lo ef K r S (bif lo i then (i, undef) :: U else U) (pute o.dst undef e)) : X Tryz.prog ops lo ef K (i :: r) S U e := by
  refine ⟨o, ho, ?_⟩
  rw [hef]
  exact ⟨undef, .inr ⟨hw, rfl⟩, h⟩
variable {d : Option Nat} {ty : Nat} {ps : String} {af : Array Edge} {gd : Option (Nat × Bool)} {x y : Operand}
theorem xmv (ho : ops[i]? = some ⟨d, .move x, ty, ps, af, gd⟩) (hef0 : (ef i, wantedE ops ⟨d, .move x, ty, ps, af, gd⟩ e) = (false, true)) (hx : evo e x = some v) (h : X Tryz.prog ops lo ef K r S (bif lo i then (i, v) :: U else U) (pute d v e)) : X Tryz.prog ops lo ef K (i :: r) S U e := have ⟨hef, hw⟩ := tri2 hef0;
  x_val ho hef hw (fun w _ => by rw [← ev_of hx]; rfl) h
theorem xas (ho : ops[i]? = some ⟨d, .assign x, ty, ps, af, gd⟩) (hef0 : (ef i, wantedE ops ⟨d, .assign x, ty, ps, af, gd⟩ e) = (false, true)) (hx : evo e x = some v) (h : X Tryz.prog ops lo ef K r S (bif lo i then (i, v) :: U else U) (pute d v e)) : X Tryz.prog ops lo ef K (i :: r) S U e := have ⟨hef, hw⟩ := tri2 hef0;
  x_val ho hef hw (fun w _ => by rw [← ev_of hx]; rfl) h
theorem xnc {a : Addr} (ho : ops[i]? = some ⟨d, .nilCheck x, ty, ps, af, gd⟩) (hef0 : (ef i, wantedE ops ⟨d, .nilCheck x, ty, ps, af, gd⟩ e) = (false, true)) (hx : evo e x = some (.pointer (some a))) (h : X Tryz.prog ops lo ef K r S (bif lo i then (i, .pointer (some a)) :: U else U) (pute d (.pointer (some a)) e)) : X Tryz.prog ops lo ef K (i :: r) S U e := have ⟨hef, hw⟩ := tri2 hef0;
  x_val ho hef hw (fun w _ => by simp only [execOp, ev_of hx]; rfl) h
end
noncomputable def one (t : Nat) : Bool :=
  match Tryz.prog.underlying t, Tryz.prog.info? t with
  | some (.struct _), _ => false
  | some (.array _ _), _ => false
  | some _, some i => i.size == 1
  | _, _ => false
noncomputable def many (t n : Nat) : Bool :=
  match Tryz.prog.underlying t, Tryz.prog.info? t with
  | some (.struct _), some i => i.size == n
  | some (.array _ _), some i => i.size == n
  | _, _ => false
noncomputable def fld (s f off : Nat) : Bool :=
  match Tryz.prog.underlying s with
  | some (.struct fs) => match fs[f]? with
    | some x => x.offset == off && (match Tryz.prog.info? x.type with | some i => i.size != 0 | none => false)
    | none => false
  | _ => false
theorem run_isAgg_one {t : Nat} (h : one t = true) (w : World) : (isAgg t).run Tryz.prog w = .ok false w ∧ (sizeOf t).run Tryz.prog w = .ok 1 w := by
  unfold one at h
  unfold isAgg sizeOf typeInfo underlying
  split at h <;> first
    | cases h
    | (rename_i d i _ _ hu hi
       have hs : i.size = 1 := by simpa using h
       cases d <;> simp_all [go_sem])
theorem run_isAgg_many {t n : Nat} (h : many t n = true) (w : World) : (isAgg t).run Tryz.prog w = .ok true w ∧ (sizeOf t).run Tryz.prog w = .ok n w := by
  unfold many at h
  unfold isAgg sizeOf typeInfo underlying
  split at h <;> first
    | cases h
    | (rename_i hu hi
       have hs := eq_of_beq h
       simp_all [go_sem])
theorem run_loadVar_one {t : Nat} (h : one t = true) {w : World} {a : Addr} {v : Value} (hc : w.cell? a = some v) : (loadVar t a).run Tryz.prog w = .ok v w := by
  unfold loadVar
  rw [Sem.run_bind, (run_isAgg_one h w).1]
  simp [go_sem, hc]
theorem run_loadVar_many {t n : Nat} (h : many t n = true) {w : World} {b off : Nat} (cs : List Value) (hn : cs.length = n) (hc : ∀ j v, cs[j]? = some v → w.cell? ⟨b, off + j, none⟩ = some v) : (loadVar t ⟨b, off, none⟩).run Tryz.prog w = .ok (.agg cs.toArray) w := by
  unfold loadVar
  have hl := run_loadCells_list (P := Tryz.prog) (w := w) ⟨b, off, none⟩ cs (fun j v hv => by
    have := hc j v hv
    unfold Addr.add
    split
    · rename_i h0; subst h0; exact this
    · exact this)
  rw [Sem.run_bind, (run_isAgg_many h w).1]
  subst hn
  unfold loadCells at hl
  simp [go_sem, (run_isAgg_many h w).2, hl]
def isCell : Value → Bool
  | .agg _ => false
  | .tuple _ => false
  | _ => true
theorem cells_cell {v : Value} (h : isCell v = true) : v.cells = #[v] := by cases v <;> first | rfl | cases h
theorem run_store {w : World} {a : Addr} {u v : Value} (hv : isCell v = true) (hc : w.cell? a = some u) (hf : w.frozen? a = false) : (store a v).run Tryz.prog w = .ok () (w.setCell a v) := by
  cases v <;> first | (simp [store, Sem.run, hc, hf]; done) | exact nomatch hv
theorem run_storeVar_one {t : Nat} (h : one t = true) {w : World} {a : Addr} {u v : Value} (hv : isCell v = true) (hc : w.cell? a = some u) (hf : w.frozen? a = false) : (storeVar t a v).run Tryz.prog w = .ok () (w.setCell a v) := by
  unfold storeVar
  rw [Sem.run_bind, (run_isAgg_one h w).2]
  have ha : a.add 0 = a := rfl
  have hs := run_store hv hc hf
  have e1 : ¬ ((#[v] : Array Value).size ≠ 1) := by simp
  simp only [Result.andThen_ok, cells_cell hv, e1, if_false]
  show (storeCells a [v]).run Tryz.prog w = _
  unfold storeCells
  rw [Sem.run_bind, ha, hs]
  rfl
def setcs : List Value → Nat → List Value → List Value
  | cs, _, [] => cs
  | cs, o, v :: vs => setcs (setc cs o v) (o + 1) vs
theorem Upd.comp {f g : List Value → List Value} {b : Nat} : ∀ {H H'' : List Bk}, Upd H b (fun cs => g (f cs)) H'' → ∃ H', Upd H b f H' ∧ Upd H' b g H'' := by
  intro H H'' h
  generalize hk : (fun cs => g (f cs)) = k at h
  induction h with
  | z => subst hk; exact ⟨_, .z, .z⟩
  | s _ ih => obtain ⟨H', h1, h2⟩ := ih hk; exact ⟨_, .s h1, .s h2⟩
theorem setc_length : ∀ (cs : List Value) (o : Nat) (v : Value), (setc cs o v).length = cs.length
  | [], _, _ => rfl
  | _ :: _, 0, _ => rfl
  | _ :: cs, o + 1, v => by simp [setc, setc_length cs o v]
theorem nth_lt : ∀ (cs : List Value) (o : Nat), o < cs.length → ∃ v, nth cs o = some v
  | [], _, h => by simp at h
  | c :: _, 0, _ => ⟨c, rfl⟩
  | _ :: cs, o + 1, h => nth_lt cs o (by simpa using h)
section
variable {C : Cx} {w0 : World} {D0 : Dom} {l : Wds} {H H' : List Bk} {R : Asr}
theorem upd_get {b : Nat} {f : List Value → List Value} (h : Upd H b f H') : ∃ cs, In b cs H ∧ In b (f cs) H' := by
  induction h with
  | z => exact ⟨_, .z, .z⟩
  | s _ ih => obtain ⟨cs, h1, h2⟩ := ih; exact ⟨cs, .s h1, .s h2⟩
theorem Sy.uniq {w : World} (h : Sy C w0 D0 l H R w) {b : Nat} {cs cs' : List Value} (h1 : In b cs H) (h2 : In b cs' H) : cs = cs' := by
  obtain ⟨D, g1, -⟩ := h.rep
  obtain ⟨t, m1⟩ := h1.mem
  obtain ⟨t', m2⟩ := h2.mem
  have e1 := (blks_mem g1 m1).1
  have e2 := (blks_mem g1 m2).1
  unfold Bk.is at e1 e2
  rw [e1] at e2
  have := Option.some.inj e2
  simp only [Obj.cells.injEq] at this
  simpa using this.1
theorem Sy.sets : ∀ (vs : List Value) (o : Nat) {w : World} {H H' : List Bk} {b : Nat} {cs : List Value}, Sy C w0 D0 l H R w → Upd H b (fun cs => setcs cs o vs) H' → In b cs H → o + vs.length ≤ cs.length → (∀ v ∈ vs, isCell v = true) →
    ∃ w', (storeCells ⟨b, 0, none⟩ vs o).run Tryz.prog w = .ok () w' ∧ Sy C w0 D0 l H' R w'
  | [], o, w, H, H', b, cs, h, hu, hi, hlen, hv => by
    refine ⟨w, rfl, ?_⟩
    have : H' = H := by
      clear h hi hlen hv
      generalize hk : (fun cs => setcs cs o []) = k at hu
      induction hu with
      | z => subst hk; rfl
      | s _ ih => rw [ih hk]
    rw [this]
    exact h
  | v :: vs, o, w, H, H', b, cs, h, hu, hi, hlen, hv => by
    obtain ⟨H1, hu1, hu2⟩ := Upd.comp (f := fun cs => setc cs o v) (g := fun cs => setcs cs (o + 1) vs) hu
    obtain ⟨cs1, h1, h2⟩ := upd_get hu1
    have := h.uniq hi h1
    subst this
    simp only [List.length_cons] at hlen
    obtain ⟨u, hu'⟩ := nth_lt cs o (by omega)
    obtain ⟨c1, c2⟩ := h.cell hi hu'
    have hs := run_store (hv v (by simp)) c1 c2
    obtain ⟨w', g1, g2⟩ := Sy.sets vs (o + 1) (h.set hu1) hu2 h2 (by rw [setc_length]; omega) (fun x hx => hv x (by simp [hx]))
    refine ⟨w', ?_, g2⟩
    have ha : (⟨b, 0, none⟩ : Addr).add o = ⟨b, o, none⟩ := by
      unfold Addr.add
      split
      · rename_i h0; rw [h0]
      · simp
    unfold storeCells
    rw [Sem.run_bind, ha, hs]
    exact g1
theorem storeCells_at (b o : Nat) : ∀ (vs : List Value) (k : Nat), storeCells ⟨b, o, none⟩ vs k = storeCells ⟨b, 0, none⟩ vs (o + k)
  | [], _ => rfl
  | v :: vs, k => by
    unfold storeCells
    have : (⟨b, o, none⟩ : Addr).add k = (⟨b, 0, none⟩ : Addr).add (o + k) := by
      unfold Addr.add
      by_cases h : k = 0
      · subst h
        by_cases h' : o = 0
        · subst h'; rfl
        · rw [if_pos rfl, if_neg (by omega)]; simp
      · rw [if_neg h, if_neg (by omega)]; simp
    rw [this, storeCells_at b o vs (k + 1)]
    rfl
end
theorem exv {ρ : Operand → Value} {o : Oper} {m : Sem Value} {w w' : World} {v : Value} (h : execOp ρ o = m >>= fun v => pure (.value v)) (hm : m.run Tryz.prog w = .ok v w') : (execOp ρ o).run Tryz.prog w = .ok (.value v) w' := by
  rw [h, Sem.run_bind, hm]
  rfl
theorem exu {ρ : Operand → Value} {o : Oper} {m : Sem Unit} {w w' : World} (h : execOp ρ o = m >>= fun _ => pure .skip) (hm : m.run Tryz.prog w = .ok () w') : (execOp ρ o).run Tryz.prog w = .ok .skip w' := by
  rw [h, Sem.run_bind, hm]
  rfl
theorem eff_val {ρ : Operand → Value} {o : Oper} {w w' : World} {v : Value} {K : Value → World → Prop} (h : (execOp ρ o).run Tryz.prog w = .ok (.value v) w') (hk : K v w') : eff Tryz.prog o ρ w K := by
  unfold eff
  rw [h]
  exact hk
theorem eff_skip {ρ : Operand → Value} {o : Oper} {w w' : World} {K : Value → World → Prop} (h : (execOp ρ o).run Tryz.prog w = .ok .skip w') (hk : K undef w') : eff Tryz.prog o ρ w K := by
  unfold eff
  rw [h]
  exact hk
def Pend (ops : Array Oper) (j : Nat) (U : List (Nat × Value)) (S : World → Prop) (e : Env) : Prop := ∀ x ∈ U, desc ops ops.size x.1 j = false → ∃ ox, ops[x.1]? = some ox ∧ YE Tryz.prog ops S ox x.2 e
theorem pend0 {j : Nat} {ops : Array Oper} {S : World → Prop} {e : Env} : Pend ops j [] S e := fun _ h _ => nomatch h
theorem pendsk {j : Nat} {ops : Array Oper} {S : World → Prop} {e : Env} {i : Nat} {v : Value} {U : List (Nat × Value)} (hd : desc ops ops.size i j = true) (h : Pend ops j U S e) : Pend ops j ((i, v) :: U) S e := fun y hy hn => by
  rcases List.mem_cons.1 hy with rfl | hy
  · rw [hd] at hn
    cases hn
  · exact h y hy hn
theorem pendmv {j : Nat} {ops : Array Oper} {S : World → Prop} {e : Env} {i : Nat} {v : Value} {U : List (Nat × Value)} {d : Option Nat} {ty : Nat} {ps : String} {af : Array Edge} {x : Operand} (ho : ops[i]? = some ⟨d, .move x, ty, ps, af, none⟩) (hx : evo e x = some v) (h : Pend ops j U S e) : Pend ops j ((i, v) :: U) S e := fun y hy hd => by
  rcases List.mem_cons.1 hy with rfl | hy
  · refine ⟨_, ho, .inl ⟨rfl, fun w hw => ?_⟩⟩
    show eff Tryz.prog _ (ev e) w _
    unfold eff
    simp only [execOp, pure, Sem.run]
    exact ⟨ev_of hx, hw⟩
  · exact h y hy hd
section
variable {C : Cx} {w0 : World} {D0 : Dom} {l : Wds} {H H' : List Bk} {R : Asr}
variable {ops : Array Oper} {lo ef : Nat → Bool} {K : (World → Prop) → Env → Prop} {i : Nat} {r : List Nat} {S : World → Prop} {U : List (Nat × Value)} {e : Env} {o : Oper} {v u : Value} {d : Option Nat} {ty : Nat} {ps : String} {af : Array Edge} {gd : Option (Nat × Bool)} {x y z : Operand}
theorem x_eff {K' : Value → World → Prop} (ho : ops[i]? = some o) (hef : ef i = true) (hw : wantedE ops o e = true) (h : ∀ w, S w → eff Tryz.prog o (ev e) w K')
    (hk : ∀ v w', K' v w' → ∃ S' : World → Prop, S' w' ∧ Pend ops i U S' e ∧ X Tryz.prog ops lo ef K r S' U (pute o.dst v e)) : X Tryz.prog ops lo ef K (i :: r) S U e := by
  refine ⟨o, ho, ?_⟩
  rw [hef]
  exact ⟨hw, fun w hS => eff_mono (h w hS) hk⟩
theorem xld {t b off : Nat} {cs : List Value} (ho : ops[i]? = some ⟨d, .load t x, ty, ps, af, gd⟩) (hef0 : (ef i, wantedE ops ⟨d, .load t x, ty, ps, af, gd⟩ e) = (false, true)) (hx : evo e x = some (.pointer (some ⟨b, off, none⟩))) (h1 : one t = true) (hi : In b cs H) (hv : nth cs off = some v)
    (h : X Tryz.prog ops lo ef K r (Sy C w0 D0 l H R) (bif lo i then (i, v) :: U else U) (pute d v e)) : X Tryz.prog ops lo ef K (i :: r) (Sy C w0 D0 l H R) U e := have ⟨hef, hw⟩ := tri2 hef0;
  x_val ho hef hw (fun w hS => by
    exact exv (m := Instr.loadAt t (ev e x)) rfl (by rw [ev_of hx]; exact run_loadVar_one h1 (hS.cell hi hv).1)) h
def slc (cs : List Value) (off n : Nat) : List Value := (cs.drop off).take n
theorem xlda {t b off n : Nat} {cs : List Value} (ho : ops[i]? = some ⟨d, .load t x, ty, ps, af, gd⟩) (hef0 : (ef i, wantedE ops ⟨d, .load t x, ty, ps, af, gd⟩ e) = (false, true)) (hx : evo e x = some (.pointer (some ⟨b, off, none⟩))) (h1 : many t n = true) (hi : In b cs H) (hn : (slc cs off n).length = n)
    (h : X Tryz.prog ops lo ef K r (Sy C w0 D0 l H R) (bif lo i then (i, .agg (slc cs off n).toArray) :: U else U) (pute d (.agg (slc cs off n).toArray) e)) : X Tryz.prog ops lo ef K (i :: r) (Sy C w0 D0 l H R) U e := have ⟨hef, hw⟩ := tri2 hef0;
  x_val ho hef hw (fun w hS => by
    have := run_loadVar_many h1 (w := w) (b := b) (off := off) (slc cs off n) hn (fun j v hj => by
      refine (hS.cell hi ?_).1
      unfold slc at hj
      rw [List.getElem?_take] at hj
      split at hj
      · rw [nth_eq, ← hj, List.getElem?_drop]
      · cases hj)
    exact exv (m := Instr.loadAt t (ev e x)) rfl (by rw [ev_of hx]; exact this)) h
theorem run_field {s f off k b : Nat} (hf : fld s f k = true) (w : World) : (Instr.fieldAt s (.pointer (some ⟨b, off, none⟩)) f).run Tryz.prog w = .ok (.pointer (some ⟨b, off + k, none⟩)) w := by
  unfold fld at hf
  split at hf
  · rename_i fs hu
    split at hf
    · rename_i g hg
      simp only [Bool.and_eq_true, beq_iff_eq] at hf
      obtain ⟨h1, h2⟩ := hf
      split at h2
      · rename_i inf hin
        have h3 : inf.size ≠ 0 := by simpa using h2
        have ha : (⟨b, off, none⟩ : Addr).add g.offset = ⟨b, off + k, none⟩ := by
          subst h1
          unfold Addr.add
          split
          · rename_i h0; simp [h0]
          · rfl
        unfold Instr.fieldAt fieldPlace sizeOf typeInfo underlying
        simp [go_sem, hu, hg, hin, h3, ha, Instr.sureAddr]
      · cases h2
    · cases hf
  · cases hf
theorem xfa {s f k b off : Nat} (ho : ops[i]? = some ⟨d, .fieldAddr s x f, ty, ps, af, gd⟩) (hef0 : (ef i, wantedE ops ⟨d, .fieldAddr s x f, ty, ps, af, gd⟩ e) = (false, true)) (hx : evo e x = some (.pointer (some ⟨b, off, none⟩))) (hf : fld s f k = true)
    (h : X Tryz.prog ops lo ef K r S (bif lo i then (i, .pointer (some ⟨b, off + k, none⟩)) :: U else U) (pute d (.pointer (some ⟨b, off + k, none⟩)) e)) : X Tryz.prog ops lo ef K (i :: r) S U e := have ⟨hef, hw⟩ := tri2 hef0;
  x_val ho hef hw (fun w hS => by
    exact exv (m := Instr.fieldAt s (ev e x) f) rfl (by rw [ev_of hx]; exact run_field hf w)) h
theorem xst {t b off : Nat} {cs : List Value} (ho : ops[i]? = some ⟨none, .store t x y, ty, ps, af, none⟩) (hef : ef i = true) (hx : evo e x = some (.pointer (some ⟨b, off, none⟩))) (hy : evo e y = some v) (h1 : one t = true) (hv : isCell v = true) (hi : In b cs H) (hv0 : nth cs off = some u)
    (hu : Upd H b (fun cs => setc cs off v) H') (hp : Pend ops i U (Sy C w0 D0 l H' R) e) (h : X Tryz.prog ops lo ef K r (Sy C w0 D0 l H' R) U e) : X Tryz.prog ops lo ef K (i :: r) (Sy C w0 D0 l H R) U e :=
  x_eff (K' := fun _ w' => Sy C w0 D0 l H' R w') ho hef rfl (fun w hS => by
    obtain ⟨c1, c2⟩ := hS.cell hi hv0
    exact eff_skip (exu (m := Instr.storeAt t (ev e x) (ev e y)) rfl (by rw [ev_of hx, ev_of hy]; exact run_storeVar_one h1 hv c1 c2)) (hS.set hu)) (fun _ w' hk => ⟨_, hk, hp, h⟩)
theorem xsta {t b off n : Nat} {cs vs : List Value} (ho : ops[i]? = some ⟨none, .store t x y, ty, ps, af, none⟩) (hef : ef i = true) (hx : evo e x = some (.pointer (some ⟨b, off, none⟩))) (hy : evo e y = some (.agg vs.toArray)) (h1 : many t n = true) (hn : vs.length = n) (hv : vs.all isCell = true) (hi : In b cs H) (hlen : off + n ≤ cs.length)
    (hu : Upd H b (fun cs => setcs cs off vs) H') (hp : Pend ops i U (Sy C w0 D0 l H' R) e) (h : X Tryz.prog ops lo ef K r (Sy C w0 D0 l H' R) U e) : X Tryz.prog ops lo ef K (i :: r) (Sy C w0 D0 l H R) U e :=
  x_eff (K' := fun _ w' => Sy C w0 D0 l H' R w') ho hef rfl (fun w hS => by
    obtain ⟨w', g1, g2⟩ := hS.sets vs off hu hi (by omega) (fun v hm => List.all_eq_true.1 hv v hm)
    have g3 : (storeVar t ⟨b, off, none⟩ (.agg vs.toArray)).run Tryz.prog w = .ok () w' := by
      unfold storeVar
      rw [Sem.run_bind, (run_isAgg_many h1 w).2]
      have : (Value.agg vs.toArray).cells = vs.toArray := rfl
      subst hn
      simp only [Result.andThen_ok, this, List.size_toArray, ne_eq, not_true_eq_false, if_false]
      show (storeCells ⟨b, off, none⟩ vs 0).run Tryz.prog w = _
      rw [storeCells_at]
      exact g1
    exact eff_skip (exu (m := Instr.storeAt t (ev e x) (ev e y)) rfl (by rw [ev_of hx, ev_of hy]; exact g3)) g2) (fun _ w' hk => ⟨_, hk, hp, h⟩)
theorem xbx {t : Nat} {cs : List Value} (ho : ops[i]? = some ⟨d, .box t x, ty, ps, af, none⟩) (hef : ef i = true) (hx : evo e x = some v) (hcs : v.cells = cs.toArray)
    (hp : ∀ b, Pend ops i U (Sy C w0 D0 l (⟨b, t, cs⟩ :: H) R) e) (h : ∀ b, X Tryz.prog ops lo ef K r (Sy C w0 D0 l (⟨b, t, cs⟩ :: H) R) U (pute d (.pointer (some ⟨b, 0, none⟩)) e)) : X Tryz.prog ops lo ef K (i :: r) (Sy C w0 D0 l H R) U e :=
  x_eff (K' := fun v w' => ∃ b, v = .pointer (some ⟨b, 0, none⟩) ∧ Sy C w0 D0 l (⟨b, t, cs⟩ :: H) R w') ho hef rfl (fun w hS => by
    refine eff_val (exv (m := Instr.box t (ev e x)) rfl (w' := w.alloc (.cells cs.toArray t)) (v := .pointer (some ⟨w.heap.size, 0, none⟩)) ?_) ⟨_, rfl, hS.alloc t cs⟩
    rw [ev_of hx]
    show Sem.run Tryz.prog (newVar t v >>= _) w = _
    unfold newVar newRow
    rw [hcs]
    rfl) (fun v w' ⟨b, hb, hk⟩ => ⟨_, hk, hp b, by rw [hb]; exact h b⟩)
theorem exec_alloc {ρ : Operand → Value} {d : Option Nat} {t ty : Nat} {ps : String} {af : Array Edge} {g : Option (Nat × Bool)} : execOp ρ ⟨d, .alloc t, ty, ps, af, g⟩ = (Instr.alloc t true (.tuple #[]) >>= fun v => pure (.value v)) := rfl
noncomputable def zer (t : Nat) : Option (List Value) := ((Tryz.prog.info? t).bind (·.zero)).map (·.cells.toList)
theorem run_alloc {t : Nat} {cs : List Value} (hz : zer t = some cs) (w : World) : (Instr.alloc t true (.tuple #[])).run Tryz.prog w = .ok (.pointer (some ⟨w.heap.size, 0, none⟩)) (w.alloc (.cells cs.toArray t)) := by
  unfold zer at hz
  cases hi : Tryz.prog.info? t with
  | none => rw [hi] at hz; cases hz
  | some inf =>
    rw [hi] at hz
    cases hz0 : inf.zero with
    | none => simp [hz0] at hz
    | some zv =>
      have hcs : zv.cells = cs.toArray := by
        simp [hz0] at hz
        rw [← hz]
      have h1 : (zeroValue t).run Tryz.prog w = .ok zv w := by
        unfold zeroValue typeInfo
        simp [go_sem, hi, hz0]
      unfold Instr.alloc
      rw [Sem.run_bind, h1]
      show Sem.run Tryz.prog (newVar t zv >>= _) w = _
      unfold newVar newRow
      rw [hcs]
      rfl
theorem xal {t : Nat} {cs : List Value} (ho : ops[i]? = some ⟨d, .alloc t, ty, ps, af, none⟩) (hef : ef i = true) (hz : zer t = some cs)
    (hp : ∀ b, Pend ops i U (Sy C w0 D0 l (⟨b, t, cs⟩ :: H) R) e) (h : ∀ b, X Tryz.prog ops lo ef K r (Sy C w0 D0 l (⟨b, t, cs⟩ :: H) R) U (pute d (.pointer (some ⟨b, 0, none⟩)) e)) : X Tryz.prog ops lo ef K (i :: r) (Sy C w0 D0 l H R) U e :=
  x_eff (K' := fun v w' => ∃ b, v = .pointer (some ⟨b, 0, none⟩) ∧ Sy C w0 D0 l (⟨b, t, cs⟩ :: H) R w') ho hef rfl (fun w hS => by
    have h1 := run_alloc hz w
    have h2 : (execOp (ev e) ⟨d, .alloc t, ty, ps, af, none⟩).run Tryz.prog w = .ok (.value (.pointer (some ⟨w.heap.size, 0, none⟩))) (w.alloc (.cells cs.toArray t)) := exv exec_alloc h1
    have h3 : ∃ b : Nat, (Value.pointer (some ⟨w.heap.size, 0, none⟩) = Value.pointer (some ⟨b, 0, none⟩)) ∧ Sy C w0 D0 l (⟨b, t, cs⟩ :: H) R (w.alloc (.cells cs.toArray t)) := ⟨w.heap.size, rfl, hS.alloc t cs⟩
    unfold eff
    rw [h2]
    exact h3) (fun v w' ⟨b, hb, hk⟩ => ⟨_, hk, hp b, by rw [hb]; exact h b⟩)
end
def evos (e : Env) : List Operand → Option (List Value)
  | [] => some []
  | x :: l => match evo e x, evos e l with
    | some v, some vs => some (v :: vs)
    | _, _ => none
theorem evs_of {e : Env} : ∀ {l : List Operand} {vs : List Value}, evos e l = some vs → l.map (ev e) = vs
  | [], vs, h => by cases h; rfl
  | x :: l, vs, h => by
    unfold evos at h
    split at h
    · rename_i v us h1 h2
      cases h
      simp [ev_of h1, evs_of h2]
    · cases h
theorem evs_arr {e : Env} {a : Array Operand} {vs : List Value} (h : evos e a.toList = some vs) : a.map (ev e) = vs.toArray := by
  cases a with
  | mk l =>
    rw [← evs_of h]
    simp
def ari : BinOp → Int → Int → Int
  | .add, a, b => a + b
  | .sub, a, b => a - b
  | _, a, b => a * b
def isAri : BinOp → Bool
  | .add => true
  | .sub => true
  | .mul => true
  | _ => false
def cmpI : BinOp → Int → Int → Bool
  | .eql, a, b => a == b
  | .neq, a, b => a != b
  | .lss, a, b => decide (a < b)
  | .leq, a, b => decide (a ≤ b)
  | .gtr, a, b => decide (a > b)
  | _, a, b => decide (a ≥ b)
def isCmp : BinOp → Bool
  | .eql => true
  | .neq => true
  | .lss => true
  | .leq => true
  | .gtr => true
  | .geq => true
  | _ => false
noncomputable def undIs (t : Nat) (p : TypeDesc → Bool) : Bool := match Tryz.prog.underlying t with
  | some d => p d
  | none => false
def dPtr : TypeDesc → Bool
  | .pointer _ => true
  | _ => false
def dFun : TypeDesc → Bool
  | .func _ _ _ => true
  | _ => false
def dInt (k : IntKind) : TypeDesc → Bool
  | .int k' => k == k'
  | _ => false
def dSlice : TypeDesc → Bool
  | .slice _ => true
  | _ => false
def dNoIface : TypeDesc → Bool
  | .interface _ => false
  | _ => true
noncomputable def fnB (g : Nat) : Bool := match Tryz.prog.funcs[g]? with
  | some fn => fn.name != "runtime.NumGoroutine" && fn.body.isSome
  | none => false
theorem run_und {t : Nat} {p : TypeDesc → Bool} (h : undIs t p = true) (w : World) : ∃ d, p d = true ∧ (underlying t).run Tryz.prog w = .ok d w ∧ Tryz.prog.underlying t = some d := by
  unfold undIs at h
  split at h
  · rename_i d hd
    exact ⟨d, h, by unfold underlying; simp [go_sem, hd], hd⟩
  · cases h
theorem run_callFunc {g : Nat} (h : fnB g = true) (args : Array Value) (w : World) : (callFunc g args).run Tryz.prog w = .ok (.enter g args) w := by
  unfold fnB at h
  split at h
  · rename_i fn hf
    simp only [Bool.and_eq_true, bne_iff_ne] at h
    obtain ⟨h1, h2⟩ := h
    obtain ⟨c, hc⟩ := Option.isSome_iff_exists.1 h2
    unfold callFunc
    simp [go_sem, hf, h1, hc]
  · cases h
section
variable {C : Cx} {w0 : World} {D0 : Dom} {l : Wds} {H H' : List Bk} {R : Asr}
variable {ops : Array Oper} {lo ef : Nat → Bool} {K : (World → Prop) → Env → Prop} {i : Nat} {r : List Nat} {S : World → Prop} {U : List (Nat × Value)} {e : Env} {o : Oper} {v u : Value} {d : Option Nat} {ty : Nat} {ps : String} {af : Array Edge} {gd : Option (Nat × Bool)} {x y z : Operand}
theorem xmf {fn : Fn} {a b : Array Operand} {vs us : List Value} (ho : ops[i]? = some ⟨d, .makeFunc fn a b, ty, ps, af, gd⟩) (hef0 : (ef i, wantedE ops ⟨d, .makeFunc fn a b, ty, ps, af, gd⟩ e) = (false, true)) (ha : evos e a.toList = some vs) (hb : evos e b.toList = some us)
    (h : X Tryz.prog ops lo ef K r S (bif lo i then (i, .func fn vs.toArray us.toArray) :: U else U) (pute d (.func fn vs.toArray us.toArray) e)) : X Tryz.prog ops lo ef K (i :: r) S U e := have ⟨hef, hw⟩ := tri2 hef0;
  x_val ho hef hw (fun w _ => by
    refine exv (m := Instr.makeFunc fn (a.map (ev e)) (b.map (ev e))) rfl ?_
    rw [evs_arr ha, evs_arr hb]
    rfl) h
theorem run_ari {op : BinOp} {t : Nat} {k : IntKind} {a b : Int} (hop : isAri op = true) (w : World) : (binOp op t (.int k a) (.int k b)).run Tryz.prog w = .ok (.int k (k.wrap (ari op a b))) w := by
  cases op <;> first | (simp [binOp, Op.intArith, ari, go_sem]; done) | (simp [isAri] at hop; done)
theorem run_cmp {op : BinOp} {t : Nat} {k : IntKind} {a b : Int} (hop : isCmp op = true) (w : World) : (binOp op t (.int k a) (.int k b)).run Tryz.prog w = .ok (.bool (cmpI op a b)) w := by
  cases op <;> first | (simp [binOp, Op.intCmp, cmpI, go_sem]; done) | (simp [isCmp] at hop; done)
theorem run_guard_int {op : BinOp} {t : Nat} {k : IntKind} {a b : Int} (w : World) : (eqGuard op t x y (.int k a) (.int k b)).run Tryz.prog w = .ok () w := by
  unfold eqGuard
  cases op <;> simp [go_sem]
theorem xar {op : BinOp} {t t' : Nat} {k : IntKind} {a b : Int} (ho : ops[i]? = some ⟨d, .binOp op t x y t', ty, ps, af, gd⟩) (hef0 : (ef i, wantedE ops ⟨d, .binOp op t x y t', ty, ps, af, gd⟩ e) = (false, true)) (hx : evo e x = some (.int k a)) (hy : evo e y = some (.int k b)) (hop : isAri op = true)
    (h : X Tryz.prog ops lo ef K r S (bif lo i then (i, .int k (k.wrap (ari op a b))) :: U else U) (pute d (.int k (k.wrap (ari op a b))) e)) : X Tryz.prog ops lo ef K (i :: r) S U e := have ⟨hef, hw⟩ := tri2 hef0;
  x_val ho hef hw (fun w _ => by
    refine exv (m := do eqGuard op t x y (ev e x) (ev e y); binOp op t (ev e x) (ev e y)) rfl ?_
    rw [ev_of hx, ev_of hy, Sem.run_bind, run_guard_int]
    exact run_ari hop w) h
theorem xarc {op : BinOp} {t t' : Nat} {k : IntKind} {a b c : Int} (ho : ops[i]? = some ⟨d, .binOp op t x y t', ty, ps, af, gd⟩) (hef0 : (ef i, wantedE ops ⟨d, .binOp op t x y t', ty, ps, af, gd⟩ e) = (false, true)) (hx : evo e x = some (.int k a)) (hy : evo e y = some (.int k b)) (hop : isAri op = true) (hc : k.wrap (ari op a b) = c)
    (h : X Tryz.prog ops lo ef K r S (bif lo i then (i, .int k c) :: U else U) (pute d (.int k c) e)) : X Tryz.prog ops lo ef K (i :: r) S U e := by
  have ⟨hef, hw⟩ := tri2 hef0
  subst hc
  exact xar ho hef0 hx hy hop h
theorem xcm {op : BinOp} {t t' : Nat} {k : IntKind} {a b : Int} {c : Bool} (ho : ops[i]? = some ⟨d, .binOp op t x y t', ty, ps, af, gd⟩) (hef0 : (ef i, wantedE ops ⟨d, .binOp op t x y t', ty, ps, af, gd⟩ e) = (false, true)) (hx : evo e x = some (.int k a)) (hy : evo e y = some (.int k b)) (hop : isCmp op = true) (hc : cmpI op a b = c)
    (h : X Tryz.prog ops lo ef K r S (bif lo i then (i, .bool c) :: U else U) (pute d (.bool c) e)) : X Tryz.prog ops lo ef K (i :: r) S U e := have ⟨hef, hw⟩ := tri2 hef0;
  x_val ho hef hw (fun w _ => by
    refine exv (m := do eqGuard op t x y (ev e x) (ev e y); binOp op t (ev e x) (ev e y)) rfl ?_
    rw [ev_of hx, ev_of hy, Sem.run_bind, run_guard_int, ← hc]
    exact run_cmp hop w) h
theorem run_nil {t : Nat} {a b : Value} {c : Bool} (ht : (undIs t dPtr = true ∧ b = .pointer none ∧ ((∃ p, a = .pointer (some p) ∧ c = false) ∨ (a = .pointer none ∧ c = true))) ∨ (undIs t dFun = true ∧ b = .nilFunc ∧ ((∃ f p q, a = .func f p q ∧ c = false) ∨ (a = .nilFunc ∧ c = true)))) (w : World) :
    (Op.equal t a b).run Tryz.prog w = .ok c w := by
  rcases ht with ⟨h, rfl, ht⟩ | ⟨h, rfl, ht⟩
  · obtain ⟨d, hd, hu, -⟩ := run_und h w
    cases d <;> first | (simp [dPtr] at hd; done) | skip
    unfold Op.equal Op.maxDepth Op.equalIn
    rw [Sem.run_bind, hu]
    rcases ht with ⟨p, rfl, rfl⟩ | ⟨rfl, rfl⟩ <;> rfl
  · obtain ⟨d, hd, hu, -⟩ := run_und h w
    cases d <;> first | (simp [dFun] at hd; done) | skip
    unfold Op.equal Op.maxDepth Op.equalIn
    rw [Sem.run_bind, hu]
    rcases ht with ⟨f, p, q, rfl, rfl⟩ | ⟨rfl, rfl⟩ <;> rfl
theorem exec_binOp {ρ : Operand → Value} {op : BinOp} {t t' : Nat} : execOp ρ ⟨d, .binOp op t x y t', ty, ps, af, gd⟩ = ((do eqGuard op t x y (ρ x) (ρ y); binOp op t (ρ x) (ρ y)) >>= fun v => pure (.value v)) := rfl
theorem run_eqp {t : Nat} {p : Addr} (ht : undIs t dPtr = true) (w : World) : (binOp .eql t (.pointer (some p)) (.pointer none)).run Tryz.prog w = .ok (.bool false) w := by
  have := run_nil (.inl ⟨ht, rfl, .inl ⟨p, rfl, rfl⟩⟩) w
  simp only [binOp, Sem.run_bind, this, Result.andThen_ok, Sem.run_pure]
theorem run_eqf {t : Nat} {f : Fn} {p q : Array Value} (ht : undIs t dFun = true) (w : World) : (binOp .eql t (.func f p q) .nilFunc).run Tryz.prog w = .ok (.bool false) w := by
  have := run_nil (.inr ⟨ht, rfl, .inl ⟨f, p, q, rfl, rfl⟩⟩) w
  simp only [binOp, Sem.run_bind, this, Result.andThen_ok, Sem.run_pure]
theorem run_eqn {t : Nat} (ht : undIs t dFun = true) (w : World) : (binOp .eql t .nilFunc .nilFunc).run Tryz.prog w = .ok (.bool true) w := by
  have := run_nil (.inr ⟨ht, rfl, .inr ⟨rfl, rfl⟩⟩) w
  simp only [binOp, Sem.run_bind, this, Result.andThen_ok, Sem.run_pure]
theorem run_gd {t : Nat} {a b : Value} (h : match a, b with | .nilIface, .nilIface => False | .agg _, .agg _ => False | _, _ => True) (w : World) : (eqGuard .eql t x y a b).run Tryz.prog w = .ok () w := by
  unfold eqGuard
  cases a <;> first | (simp [go_sem]; done) | (cases b <;> first | (simp [go_sem]; done) | exact h.elim)
theorem xeqv {t t' : Nat} {a b : Value} {c : Bool} (ho : ops[i]? = some ⟨d, .binOp .eql t x y t', ty, ps, af, gd⟩) (hef0 : (ef i, wantedE ops ⟨d, .binOp .eql t x y t', ty, ps, af, gd⟩ e) = (false, true)) (hx : evo e x = some a) (hy : evo e y = some b)
    (hg : ∀ w, (eqGuard .eql t x y a b).run Tryz.prog w = .ok () w) (hr : ∀ w, (binOp .eql t a b).run Tryz.prog w = .ok (.bool c) w)
    (h : X Tryz.prog ops lo ef K r S (bif lo i then (i, .bool c) :: U else U) (pute d (.bool c) e)) : X Tryz.prog ops lo ef K (i :: r) S U e := have ⟨hef, hw⟩ := tri2 hef0;
  x_val ho hef hw (fun w _ => by
    rw [exec_binOp, Sem.run_bind, ev_of hx, ev_of hy, Sem.run_bind, hg w, Result.andThen_ok, hr w]
    rfl) h
theorem xnp {t t' : Nat} {p : Addr} (ho : ops[i]? = some ⟨d, .binOp .eql t x y t', ty, ps, af, gd⟩) (hef0 : (ef i, wantedE ops ⟨d, .binOp .eql t x y t', ty, ps, af, gd⟩ e) = (false, true)) (hx : evo e x = some (.pointer (some p))) (hy : evo e y = some (.pointer none)) (ht : undIs t dPtr = true)
    (h : X Tryz.prog ops lo ef K r S (bif lo i then (i, .bool false) :: U else U) (pute d (.bool false) e)) : X Tryz.prog ops lo ef K (i :: r) S U e := have ⟨hef, hw⟩ := tri2 hef0;
  xeqv ho hef0 hx hy (run_gd trivial) (run_eqp ht) h
theorem xnf {t t' : Nat} {f : Fn} {p q : Array Value} (ho : ops[i]? = some ⟨d, .binOp .eql t x y t', ty, ps, af, gd⟩) (hef0 : (ef i, wantedE ops ⟨d, .binOp .eql t x y t', ty, ps, af, gd⟩ e) = (false, true)) (hx : evo e x = some (.func f p q)) (hy : evo e y = some .nilFunc) (ht : undIs t dFun = true)
    (h : X Tryz.prog ops lo ef K r S (bif lo i then (i, .bool false) :: U else U) (pute d (.bool false) e)) : X Tryz.prog ops lo ef K (i :: r) S U e := have ⟨hef, hw⟩ := tri2 hef0;
  xeqv ho hef0 hx hy (run_gd trivial) (run_eqf ht) h
theorem xnot {t : Nat} {b : Bool} (ho : ops[i]? = some ⟨d, .unOp .not t x, ty, ps, af, gd⟩) (hef0 : (ef i, wantedE ops ⟨d, .unOp .not t x, ty, ps, af, gd⟩ e) = (false, true)) (hx : evo e x = some (.bool b))
    (h : X Tryz.prog ops lo ef K r S (bif lo i then (i, .bool (!b)) :: U else U) (pute d (.bool (!b)) e)) : X Tryz.prog ops lo ef K (i :: r) S U e := have ⟨hef, hw⟩ := tri2 hef0;
  x_val ho hef hw (fun w _ => exv (m := Op.unary .not (ev e x)) rfl (by rw [ev_of hx]; rfl)) h
theorem xpk {b : Bool} (ho : ops[i]? = some ⟨d, .pick z x y, ty, ps, af, gd⟩) (hef0 : (ef i, wantedE ops ⟨d, .pick z x y, ty, ps, af, gd⟩ e) = (false, true)) (hz : evo e z = some (.bool b)) (hv : (if b then ev e x else ev e y) = v)
    (h : X Tryz.prog ops lo ef K r S (bif lo i then (i, v) :: U else U) (pute d v e)) : X Tryz.prog ops lo ef K (i :: r) S U e := have ⟨hef, hw⟩ := tri2 hef0;
  x_val ho hef hw (fun w _ => by
    show Sem.run Tryz.prog (asBool (ev e z) >>= _) w = _
    rw [ev_of hz, ← hv]
    cases b <;> rfl) h
theorem xcv {t t' : Nat} {k k' : IntKind} {a : Int} (ho : ops[i]? = some ⟨d, .convert t t' x, ty, ps, af, gd⟩) (hef0 : (ef i, wantedE ops ⟨d, .convert t t' x, ty, ps, af, gd⟩ e) = (false, true)) (hx : evo e x = some (.int k a)) (ht : undIs t' (dInt k') = true) (ht0 : undIs t (fun _ => true) = true)
    (h : X Tryz.prog ops lo ef K r S (bif lo i then (i, .int k' (k'.wrap a)) :: U else U) (pute d (.int k' (k'.wrap a)) e)) : X Tryz.prog ops lo ef K (i :: r) S U e := have ⟨hef, hw⟩ := tri2 hef0;
  x_val ho hef hw (fun w _ => by
    refine exv (m := convert t t' (ev e x)) rfl ?_
    obtain ⟨d, hd, hu, -⟩ := run_und ht w
    obtain ⟨d0, -, hu0, -⟩ := run_und ht0 w
    rw [ev_of hx]
    unfold convert
    rw [Sem.run_bind, hu0, Result.andThen_ok, Sem.run_bind, hu, Result.andThen_ok]
    cases d <;> first | (simp [dInt] at hd; done) | skip
    rename_i k2
    have : k' = k2 := eq_of_beq hd
    subst this
    cases d0 <;> rfl) h
theorem xex {vs : List Value} {j : Nat} (ho : ops[i]? = some ⟨d, .extract x j, ty, ps, af, gd⟩) (hef0 : (ef i, wantedE ops ⟨d, .extract x j, ty, ps, af, gd⟩ e) = (false, true)) (hx : evo e x = some (.tuple vs.toArray)) (hv : nth vs j = some v)
    (h : X Tryz.prog ops lo ef K r S (bif lo i then (i, v) :: U else U) (pute d v e)) : X Tryz.prog ops lo ef K (i :: r) S U e := have ⟨hef, hw⟩ := tri2 hef0;
  x_val ho hef hw (fun w _ => by
    refine exv (m := Instr.extract (ev e x) j) rfl ?_
    rw [ev_of hx]
    rw [nth_eq] at hv
    unfold Instr.extract
    simp [hv, go_sem]) h
theorem xif {t : Nat} (ho : ops[i]? = some ⟨d, .makeInterface t x, ty, ps, af, gd⟩) (hef0 : (ef i, wantedE ops ⟨d, .makeInterface t x, ty, ps, af, gd⟩ e) = (false, true)) (hx : evo e x = some v) (ht : undIs t dNoIface = true)
    (h : X Tryz.prog ops lo ef K r S (bif lo i then (i, .iface t v) :: U else U) (pute d (.iface t v) e)) : X Tryz.prog ops lo ef K (i :: r) S U e := have ⟨hef, hw⟩ := tri2 hef0;
  x_val ho hef hw (fun w _ => by
    refine exv (m := Instr.makeInterface t (ev e x)) rfl ?_
    obtain ⟨d, hd, hu, -⟩ := run_und ht w
    rw [ev_of hx]
    unfold Instr.makeInterface
    rw [Sem.run_bind, hu]
    cases d <;> first | rfl | (simp [dNoIface] at hd; done)) h
end
def Cv (C : Cx) (f : Nat) (args : List Value) (l : Wds) (R : Asr) (v : Value) (l' : Wds) (R' : Asr) : Prop := Ct C f args.toArray l R fun u m D w => u = v ∧ m = l' ∧ R' D w
def Cn (C : Cx) (f : Nat) (args : List Value) (l : Wds) (R : Asr) (l' : Wds) (R' : Nat → Asr) : Prop := Ct C f args.toArray l R fun u m D w => ∃ q, u = .pointer (some ⟨q, 0, none⟩) ∧ m = l' ∧ R' q D w
section
variable {C : Cx} {w0 : World} {D0 : Dom} {l l' : Wds} {H H' : List Bk} {R R' : Asr}
theorem Sy.conv {w : World} (h : Sy C w0 D0 l H R w) (hl : Loc R') (hc : ∀ D w, R D w → R' D w) : Sy C w0 D0 l H R' w := by
  obtain ⟨D, h1, h2⟩ := h.rep
  have hb : ∀ (H : List Bk) (D : Dom), blks H R D w → blks H R' D w := by
    intro H
    induction H with
    | nil => exact fun D h => hc D w h
    | cons x H ih => exact fun D ⟨g1, D1, g2, g3, g4⟩ => ⟨g1, D1, ih D1 g2, g3, g4⟩
  exact ⟨h.amb, h.chg, h.mem, hl, D, hb H D h1, h2⟩
theorem Sy.callv {w : World} {f : Nat} {args : List Value} {v : Value} (h : Sy C w0 D0 l H R w) (hc : Cv C f args l R v l' R') (hl : Loc R') : Calls Tryz.prog f args.toArray w fun e w' => e = .returned v ∧ Sy C w0 D0 l' H R' w' := by
  refine (h.call hc (fun u m => ?_)).mono ?_
  · intro D w w' ⟨h1, h2, h3⟩ hk
    exact ⟨h1, h2, hl D w w' h3 hk⟩
  · rintro e w' ⟨u, rfl, m, ⟨D, w'', rfl, rfl, -⟩, hS⟩
    exact ⟨rfl, hS.conv hl (fun D w h => h.2.2)⟩
theorem Sy.calln {w : World} {f : Nat} {args : List Value} {R' : Nat → Asr} (h : Sy C w0 D0 l H R w) (hc : Cn C f args l R l' R') (hl : ∀ q, Loc (R' q)) : Calls Tryz.prog f args.toArray w fun e w' => ∃ q, e = .returned (.pointer (some ⟨q, 0, none⟩)) ∧ Sy C w0 D0 l' H (R' q) w' := by
  refine (h.call hc (fun u m => ?_)).mono ?_
  · intro D w w' ⟨q, h1, h2, h3⟩ hk
    exact ⟨q, h1, h2, hl q D w w' h3 hk⟩
  · rintro e w' ⟨u, rfl, m, ⟨D, w'', q, rfl, rfl, -⟩, hS⟩
    refine ⟨q, rfl, hS.conv (hl q) ?_⟩
    rintro D w ⟨q', h1, -, h3⟩
    have : q' = q := by simpa using h1.symm
    subst this
    exact h3
theorem Sy.drop {w : World} (h : Sy C w0 D0 l H R w) : Sy C w0 D0 l H emp w := by
  obtain ⟨D, h1, h2⟩ := h.rep
  obtain ⟨D', h3, h4⟩ := blks_drop h1
  exact ⟨h.amb, h.chg, h.mem, loc_emp, D', h3, fun k hk => h2 k (h4 k hk)⟩
theorem Cv.get {f : Nat} {args : List Value} {v : Value} (h : ∀ w, MapAt w C → Calls Tryz.prog f args.toArray w fun e w' => e = .returned v ∧ w' = w) : Cv C f args l R v l R := fun w D ha hm hR =>
  (h w ha.map).mono fun e w' ⟨he, hw⟩ => by
    subst he hw
    exact ⟨v, l, D, rfl, hm, ⟨rfl, rfl, hR⟩, Chg.refl _ _, fun k hk => ⟨ha.lt k hk, .inl hk⟩⟩
theorem Cv.getn (hl : Loc R) {f : Nat} {args : List Value} {v : Value} (h : ∀ w, MapAt w C → Calls Tryz.prog f args.toArray w fun e w' => e = .returned v ∧ ∃ n, w' = w.drewN n) : Cv C f args l R v l R := fun w D ha hm hR =>
  (h w ha.map).mono fun e w' ⟨he, n, hw⟩ => by
    subst he hw
    exact ⟨v, l, D, rfl, hm.chg (F := fun _ => False) ⟨rfl, rfl, rfl, Nat.le_refl _, fun _ _ _ => rfl⟩ id id, ⟨rfl, rfl, hl D w _ hR (fun _ _ => rfl)⟩, ⟨rfl, rfl, rfl, Nat.le_refl _, fun _ _ _ => rfl⟩, fun k hk => ⟨ha.lt k hk, .inl hk⟩⟩
theorem Cv.mem (hl : Loc R) {f : Nat} {args : List Value} {v : Value} (h : ∀ w, Mem w C l → Calls Tryz.prog f args.toArray w fun e w' => e = .returned v ∧ Mem w' C l' ∧ Chg C.memF w w') : Cv C f args l R v l' R := fun w D ha hm hR =>
  (h w hm).mono fun e w' ⟨he, hm', hc⟩ => by
    subst he
    refine ⟨v, l', D, rfl, hm', ⟨rfl, rfl, hl D w _ hR (fun k hk => hc.block k (ha.lt k hk) ?_)⟩, hc.mono (fun k hk => .inr hk), fun k hk => ⟨?_, .inl hk⟩⟩
    · rintro (rfl | rfl)
      · exact ha.ns hk
      · exact ha.ng hk
    · have := ha.lt k hk
      have := hc.size
      omega
variable {ops : Array Oper} {lo ef : Nat → Bool} {K : (World → Prop) → Env → Prop} {i : Nat} {r : List Nat} {S : World → Prop} {U : List (Nat × Value)} {e : Env} {o : Oper} {v u : Value} {d : Option Nat} {ty : Nat} {ps : String} {af : Array Edge} {gd : Option (Nat × Bool)} {x y z : Operand}
theorem run_call {f : Operand} {a : Array Operand} {tys : Array Nat} {g : Nat} {first captured args : List Value} (hf : evo e f = some (.func (.func g) first.toArray captured.toArray)) (ha : evos e a.toList = some args) (hg : fnB g = true) (w : World) :
    (execOp (ev e) ⟨d, .call ⟨.value f, a, tys⟩, ty, ps, af, gd⟩).run Tryz.prog w = .ok (.enter g (first ++ args ++ captured).toArray) w := by
  show Sem.run Tryz.prog (resolve (ev e) ⟨.value f, a, tys⟩ ty >>= fun d => invoke d.target d.args) w = _
  have h1 : resolve (ev e) ⟨.value f, a, tys⟩ ty = pure { target := .fn (.func g) captured.toArray, args := first.toArray ++ args.toArray } := by
    unfold resolve
    simp only [ev_of hf, evs_arr ha]
    rfl
  simp only [h1, Sem.run_bind, Sem.run_pure, Result.andThen_ok, invoke, run_callFunc hg]
  simp
theorem eff_call {f : Operand} {a : Array Operand} {tys : Array Nat} {g : Nat} {first captured args : List Value} {w : World} {K : Value → World → Prop} (hf : evo e f = some (.func (.func g) first.toArray captured.toArray)) (ha : evos e a.toList = some args) (hg : fnB g = true)
    (h : Calls Tryz.prog g (first ++ args ++ captured).toArray w fun e w' => ∃ v, e = .returned v ∧ K v w') : eff Tryz.prog ⟨d, .call ⟨.value f, a, tys⟩, ty, ps, af, gd⟩ (ev e) w K := by
  unfold eff
  rw [run_call hf ha hg w]
  exact h
theorem x_still (ho : ops[i]? = some o) (hef : ef i = false) (hw : wantedE ops o e = true) (hq : ∀ w, S w → eff Tryz.prog o (ev e) w fun u w' => u = v ∧ S w') (h : X Tryz.prog ops lo ef K r S (bif lo i then (i, v) :: U else U) (pute o.dst v e)) : X Tryz.prog ops lo ef K (i :: r) S U e := by
  refine ⟨o, ho, ?_⟩
  rw [hef]
  exact ⟨v, .inl ⟨hw, hq⟩, h⟩
theorem xcq {f : Operand} {a : Array Operand} {tys : Array Nat} {g : Nat} {first captured args : List Value} (ho : ops[i]? = some ⟨d, .call ⟨.value f, a, tys⟩, ty, ps, af, gd⟩) (hef0 : (ef i, wantedE ops ⟨d, .call ⟨.value f, a, tys⟩, ty, ps, af, gd⟩ e) = (false, true)) (hf : evo e f = some (.func (.func g) first.toArray captured.toArray)) (ha : evos e a.toList = some args) (hg : fnB g = true)
    (hc : Cv C g (first ++ args ++ captured) l R v l R) (hl : Loc R)
    (h : X Tryz.prog ops lo ef K r (Sy C w0 D0 l H R) (bif lo i then (i, v) :: U else U) (pute d v e)) : X Tryz.prog ops lo ef K (i :: r) (Sy C w0 D0 l H R) U e := have ⟨hef, hw⟩ := tri2 hef0;
  x_still ho hef hw (fun w hS => eff_call hf ha hg ((hS.callv hc hl).mono fun e w' ⟨h1, h2⟩ => ⟨v, h1, rfl, h2⟩)) h
theorem xce {f : Operand} {a : Array Operand} {tys : Array Nat} {g : Nat} {first captured args : List Value} (ho : ops[i]? = some ⟨d, .call ⟨.value f, a, tys⟩, ty, ps, af, none⟩) (hef : ef i = true) (hf : evo e f = some (.func (.func g) first.toArray captured.toArray)) (ha : evos e a.toList = some args) (hg : fnB g = true)
    (hc : Cv C g (first ++ args ++ captured) l R v l' R') (hl : Loc R') (hp : Pend ops i U (Sy C w0 D0 l' H R') e)
    (h : X Tryz.prog ops lo ef K r (Sy C w0 D0 l' H R') U (pute d v e)) : X Tryz.prog ops lo ef K (i :: r) (Sy C w0 D0 l H R) U e :=
  x_eff (K' := fun u w' => u = v ∧ Sy C w0 D0 l' H R' w') ho hef rfl (fun w hS => eff_call hf ha hg ((hS.callv hc hl).mono fun e w' ⟨h1, h2⟩ => ⟨v, h1, rfl, h2⟩)) (fun u w' ⟨h1, h2⟩ => ⟨_, h2, hp, by rw [h1]; exact h⟩)
theorem xcn {f : Operand} {a : Array Operand} {tys : Array Nat} {g : Nat} {first captured args : List Value} {R' : Nat → Asr} (ho : ops[i]? = some ⟨d, .call ⟨.value f, a, tys⟩, ty, ps, af, none⟩) (hef : ef i = true) (hf : evo e f = some (.func (.func g) first.toArray captured.toArray)) (ha : evos e a.toList = some args) (hg : fnB g = true)
    (hc : Cn C g (first ++ args ++ captured) l emp l' R') (hl : ∀ q, Loc (R' q)) (hp : ∀ q, Pend ops i U (Sy C w0 D0 l' H (R' q)) e)
    (h : ∀ q, X Tryz.prog ops lo ef K r (Sy C w0 D0 l' H (R' q)) U (pute d (.pointer (some ⟨q, 0, none⟩)) e)) : X Tryz.prog ops lo ef K (i :: r) (Sy C w0 D0 l H R) U e :=
  x_eff (K' := fun u w' => ∃ q, u = .pointer (some ⟨q, 0, none⟩) ∧ Sy C w0 D0 l' H (R' q) w') ho hef rfl (fun w hS => eff_call hf ha hg ((hS.drop.calln hc hl).mono fun e w' ⟨q, h1, h2⟩ => ⟨_, h1, q, rfl, h2⟩)) (fun u w' ⟨q, h1, h2⟩ => ⟨_, h2, hp q, by rw [h1]; exact h q⟩)
theorem X.nil (h : K S e) : X Tryz.prog ops lo ef K [] S U e := h
end
noncomputable def layB (t : Nat) (lay : List (Nat × Nat)) : Bool :=
  match Tryz.prog.underlying t with
  | some (.struct fs) => fs.toList.map (fun f => (f.offset, ((Tryz.prog.info? f.type).map (·.size)).getD 0)) == lay && fs.all (fun f => (Tryz.prog.info? f.type).isSome)
  | _ => false
def bldv (lay : List (Nat × Nat)) : List Value → List (Nat × Value) → List Value
  | zs, [] => zs
  | zs, (i, v) :: r => bldv lay (setcs zs (lay.getD i (0, 0)).1 v.cells.toList) r
def okParts (lay : List (Nat × Nat)) (n : Nat) : List (Nat × Value) → Bool
  | [] => true
  | (i, v) :: r => (match lay[i]? with | some (off, sz) => v.cells.size == sz && decide (off + sz ≤ n) | none => false) && okParts lay n r
theorem setcs_length : ∀ (vs cs : List Value) (o : Nat), (setcs cs o vs).length = cs.length
  | [], _, _ => rfl
  | v :: vs, cs, o => by
    show (setcs (setc cs o v) (o + 1) vs).length = _
    rw [setcs_length vs, setc_length]
theorem foldl_setcs : ∀ (vs : List Value) (cs : List Value) (off k : Nat), ((vs.zipIdx k).foldl (fun (cs : Array Value) (x : Value × Nat) => cs.setIfInBounds (off + x.2) x.1) cs.toArray) = (setcs cs (off + k) vs).toArray
  | [], _, _, _ => rfl
  | v :: vs, cs, off, k => by
    simp only [List.zipIdx_cons, List.foldl_cons]
    have : (cs.toArray.setIfInBounds (off + k) v) = (setc cs (off + k) v).toArray := by rw [setc_eq]; simp
    rw [this, foldl_setcs vs _ off (k + 1)]
    rfl
theorem run_fill {lay : List (Nat × Nat)} {place : Nat → Option (Nat × Nat)} (hp : ∀ i, place i = lay[i]?) : ∀ (pv : List (Nat × Value)) (zs : List Value), okParts lay zs.length pv = true → Instr.fill place zs.toArray pv = some (bldv lay zs pv).toArray
  | [], _, _ => rfl
  | (i, v) :: r, zs, h => by
    unfold okParts at h
    rw [Bool.and_eq_true] at h
    obtain ⟨h1, h2⟩ := h
    unfold Instr.fill
    rw [hp i]
    split at h1
    · rename_i off sz he
      simp only [Bool.and_eq_true, beq_iff_eq, decide_eq_true_eq] at h1
      obtain ⟨h3, h4⟩ := h1
      have hn : ¬ ((v.cells.size ≠ sz || decide (off + v.cells.size > zs.toArray.size)) = true) := by
        simp [h3]
        omega
      simp only [he]
      rw [if_neg hn]
      have hf : v.cells.zipIdx.foldl (fun (cs : Array Value) (x : Value × Nat) => cs.setIfInBounds (off + x.2) x.1) zs.toArray = (setcs zs off v.cells.toList).toArray := by
        have := foldl_setcs v.cells.toList zs off 0
        rw [Nat.add_zero] at this
        rw [← this]
        rw [← Array.foldl_toList]
        simp [Array.toList_zipIdx]
      have hf' : (v.cells.zipIdx.foldl (fun cs (x : Value × Nat) => match x with | (c, j) => cs.setIfInBounds (off + j) c) zs.toArray) = (setcs zs off v.cells.toList).toArray := hf
      rw [hf', run_fill hp r _ (by rw [setcs_length]; exact h2)]
      have : lay.getD i (0, 0) = (off, sz) := by simp [List.getD, he]
      simp only [bldv, this]
    · cases h1
def evop (e : Env) : List (Nat × Operand) → Option (List (Nat × Value))
  | [] => some []
  | (i, x) :: l => match evo e x, evop e l with
    | some v, some vs => some ((i, v) :: vs)
    | _, _ => none
theorem evop_of {e : Env} : ∀ {l : List (Nat × Operand)} {vs : List (Nat × Value)}, evop e l = some vs → l.map (fun (p : Nat × Operand) => (p.1, ev e p.2)) = vs
  | [], vs, h => by cases h; rfl
  | (i, x) :: l, vs, h => by
    unfold evop at h
    split at h
    · rename_i v us h1 h2
      cases h
      simp [ev_of h1, evop_of h2]
    · cases h
theorem run_build {t : Nat} {lay : List (Nat × Nat)} {zs : List Value} {pv : List (Nat × Value)} (hl : layB t lay = true) (hz : zer t = some zs) (hok : okParts lay zs.length pv = true) (w : World) : (Instr.build t pv.toArray).run Tryz.prog w = .ok (.agg (bldv lay zs pv).toArray) w := by
  unfold layB at hl
  split at hl
  · rename_i fs hu
    simp only [Bool.and_eq_true, beq_iff_eq] at hl
    obtain ⟨hl1, hl2⟩ := hl
    have h1 : ∃ zv, (zeroValue t).run Tryz.prog w = .ok zv w ∧ zv.cells = zs.toArray := by
      unfold zer at hz
      cases hi : Tryz.prog.info? t with
      | none => rw [hi] at hz; cases hz
      | some inf =>
        rw [hi] at hz
        cases hz0 : inf.zero with
        | none => simp [hz0] at hz
        | some zv =>
          refine ⟨zv, by unfold zeroValue typeInfo; simp [go_sem, hi, hz0], ?_⟩
          simp [hz0] at hz
          rw [← hz]
    obtain ⟨zv, hzv, hzc⟩ := h1
    have h2 : (underlying t).run Tryz.prog w = .ok (.struct fs) w := by unfold underlying; simp [go_sem, hu]
    have h3 : ∀ f ∈ fs, (do pure (f.offset, ← sizeOf f.type) : Sem (Nat × Nat)).run Tryz.prog w = .ok (f.offset, ((Tryz.prog.info? f.type).map (·.size)).getD 0) w := fun f hf => by
      have := Array.all_eq_true_iff_forall_mem.1 hl2 f hf
      obtain ⟨inf, hi⟩ := Option.isSome_iff_exists.1 this
      unfold sizeOf typeInfo
      simp [go_sem, hi]
    have h4 : ∀ (l : List Field) (acc : List (Nat × Nat)), (∀ f ∈ l, f ∈ fs) → (l.mapM (fun f => do pure (f.offset, ← sizeOf f.type)) : Sem (List (Nat × Nat))).run Tryz.prog w = .ok (l.map (fun f => (f.offset, ((Tryz.prog.info? f.type).map (·.size)).getD 0))) w := by
      intro l
      induction l with
      | nil => intro _ _; simp [Sem.run_pure]
      | cons f l ih =>
        intro acc hl
        rw [List.mapM_cons, Sem.run_bind, h3 f (hl f (by simp))]
        simp only [Result.andThen_ok, Sem.run_bind, ih acc (fun g hg => hl g (by simp [hg])), Sem.run_pure]
        rfl
    have h5 : (fs.mapM (fun f => do pure (f.offset, ← sizeOf f.type)) : Sem (Array (Nat × Nat))).run Tryz.prog w = .ok lay.toArray w := by
      rw [Array.mapM_eq_mapM_toList, Sem.run_map, h4 fs.toList [] (fun f hf => by simpa using hf), hl1]
      rfl
    unfold Instr.build
    simp only [Sem.run_bind, hzv, Result.andThen_ok, h2, h5, hzc]
    have h6 := run_fill (lay := lay) (place := fun i => lay.toArray[i]?) (fun i => by simp) pv zs hok
    have h7 : Instr.fill (fun i => lay.toArray[i]?) zs.toArray pv.toArray.toList = some (bldv lay zs pv).toArray := h6
    simp only [h7, Sem.run_pure]
  · cases hl
section
variable {ops : Array Oper} {lo ef : Nat → Bool} {K : (World → Prop) → Env → Prop} {i : Nat} {r : List Nat} {S : World → Prop} {U : List (Nat × Value)} {e : Env} {o : Oper} {v u : Value} {d : Option Nat} {ty : Nat} {ps : String} {af : Array Edge} {gd : Option (Nat × Bool)} {x y z : Operand}
theorem xbd {t : Nat} {parts : Array (Nat × Operand)} {lay : List (Nat × Nat)} {zs : List Value} {pv : List (Nat × Value)} (ho : ops[i]? = some ⟨d, .build t parts, ty, ps, af, gd⟩) (hef0 : (ef i, wantedE ops ⟨d, .build t parts, ty, ps, af, gd⟩ e) = (false, true)) (hp : evop e parts.toList = some pv) (hl : layB t lay = true) (hz : zer t = some zs) (hok : okParts lay zs.length pv = true)
    (h : X Tryz.prog ops lo ef K r S (bif lo i then (i, .agg (bldv lay zs pv).toArray) :: U else U) (pute d (.agg (bldv lay zs pv).toArray) e)) : X Tryz.prog ops lo ef K (i :: r) S U e := have ⟨hef, hw⟩ := tri2 hef0;
  x_val ho hef hw (fun w _ => by
    have h1 : (parts.map fun (p : Nat × Operand) => (p.1, ev e p.2)) = pv.toArray := by
      cases parts with
      | mk l =>
        rw [← evop_of hp]
        simp
    refine exv (m := Instr.build t (parts.map fun (p : Nat × Operand) => (p.1, ev e p.2))) rfl ?_
    rw [h1]
    exact run_build hl hz hok w) h
end
section
variable {ops : Array Oper} {lo ef : Nat → Bool} {K : (World → Prop) → Env → Prop} {i : Nat} {r : List Nat} {S : World → Prop} {U : List (Nat × Value)} {e : Env} {o : Oper} {v u : Value} {d : Option Nat} {ty : Nat} {ps : String} {af : Array Edge} {gd : Option (Nat × Bool)} {x y z : Operand}
theorem xbo {op : BinOp} {t t' : Nat} {a b : Value} (ho : ops[i]? = some ⟨d, .binOp op t x y t', ty, ps, af, gd⟩) (hef0 : (ef i, wantedE ops ⟨d, .binOp op t x y t', ty, ps, af, gd⟩ e) = (false, true)) (hx : evo e x = some a) (hy : evo e y = some b)
    (hg : ∀ w, (eqGuard op t x y a b).run Tryz.prog w = .ok () w) (hr : ∀ w, (binOp op t a b).run Tryz.prog w = .ok v w)
    (h : X Tryz.prog ops lo ef K r S (bif lo i then (i, v) :: U else U) (pute d v e)) : X Tryz.prog ops lo ef K (i :: r) S U e := have ⟨hef, hw⟩ := tri2 hef0;
  x_val ho hef hw (fun w _ => by
    rw [exec_binOp, Sem.run_bind, ev_of hx, ev_of hy, Sem.run_bind, hg w, Result.andThen_ok, hr w]
    rfl) h
theorem run_rem {t : Nat} {a b : Int} (ha : 0 ≤ a) (hb : 1 ≤ b) (w : World) : (binOp .rem t (.int .u64 a) (.int .u64 b)).run Tryz.prog w = .ok (.int .u64 (a % b)) w := by
  have h0 : b ≠ 0 := by omega
  have h1 : a.tmod b = a % b := Int.tmod_eq_emod_of_nonneg ha
  simp [binOp, Op.intDiv, go_sem, h0, h1]
theorem run_builtin {b : Builtin} {a : Array Operand} {tys : Array Nat} {vs : List Value} {w w' : World} {v : Value} (ha : evos e a.toList = some vs) (hb : (builtin b tys ty (a.map fun | .const _ => true | _ => false) vs.toArray).run Tryz.prog w = .ok (.value v) w') :
    (execOp (ev e) ⟨d, .call ⟨.builtin b, a, tys⟩, ty, ps, af, gd⟩).run Tryz.prog w = .ok (.value v) w' := by
  show Sem.run Tryz.prog (resolve (ev e) ⟨.builtin b, a, tys⟩ ty >>= fun d => invoke d.target d.args) w = _
  have h1 : resolve (ev e) ⟨.builtin b, a, tys⟩ ty = pure { target := .builtin b tys ty (a.map fun | .const _ => true | _ => false), args := vs.toArray } := by
    unfold resolve
    simp only [evs_arr ha]
    rfl
  simp only [h1, Sem.run_bind, Sem.run_pure, Result.andThen_ok, invoke]
  exact hb
theorem xlen {a : Array Operand} {t : Nat} {p : Option Addr} {n c : Nat} (ho : ops[i]? = some ⟨d, .call ⟨.builtin .len, a, #[t]⟩, ty, ps, af, gd⟩) (hef0 : (ef i, wantedE ops ⟨d, .call ⟨.builtin .len, a, #[t]⟩, ty, ps, af, gd⟩ e) = (false, true)) (ha : evos e a.toList = some [.slice p n c]) (ht : undIs t dSlice = true)
    (h : X Tryz.prog ops lo ef K r S (bif lo i then (i, .int .i64 n) :: U else U) (pute d (.int .i64 n) e)) : X Tryz.prog ops lo ef K (i :: r) S U e := have ⟨hef, hw⟩ := tri2 hef0;
  x_val ho hef hw (fun w _ => run_builtin ha (by
    obtain ⟨d, hd, hu, -⟩ := run_und ht w
    cases d <;> first | (simp [dSlice] at hd; done) | skip
    simp [builtin, Builtin.len_, go_sem, hu, goInt])) h
theorem xmax {a : Array Operand} {tys : Array Nat} {k : IntKind} {m n : Int} (ho : ops[i]? = some ⟨d, .call ⟨.builtin .max, a, tys⟩, ty, ps, af, gd⟩) (hef0 : (ef i, wantedE ops ⟨d, .call ⟨.builtin .max, a, tys⟩, ty, ps, af, gd⟩ e) = (false, true)) (ha : evos e a.toList = some [.int k m, .int k n])
    (h : X Tryz.prog ops lo ef K r S (bif lo i then (i, .int k (max m n)) :: U else U) (pute d (.int k (max m n)) e)) : X Tryz.prog ops lo ef K (i :: r) S U e := have ⟨hef, hw⟩ := tri2 hef0;
  x_val ho hef hw (fun w _ => run_builtin ha (by
    have : (if n > m then n else m) = max m n := by
      by_cases h : n > m
      · rw [if_pos h]; omega
      · rw [if_neg h]; omega
    simp [builtin, Builtin.max_, Builtin.max2, go_sem, this])) h
theorem xmin {a : Array Operand} {tys : Array Nat} {k : IntKind} {m n : Int} (ho : ops[i]? = some ⟨d, .call ⟨.builtin .min, a, tys⟩, ty, ps, af, gd⟩) (hef0 : (ef i, wantedE ops ⟨d, .call ⟨.builtin .min, a, tys⟩, ty, ps, af, gd⟩ e) = (false, true)) (ha : evos e a.toList = some [.int k m, .int k n])
    (h : X Tryz.prog ops lo ef K r S (bif lo i then (i, .int k (min m n)) :: U else U) (pute d (.int k (min m n)) e)) : X Tryz.prog ops lo ef K (i :: r) S U e := have ⟨hef, hw⟩ := tri2 hef0;
  x_val ho hef hw (fun w _ => run_builtin ha (by
    have : (if n < m then n else m) = min m n := by
      by_cases h : n < m
      · rw [if_pos h]; omega
      · rw [if_neg h]; omega
    simp [builtin, Builtin.min_, Builtin.min2, go_sem, this])) h
noncomputable def fldT (t f t' : Nat) : Bool := match Tryz.prog.underlying t with
  | some (.struct fs) => (fs[f]?).map (·.type) == some t'
  | _ => false
theorem run_fieldv {t f off : Nat} {t' : Nat} {cs : List Value} {v : Value} (hf : fld t f off = true) (hft : fldT t f t' = true) (h1 : one t' = true) (hv : nth cs off = some v) (w : World) : (Instr.field t (.agg cs.toArray) f).run Tryz.prog w = .ok v w := by
  unfold fld at hf
  unfold fldT at hft
  split at hf
  · rename_i fs hu
    rw [hu] at hft
    split at hf
    · rename_i g hg
      simp only [Bool.and_eq_true, beq_iff_eq] at hf
      have ht : g.type = t' := by simpa [hg] using hft
      have ho : g.offset = off := hf.1
      subst ht ho
      rw [nth_eq] at hv
      have h2 : (underlying t).run Tryz.prog w = .ok (.struct fs) w := by unfold underlying; simp [go_sem, hu]
      unfold Instr.field
      simp only [Sem.run_bind, h2, Result.andThen_ok, hg]
      have h3 : (asAgg (.agg cs.toArray)).run Tryz.prog w = .ok cs.toArray w := by simp [asAgg, go_sem]
      simp only [Sem.run_bind, h3, Result.andThen_ok, part, (run_isAgg_one h1 w).1]
      simp [hv, go_sem]
    · cases hf
  · cases hf
theorem xfd {t f off t' : Nat} {cs : List Value} (ho : ops[i]? = some ⟨d, .field t x f, ty, ps, af, gd⟩) (hef0 : (ef i, wantedE ops ⟨d, .field t x f, ty, ps, af, gd⟩ e) = (false, true)) (hx : evo e x = some (.agg cs.toArray)) (hf : fld t f off = true) (hft : fldT t f t' = true) (h1 : one t' = true) (hv : nth cs off = some v)
    (h : X Tryz.prog ops lo ef K r S (bif lo i then (i, v) :: U else U) (pute d v e)) : X Tryz.prog ops lo ef K (i :: r) S U e := have ⟨hef, hw⟩ := tri2 hef0;
  x_val ho hef hw (fun w _ => exv (m := Instr.field t (ev e x) f) rfl (by rw [ev_of hx]; exact run_fieldv hf hft h1 hv w)) h
end
section
variable {Q : Exit → Act → World → Prop} {n : Nat} {r : List Code} {S : World → Prop} {e : Env} {C : Cx} {w0 : World} {D0 : Dom} {l l' : Wds} {H H' H1 H2 H2' : List Bk} {R R' : Asr}
theorem T.mch {t d : Nat} {cs : Value → List Value} {Nx : Value → Asr → Prop} (hl : ∀ nv RN, Nx nv RN → Loc RN) (h : ∀ nv RN, Nx nv RN → Loc RN → T Q n r (Sy C w0 D0 l (H ++ [⟨d, t, cs nv⟩]) RN) e) : T Q n r (Sy C w0 D0 l H (Mch t d cs Nx)) e := fun w a hS hF => by
  obtain ⟨nv, RN, h1, h2, h3⟩ := hS.mch hl
  exact h nv RN h1 h2 w a h3 hF
theorem T.ex {α : Sort _} {R : α → Asr} (hl : ∀ a, Loc (R a)) (h : ∀ a, T Q n r (Sy C w0 D0 l H (R a)) e) : T Q n r (Sy C w0 D0 l H (fun D w => ∃ a, R a D w)) e := fun w a hS hF => by
  obtain ⟨x, h1⟩ := hS.exR hl
  exact h x w a h1 hF
theorem T.and {p : Prop} (hl : p → Loc R) (h : p → T Q n r (Sy C w0 D0 l H R) e) : T Q n r (Sy C w0 D0 l H (fun D w => p ∧ R D w)) e := fun w a hS hF => by
  obtain ⟨hp, h1⟩ := hS.andR' hl
  exact h hp w a h1 hF
theorem T.bks (hl : Loc R) (h : T Q n r (Sy C w0 D0 l (H ++ H2) R) e) : T Q n r (Sy C w0 D0 l H (blks H2 R)) e := fun w a hS hF => h w a (hS.unfold hl) hF
variable {ops : Array Oper} {lo ef : Nat → Bool} {K : (World → Prop) → Env → Prop} {i : Nat} {rr : List Nat} {U : List (Nat × Value)} {v u : Value} {d : Option Nat} {ty : Nat} {ps : String} {af : Array Edge} {gd : Option (Nat × Bool)} {x y z : Operand}
theorem xcf {f : Operand} {a : Array Operand} {tys : Array Nat} {g : Nat} {first captured args : List Value} (ho : ops[i]? = some ⟨d, .call ⟨.value f, a, tys⟩, ty, ps, af, none⟩) (hef : ef i = true) (hf : evo e f = some (.func (.func g) first.toArray captured.toArray)) (ha : evos e a.toList = some args) (hg : fnB g = true) (hH : H1 ++ H2 = H)
    (hc : Cv C g (first ++ args ++ captured) l (blks H2 R) v l' R') (hl : Loc R') (hp : Pend ops i U (Sy C w0 D0 l' H1 R') e)
    (h : X Tryz.prog ops lo ef K rr (Sy C w0 D0 l' H1 R') U (pute d v e)) : X Tryz.prog ops lo ef K (i :: rr) (Sy C w0 D0 l H R) U e :=
  x_eff (K' := fun u w' => u = v ∧ Sy C w0 D0 l' H1 R' w') ho hef rfl (fun w hS => by
    subst hH
    exact eff_call hf ha hg ((hS.fold.callv hc hl).mono fun e w' ⟨h1, h2⟩ => ⟨v, h1, rfl, h2⟩)) (fun u w' ⟨h1, h2⟩ => ⟨_, h2, hp, by rw [h1]; exact h⟩)
theorem xcb {f : Operand} {a : Array Operand} {tys : Array Nat} {g : Nat} {first captured args : List Value} (ho : ops[i]? = some ⟨d, .call ⟨.value f, a, tys⟩, ty, ps, af, none⟩) (hef : ef i = true) (hf : evo e f = some (.func (.func g) first.toArray captured.toArray)) (ha : evos e a.toList = some args) (hg : fnB g = true) (hH : H1 ++ H2 = H)
    (hc : Cv C g (first ++ args ++ captured) l (blks H2 R) v l' (blks H2' R')) (hl : Loc R') (hH' : H1 ++ H2' = H') (hp : Pend ops i U (Sy C w0 D0 l' H' R') e)
    (h : X Tryz.prog ops lo ef K rr (Sy C w0 D0 l' H' R') U (pute d v e)) : X Tryz.prog ops lo ef K (i :: rr) (Sy C w0 D0 l H R) U e :=
  x_eff (K' := fun u w' => u = v ∧ Sy C w0 D0 l' H' R' w') ho hef rfl (fun w hS => by
    subst hH hH'
    exact eff_call hf ha hg ((hS.fold.callv hc (loc_blks hl H2')).mono fun e w' ⟨h1, h2⟩ => ⟨v, h1, rfl, h2.unfold hl⟩)) (fun u w' ⟨h1, h2⟩ => ⟨_, h2, hp, by rw [h1]; exact h⟩)
theorem xcr {f : Operand} {a : Array Operand} {tys : Array Nat} {g : Nat} {first captured args : List Value} (ho : ops[i]? = some ⟨d, .call ⟨.value f, a, tys⟩, ty, ps, af, gd⟩) (hef0 : (ef i, wantedE ops ⟨d, .call ⟨.value f, a, tys⟩, ty, ps, af, gd⟩ e) = (false, true)) (hf : evo e f = some (.func (.func g) first.toArray captured.toArray)) (ha : evos e a.toList = some args) (hg : fnB g = true) (hH : H1 ++ H2 = H)
    (hc : Cv C g (first ++ args ++ captured) l (blks H2 R) v l (blks H2 R)) (hl : Loc R)
    (h : X Tryz.prog ops lo ef K rr (Sy C w0 D0 l H R) (bif lo i then (i, v) :: U else U) (pute d v e)) : X Tryz.prog ops lo ef K (i :: rr) (Sy C w0 D0 l H R) U e := have ⟨hef, hw⟩ := tri2 hef0;
  x_still ho hef hw (fun w hS => by
    subst hH
    exact eff_call hf ha hg ((hS.fold.callv hc (loc_blks hl H2)).mono fun e w' ⟨h1, h2⟩ => ⟨v, h1, rfl, h2.unfold hl⟩)) h
theorem wrap64u (n : Int) : IntKind.u64.wrap n = w64 n := IntKind.wrap_u64 n
theorem wrap32u (n : Int) : IntKind.u32.wrap n = w32 n := IntKind.wrap_u32 n
end
def NxIs (nv : Value) (b : Bool) : Prop := (nv = .nilFunc ∧ b = true) ∨ (∃ f p q, nv = .func f p q ∧ b = false)
theorem nx_gd {nv : Value} {b : Bool} {op : BinOp} {t : Nat} {x y : Operand} (h : NxIs nv b) (w : World) : (eqGuard op t x y nv .nilFunc).run Tryz.prog w = .ok () w := by
  unfold eqGuard
  rcases h with ⟨rfl, -⟩ | ⟨f, p, q, rfl, -⟩ <;> cases op <;> simp [go_sem]
theorem nx_eq {nv : Value} {b : Bool} {t : Nat} (h : NxIs nv b) (ht : undIs t dFun = true) (w : World) : (binOp .eql t nv .nilFunc).run Tryz.prog w = .ok (.bool b) w := by
  rcases h with ⟨rfl, rfl⟩ | ⟨f, p, q, rfl, rfl⟩
  · exact run_eqn ht w
  · exact run_eqf ht w
theorem nx_ne {nv : Value} {b : Bool} {t : Nat} (h : NxIs nv b) (ht : undIs t dFun = true) (w : World) : (binOp .neq t nv .nilFunc).run Tryz.prog w = .ok (.bool (!b)) w := by
  rcases h with ⟨rfl, rfl⟩ | ⟨f, p, q, rfl, rfl⟩
  · have := run_nil (.inr ⟨ht, rfl, .inr ⟨rfl, rfl⟩⟩) w
    simp only [binOp, Sem.run_bind, this, Result.andThen_ok, Sem.run_pure]
  · have := run_nil (.inr ⟨ht, rfl, .inl ⟨f, p, q, rfl, rfl⟩⟩) w
    simp only [binOp, Sem.run_bind, this, Result.andThen_ok, Sem.run_pure]
theorem run_cell {t b off n : Nat} {cs : List Value} {C : Cx} {w0 : World} {D0 : Dom} {l : Wds} {H : List Bk} {R : Asr} {w : World} (hS : Sy C w0 D0 l H R w) (h1 : many t n = true) (hi : In b cs H) (hn : (slc cs off n).length = n) : (loadVar t ⟨b, off, none⟩).run Tryz.prog w = .ok (.agg (slc cs off n).toArray) w :=
  run_loadVar_many h1 (slc cs off n) hn (fun j v hj => by
    refine (hS.cell hi ?_).1
    unfold slc at hj
    rw [List.getElem?_take] at hj
    split at hj
    · rw [nth_eq, ← hj, List.getElem?_drop]
    · cases hj)
section
variable {C : Cx} {w0 : World} {D0 : Dom} {l : Wds} {H : List Bk} {R : Asr} {fn : Func} {n : Nat} {e : Env} {r : List Code} {Q : Value → Wds → Asr} {a t b off k u v : Nat} {cs : List Value}
theorem results_c {P : Program} {tm : Array Value} {w : World} {x : Value} {bb : Nat} (hr : fn.results = #[.cell a t]) (ha : tm.getD a undef = .pointer (some ⟨bb, off, none⟩)) (hx : (loadVar t ⟨bb, off, none⟩).run P w = .ok x w) : (results fn tm).run P w = .ok x w := by
  have ha' : tm[a]?.getD undef = .pointer (some ⟨bb, off, none⟩) := by rw [← ha]; simp
  simp [results, hr, asAddr, ha', hx]
theorem results_c2 {P : Program} {tm : Array Value} {w : World} {x : Value} {bb : Nat} (hr : fn.results = #[.cell a t, .tmp u]) (ha : tm.getD a undef = .pointer (some ⟨bb, off, none⟩)) (hx : (loadVar t ⟨bb, off, none⟩).run P w = .ok x w) : (results fn tm).run P w = .ok (.tuple #[x, tm.getD u undef]) w := by
  have ha' : tm[a]?.getD undef = .pointer (some ⟨bb, off, none⟩) := by rw [← ha]; simp
  simp [results, hr, asAddr, ha', hx]
theorem T.retc (hr : fn.results = #[.cell a t]) (ha : lk? e a = some (.pointer (some ⟨b, off, none⟩))) (h1 : many t k = true) (hi : In b cs H) (hn : (slc cs off k).length = k) (hq : ∀ w D, blks H R D w → ∃ D', Q (.agg (slc cs off k).toArray) l D' w ∧ ∀ k, D' k → D k) : T (bodyPost Tryz.prog fn (Fin C w0 D0 Q)) n (.ret :: r) (Sy C w0 D0 l H R) e :=
  T.ret fun w a' hS hF => ⟨hF.defers, _, results_c hr (by rw [hF.at_ a]; exact lk_of ha) (run_cell hS h1 hi hn), hS.fin (hq w)⟩
theorem T.retc2 (hr : fn.results = #[.cell a t, .tmp u]) (ha : lk? e a = some (.pointer (some ⟨b, off, none⟩))) (h1 : many t k = true) (hi : In b cs H) (hn : (slc cs off k).length = k) (hq : ∀ w D, blks H R D w → ∃ D', Q (.tuple #[.agg (slc cs off k).toArray, lk e u]) l D' w ∧ ∀ k, D' k → D k) : T (bodyPost Tryz.prog fn (Fin C w0 D0 Q)) n (.ret :: r) (Sy C w0 D0 l H R) e :=
  T.ret fun w a' hS hF => ⟨hF.defers, _, results_c2 hr (by rw [hF.at_ a]; exact lk_of ha) (run_cell hS h1 hi hn), by rw [hF.at_ u]; exact hS.fin (hq w)⟩
end
section
variable {C : Cx} {w0 : World} {D0 : Dom} {l : Wds} {H : List Bk} {R : Asr}
variable {ops : Array Oper} {lo ef : Nat → Bool} {K : (World → Prop) → Env → Prop} {i : Nat} {r : List Nat} {U : List (Nat × Value)} {e : Env} {v : Value} {d : Option Nat} {ty : Nat} {ps : String} {af : Array Edge} {gd : Option (Nat × Bool)} {x : Operand}
theorem Sy.mcell {w : World} (h : Sy C w0 D0 l H R w) {o : Nat} {v : Value} (hv : C.mcells[o]? = some v) : w.cell? ⟨C.m, o, none⟩ = some v := by
  simp [World.cell?, h.map.mb, hv]
theorem xldm {t off : Nat} (ho : ops[i]? = some ⟨d, .load t x, ty, ps, af, gd⟩) (hef0 : (ef i, wantedE ops ⟨d, .load t x, ty, ps, af, gd⟩ e) = (false, true)) (hx : evo e x = some (.pointer (some ⟨C.m, off, none⟩))) (h1 : one t = true) (hv : C.mcells[off]? = some v)
    (h : X Tryz.prog ops lo ef K r (Sy C w0 D0 l H R) (bif lo i then (i, v) :: U else U) (pute d v e)) : X Tryz.prog ops lo ef K (i :: r) (Sy C w0 D0 l H R) U e := have ⟨hef, hw⟩ := tri2 hef0;
  x_val ho hef hw (fun w hS => exv (m := Instr.loadAt t (ev e x)) rfl (by rw [ev_of hx]; exact run_loadVar_one h1 (hS.mcell hv))) h
theorem xldam {t off n : Nat} {vs : List Value} (ho : ops[i]? = some ⟨d, .load t x, ty, ps, af, gd⟩) (hef0 : (ef i, wantedE ops ⟨d, .load t x, ty, ps, af, gd⟩ e) = (false, true)) (hx : evo e x = some (.pointer (some ⟨C.m, off, none⟩))) (h1 : many t n = true) (hv : slc C.mcells.toList off n = vs) (hn : vs.length = n)
    (h : X Tryz.prog ops lo ef K r (Sy C w0 D0 l H R) (bif lo i then (i, .agg vs.toArray) :: U else U) (pute d (.agg vs.toArray) e)) : X Tryz.prog ops lo ef K (i :: r) (Sy C w0 D0 l H R) U e := have ⟨hef, hw⟩ := tri2 hef0;
  x_val ho hef hw (fun w hS => by
    have := run_loadVar_many h1 (w := w) (b := C.m) (off := off) vs hn (fun j v hj => by
      refine hS.mcell ?_
      rw [← hv] at hj
      unfold slc at hj
      rw [List.getElem?_take] at hj
      split at hj
      · rw [← hj, List.getElem?_drop]
        simp
      · cases hj)
    exact exv (m := Instr.loadAt t (ev e x)) rfl (by rw [ev_of hx]; exact this)) h
end
section
variable {ops : Array Oper} {lo ef : Nat → Bool} {K : (World → Prop) → Env → Prop} {i : Nat} {r : List Nat} {S : World → Prop} {U : List (Nat × Value)} {e : Env} {d : Option Nat} {ty : Nat} {ps : String} {af : Array Edge} {gd : Option (Nat × Bool)} {x : Operand}
theorem xcvc {t t' : Nat} {k k' : IntKind} {a c : Int} (ho : ops[i]? = some ⟨d, .convert t t' x, ty, ps, af, gd⟩) (hef0 : (ef i, wantedE ops ⟨d, .convert t t' x, ty, ps, af, gd⟩ e) = (false, true)) (hx : evo e x = some (.int k a)) (ht : undIs t' (dInt k') = true) (ht0 : undIs t (fun _ => true) = true) (hc : k'.wrap a = c)
    (h : X Tryz.prog ops lo ef K r S (bif lo i then (i, .int k' c) :: U else U) (pute d (.int k' c) e)) : X Tryz.prog ops lo ef K (i :: r) S U e := by
  have ⟨hef, hw⟩ := tri2 hef0
  subst hc
  exact xcv ho hef0 hx ht ht0 h
end
theorem wrap64i {n : Int} (h : -9223372036854775808 ≤ n ∧ n ≤ 9223372036854775807) : IntKind.i64.wrap n = n := IntWalk.i64_in n h
theorem wrap64i32 {n : Int} (h : 0 ≤ n ∧ n ≤ 4294967295) : IntKind.i64.wrap n = n := IntWalk.i64_in n (by omega)
theorem wrap64u32 {n : Int} (h : 0 ≤ n ∧ n ≤ 4294967295) : IntKind.u64.wrap n = n := IntWalk.u64_in n (by omega)
theorem wrap32u32 {n : Int} (h : 0 ≤ n ∧ n ≤ 4294967295) : IntKind.u32.wrap n = n := IntWalk.u32_in n (by omega)
theorem eq64 (a b : Int) (w : World) (k : Nat) : (Op.equalIn (k + 1) 90 (.int .u64 a) (.int .u64 b)).run Tryz.prog w = .ok (a == b) w := by
  have hu : (underlying 90).run Tryz.prog w = .ok (.int .u64) w := by kernel_rfl
  unfold Op.equalIn
  rw [Sem.run_bind, hu]
  simp [go_sem]
theorem eq256 (a b : Int) (w : World) (k : Nat) : (Op.equalIn (k + 2) 256 (.agg #[.int .u64 a, .int .u64 0]) (.agg #[.int .u64 b, .int .u64 0])).run Tryz.prog w = .ok (a == b) w := by
  have hu : (underlying 256).run Tryz.prog w = .ok (.array 2 90) w := by kernel_rfl
  have hs : (sizeOf 90).run Tryz.prog w = .ok 1 w := by kernel_rfl
  have hp0 : ∀ a, (part 90 #[.int .u64 a, .int .u64 0] 0).run Tryz.prog w = .ok (.int .u64 a) w := fun a => by kernel_rfl
  have hp1 : ∀ a, (part 90 #[.int .u64 a, .int .u64 0] 1).run Tryz.prog w = .ok (.int .u64 0) w := fun a => by kernel_rfl
  have h1 := eq64 a b w k
  have h2 := eq64 0 0 w k
  unfold Op.equalIn
  rw [Sem.run_bind, hu]
  simp only [Result.andThen_ok, Sem.run_bind, hs]
  simp [Std.Legacy.Range.forIn_eq_forIn_range', List.range', hp0, hp1, h1, h2]
  by_cases h : a = b <;> simp [h]
theorem run_eq256 (a b : Int) (w : World) : (binOp .eql 256 (.agg #[.int .u64 a, .int .u64 0]) (.agg #[.int .u64 b, .int .u64 0])).run Tryz.prog w = .ok (.bool (a == b)) w := by
  have := eq256 a b w 9998
  have h2 : (Op.equal 256 (.agg #[.int .u64 a, .int .u64 0]) (.agg #[.int .u64 b, .int .u64 0])).run Tryz.prog w = .ok (a == b) w := this
  simp only [binOp, Sem.run_bind, h2, Result.andThen_ok, Sem.run_pure]
theorem wraps_u64 (n : Int) (h₀ : 0 ≤ n) (h₁ : n < 2 ^ 64) : IntKind.u64.wrap n = n := by rw [IntKind.wrap_u64]; omega
theorem and32 (x : Int) (h : 0 ≤ x ∧ x ≤ 18446744073709551615) : bits .and .u64 x 4294967295 = x % 4294967296 := bits_mask .u64 64 (by decide) wraps_u64 32 (by decide) x h.1 (by omega)
theorem and3 (x : Int) (h : 0 ≤ x ∧ x ≤ 18446744073709551615) : bits .and .u64 x 7 = x % 8 := bits_mask .u64 64 (by decide) wraps_u64 3 (by decide) x h.1 (by omega)
theorem or32 (a b : Int) (ha : 0 ≤ a ∧ a ≤ 4294967295) (hb : 0 ≤ b ∧ b ≤ 4294967295) : bits .or .u64 (a * 4294967296) b = a * 4294967296 + b :=
  bits_join .u64 64 (by decide) wraps_u64 32 (a * 4294967296) b (by omega) (by omega) (by omega) (by omega) (by omega) (by omega)
theorem or3 (a b : Int) (ha : 0 ≤ a ∧ a ≤ 18446744073709551615) (h8 : a % 8 = 0) (hb : 0 ≤ b ∧ b ≤ 7) : bits .or .u64 a b = a + b :=
  bits_join .u64 64 (by decide) wraps_u64 3 a b (by omega) (by omega) (by omega) (by omega) (by omega) (by omega)
theorem hi_rng {x : Int} (h : 0 ≤ x ∧ x ≤ 18446744073709551615) : 0 ≤ hi x ∧ hi x ≤ 4294967295 := by unfold hi; omega
theorem lo_rng (x : Int) : 0 ≤ lo x ∧ lo x ≤ 4294967295 := by unfold lo; omega
theorem pair_rng {a b : Int} (ha : 0 ≤ a ∧ a ≤ 4294967295) (hb : 0 ≤ b ∧ b ≤ 4294967295) : 0 ≤ pair a b ∧ pair a b ≤ 18446744073709551615 := by unfold pair; omega
theorem w32_rng (x : Int) : 0 ≤ w32 x ∧ w32 x ≤ 4294967295 := by unfold w32; omega
set_option maxHeartbeats 1000000 in
theorem Pair_calls (w : World) (h l : Int) (hh : 0 ≤ h ∧ h ≤ 4294967295) (hl : 0 ≤ l ∧ l ≤ 4294967295) : Calls Tryz.prog 53 #[.int .u32 h, .int .u32 l] w fun e w' => e = .returned (.int .u64 (pair h l)) ∧ w' = w := by
  have H := Aside0.mk (or32 h l hh hl)
  go_enter Tryz.func53, Tryz.ntmps53
  go_wp2
  go_ret
  refine ⟨?_, rfl⟩
  show Ending.returned (Value.int .u64 (bits .or .u64 (h * 4294967296) l)) = _
  rw [H.out]
  rfl
set_option maxHeartbeats 1000000 in
theorem part32_calls (w : World) (x : Int) (hx : 0 ≤ x ∧ x ≤ 18446744073709551615) : Calls Tryz.prog 102 #[.int .u64 x, .int .i64 32] w fun e w' => e = .returned (.tuple #[.int .u64 (hi x), .int .u64 (lo x)]) ∧ ∃ n, w' = w.drewN n := by
  have H := Aside0.mk (and32 x hx)
  go_enter Tryz.func102, Tryz.ntmps102
  go_wp2
  go_quiet (fail)
  go_wp2
  go_ret2
  refine ⟨?_, nq, rfl⟩
  show Ending.returned (Value.tuple #[.int .u64 (x / 4294967296), .int .u64 (bits .and .u64 x 4294967295)]) = _
  rw [H.out]
  rfl
set_option maxHeartbeats 1000000 in
theorem part3_calls (w : World) (x : Int) (hx : 0 ≤ x ∧ x ≤ 18446744073709551615) : Calls Tryz.prog 102 #[.int .u64 x, .int .i64 3] w fun e w' => e = .returned (.tuple #[.int .u64 (x / 8), .int .u64 (x % 8)]) ∧ ∃ n, w' = w.drewN n := by
  have H := Aside0.mk (and3 x hx)
  go_enter Tryz.func102, Tryz.ntmps102
  go_wp2
  go_quiet (fail)
  go_wp2
  go_ret2
  refine ⟨?_, nq, rfl⟩
  show Ending.returned (Value.tuple #[.int .u64 (x / 8), .int .u64 (bits .and .u64 x 7)]) = _
  rw [H.out]
set_option maxHeartbeats 1000000 in
theorem Split_calls (w : World) (x : Int) (hx : 0 ≤ x ∧ x ≤ 18446744073709551615) : Calls Tryz.prog 144 #[.int .u64 x] w fun e w' => e = .returned (.tuple #[.int .u32 (hi x), .int .u32 (lo x)]) ∧ ∃ n, w' = w.drewN n := by
  have h1 := hi_rng hx
  have h2 := lo_rng x
  have H := Aside0.mk hx
  clear hx
  go_enter Tryz.func144, Tryz.ntmps144
  go_wp2_with fail
  refine (part32_calls _ x H.out).mono ?_
  rintro e w1 ⟨rfl, n, rfl⟩
  generalize hA : hi x = a at *
  generalize hB : lo x = b at *
  have HA := Aside0.mk hA
  have HB := Aside0.mk hB
  clear hA hB
  go_wp2
  go_ret2
  refine ⟨?_, n, rfl⟩
  rw [HA.out, HB.out]
  rfl
set_option maxHeartbeats 1000000 in
theorem Cycle_calls (w : World) (x : Int) (hx : 0 ≤ x ∧ x ≤ 18446744073709551615) : Calls Tryz.prog 82 #[.int .u64 x] w fun e w' => e = .returned (.tuple #[.int .u64 (x / 8), .int .i64 (x % 8)]) ∧ ∃ n, w' = w.drewN n := by
  have h2 : 0 ≤ x % 8 ∧ x % 8 ≤ 7 := by omega
  have H := Aside0.mk hx
  clear hx
  go_enter Tryz.func82, Tryz.ntmps82
  go_wp2_with fail
  refine (part3_calls _ x H.out).mono ?_
  rintro e w1 ⟨rfl, n, rfl⟩
  generalize hA : x / 8 = a at *
  generalize hB : x % 8 = b at *
  have HA := Aside0.mk hA
  have HB := Aside0.mk hB
  clear hA hB
  go_wp2
  go_ret2
  refine ⟨?_, n, rfl⟩
  rw [HA.out, HB.out]
  rfl
set_option maxHeartbeats 1000000 in
theorem Turn_calls (w : World) (x l : Int) (hx : 0 ≤ x ∧ x ≤ 18446744073709551615) (hl : 0 ≤ l ∧ l ≤ 4294967295) : Calls Tryz.prog 207 #[.int .u64 x, .int .u32 l] w fun e w' => e = .returned (.int .u64 (turn x l)) ∧ ∃ n, w' = w.drewN n := by
  have h1 := hi_rng hx
  have h2 := lo_rng x
  have h3 := w32_rng (hi x + 1)
  have H := Aside0.mk hx
  have H3 := Aside0.mk (show turn x l = pair (w32 (hi x + 1)) l from rfl)
  have H4 := Aside0.mk (show IntKind.u32.wrap (hi x + 1) = w32 (hi x + 1) from IntKind.wrap_u32 _)
  clear hx
  go_enter Tryz.func207, Tryz.ntmps207
  go_wp2_with fail
  refine (Split_calls _ x H.out).mono ?_
  rintro e w1 ⟨rfl, n, rfl⟩
  generalize hA : hi x = a at *
  generalize hB : lo x = b at *
  have HA := Aside0.mk hA
  clear hA hB
  go_wp2_with fail
  have H5 : (a + 1) % 4294967296 = w32 (a + 1) := rfl
  rw [H5]
  generalize hC : w32 (a + 1) = c at *
  have HC := Aside0.mk hC
  clear hC
  refine (Pair_calls _ c l h3 hl).mono ?_
  rintro e w1 ⟨rfl, rfl⟩
  go_wp2
  go_ret
  refine ⟨?_, n, rfl⟩
  rw [H3.out]
  rfl
section
variable {C : Cx} {l : Wds} {R : Asr}
theorem ct_Load (hl : Loc R) {a : Int} : Cv C 32 [ptr C.s, .int .i64 a] l R (.int .u64 (ld l a)) l R := Cv.mem hl fun w h => Load_calls w C l a h
theorem ct_Put (hl : Loc R) {a v : Int} (hv : 0 ≤ v ∧ v ≤ 18446744073709551615) : Cv C 148 [ptr C.s, .int .i64 a, .int .u64 v] l R (.tuple #[]) (put l a v) R := Cv.mem hl fun w h => Put_calls w C l a v hv h
theorem ct_Swap (hl : Loc R) {a old v : Int} (hv : 0 ≤ v ∧ v ≤ 18446744073709551615) : Cv C 175 [ptr C.s, .int .i64 a, .int .u64 old, .int .u64 v] l R (.bool (casB l a old)) (cas l a old v) R := Cv.mem hl fun w h => Swap_calls w C l a old v hv h
theorem ct_Add (hl : Loc R) {a n : Int} : Cv C 221 [ptr C.s, .int .i64 a, .int .u64 n] l R (.int .u64 (ld l a)) (fad l a n) R := Cv.mem hl fun w h => Add_calls w C l a n h
theorem ct_Phase : Cv C 83 [ptr C.m] l R (.int .i64 0) l R := Cv.get fun w h => Phase_calls w C
theorem ct_Work : Cv C 165 [ptr C.m] l R (.int .i64 1) l R := Cv.get fun w h => Work_calls w C
theorem ct_Sweep : Cv C 143 [ptr C.m] l R (.int .i64 2) l R := Cv.get fun w h => Sweep_calls w C
theorem ct_Done : Cv C 166 [ptr C.m] l R (.int .i64 3) l R := Cv.get fun w h => Done_calls w C
theorem ct_Pool : Cv C 192 [ptr C.m] l R (.int .i64 4) l R := Cv.get fun w h => Pool_calls w C
theorem ct_Spare : Cv C 188 [ptr C.m] l R (.int .i64 5) l R := Cv.get fun w h => Spare_calls w C
theorem ct_Nodes : Cv C 30 [ptr C.m] l R (.int .i64 C.M.nodes) l R := Cv.get fun w h => Nodes_calls w C h
theorem ct_Parts : Cv C 145 [ptr C.m] l R (.int .i64 C.M.parts) l R := Cv.get fun w h => Parts_calls w C h
theorem ct_Common : Cv C 11 [ptr C.m] l R (.int .i64 C.M.nodes) l R := Cv.get fun w h => Common_calls w C h
theorem ct_Ack {i : Int} : Cv C 60 [ptr C.m, .int .i64 i] l R (.int .i64 (C.M.Ack i)) l R := Cv.get fun w h => Ack_calls w C h i
theorem ct_Head {k : Int} : Cv C 35 [ptr C.m, .int .i64 k] l R (.int .i64 (C.M.Head k)) l R := Cv.get fun w h => Head_calls w C h k
theorem ct_Many {p : Int} : Cv C 216 [ptr C.m, .int .i64 p] l R (.int .i64 (C.M.Many p)) l R := Cv.get fun w h => Many_calls w C h p
theorem ct_Link {p : Int} : Cv C 54 [ptr C.m, .int .i64 p] l R (.int .i64 (C.M.Link p)) l R := Cv.get fun w h => Link_calls w C h p
theorem ct_Header {v : Int} : Cv C 56 [ptr C.m, .int .i64 v] l R (.int .i64 (C.M.Header v)) l R := Cv.get fun w h => Header_calls w C h v
theorem ct_State {v : Int} : Cv C 33 [ptr C.m, .int .i64 v] l R (.int .i64 (C.M.State v)) l R := Cv.get fun w h => State_calls w C h v
theorem ct_Mark {v : Int} : Cv C 240 [ptr C.m, .int .i64 v] l R (.int .i64 (C.M.Mark v)) l R := Cv.get fun w h => Mark_calls w C h v
theorem ct_Next {v : Int} : Cv C 36 [ptr C.m, .int .i64 v] l R (.int .i64 (C.M.Next v)) l R := Cv.get fun w h => Next_calls w C h v
theorem ct_Room {v : Int} : Cv C 55 [ptr C.m, .int .i64 v] l R (.int .i64 (C.M.Room v)) l R := Cv.get fun w h => Room_calls w C h v
theorem ct_Task {p : Int} {j : Int} : Cv C 186 [ptr C.m, .int .i64 p, .int .i64 j] l R (.int .i64 (C.M.Task p j)) l R := Cv.get fun w h => Task_calls w C h p j
theorem ct_Top (hl : Loc R) {i : Int} : Cv C 57 [ptr C.m, .int .i64 i] l R (.int .i64 (C.M.Top i)) l R := Cv.getn hl fun w h => Top_calls w C h i
theorem ct_Bottom (hl : Loc R) {i : Int} : Cv C 136 [ptr C.m, .int .i64 i] l R (.int .i64 (C.M.Bottom i)) l R := Cv.getn hl fun w h => Bottom_calls w C h i
theorem ct_Entry (hl : Loc R) {i : Int} {j : Int} : Cv C 137 [ptr C.m, .int .i64 i, .int .i64 j] l R (.int .i64 (C.M.Entry i j)) l R := Cv.getn hl fun w h => Entry_calls w C h i j
theorem ct_Pair {h k : Int} (hh : 0 ≤ h ∧ h ≤ 4294967295) (hk : 0 ≤ k ∧ k ≤ 4294967295) : Cv C 53 [.int .u32 h, .int .u32 k] l R (.int .u64 (pair h k)) l R := Cv.get fun w _ => Pair_calls w h k hh hk
theorem ct_Split (hl : Loc R) {x : Int} (hx : 0 ≤ x ∧ x ≤ 18446744073709551615) : Cv C 144 [.int .u64 x] l R (.tuple #[.int .u32 (hi x), .int .u32 (lo x)]) l R := Cv.getn hl fun w _ => Split_calls w x hx
theorem ct_Cycle (hl : Loc R) {x : Int} (hx : 0 ≤ x ∧ x ≤ 18446744073709551615) : Cv C 82 [.int .u64 x] l R (.tuple #[.int .u64 (x / 8), .int .i64 (x % 8)]) l R := Cv.getn hl fun w _ => Cycle_calls w x hx
theorem ct_Turn (hl : Loc R) {x k : Int} (hx : 0 ≤ x ∧ x ≤ 18446744073709551615) (hk : 0 ≤ k ∧ k ≤ 4294967295) : Cv C 207 [.int .u64 x, .int .u32 k] l R (.int .u64 (turn x k)) l R := Cv.getn hl fun w _ => Turn_calls w x k hx hk
end
theorem Cv.frame {C : Cx} {l l' : Wds} {R : Asr} {f : Nat} {args : List Value} {v : Value} (hl : Loc R) (h : Cv C f args l emp v l' emp) : Cv C f args l R v l' R := fun w D ha hm hR => by
  have ha' : Amb C w (fun _ => False) := ⟨ha.map, fun _ h => h.elim, ha.ls, id, id, ⟨id, ha.nm.2⟩, ⟨id, ha.na.2⟩, ⟨id, ha.nr.2⟩⟩
  refine (h w _ ha' hm (fun _ h => h)).mono ?_
  rintro e w' ⟨u, m, D', rfl, hm', ⟨rfl, rfl, -⟩, hc, -⟩
  refine ⟨u, m, D, rfl, hm', ⟨rfl, rfl, hl D w _ hR (fun k hk => hc.block k (ha.lt k hk) ?_)⟩, hc.mono ?_, fun k hk => ⟨?_, .inl hk⟩⟩
  · rintro (h | rfl | rfl)
    · exact h
    · exact ha.ns hk
    · exact ha.ng hk
  · rintro k (h | h)
    · exact h.elim
    · exact .inr h
  · have := ha.lt k hk
    have := hc.size
    omega
end Go.Proofs.YtmpcfamcbaineaaGreat.Mo
