/- Part 6 of the proof: contracts of the functions that the law reaches, and the plain law. No condition. -/
import Derived.Test.YtmpcfamcbaineaaGreatU05
namespace Go.Proofs.YtmpcfamcbaineaaGreat.Mo
open Go.RowKit Go.Proofs.YtmpcfamcbaineaaGreat.Mo
set_option linter.unusedVariables false
set_option linter.unusedSimpArgs false
theorem Amb.sub {C : Cx} {w : World} {D D1 : Dom} (h : Amb C w D) (hs : ∀ k, D1 k → D k) : Amb C w D1 :=
  ⟨h.map, fun k hk => h.lt k (hs k hk), h.ls, fun hk => h.ns (hs _ hk), fun hk => h.ng (hs _ hk), ⟨fun hk => h.nm.1 (hs _ hk), h.nm.2⟩, ⟨fun hk => h.na.1 (hs _ hk), h.na.2⟩, ⟨fun hk => h.nr.1 (hs _ hk), h.nr.2⟩⟩
theorem Ct.sepF {C : Cx} {f : Nat} {args : Array Value} {l : Wds} {R F : Asr} {Q : Value → Wds → Asr} (h : Ct C f args l R Q) (hF : Loc F) : Ct C f args l (sep R F) fun v l' => sep (Q v l') F := by
  rintro w D ha hm ⟨D1, D2, h1, h2, h3, h4⟩
  refine (h w D1 (ha.sub fun k hk => (h4 k).2 (.inl hk)) hm h1).mono ?_
  rintro e w' ⟨v, l', D', rfl, hm', hQ, hc, hD'⟩
  have hF' : F D2 w' := hF D2 w w' h2 (fun k hk => hc.block k (ha.lt k ((h4 k).2 (.inr hk))) (by
    rintro (h5 | rfl | rfl)
    · exact h3 k h5 hk
    · exact ha.ns ((h4 _).2 (.inr hk))
    · exact ha.ng ((h4 _).2 (.inr hk))))
  refine ⟨v, l', fun k => D' k ∨ D2 k, rfl, hm', ⟨D', D2, hQ, hF', fun k hk h5 => ?_, fun k => Iff.rfl⟩, hc.mono ?_, fun k hk => ?_⟩
  · rcases (hD' k hk).2 with h6 | h6
    · exact h3 k h6 h5
    · have := ha.lt k ((h4 k).2 (.inr h5)); omega
  · rintro k (h5 | h5)
    · exact .inl ((h4 k).2 (.inl h5))
    · exact .inr h5
  · rcases hk with hk | hk
    · exact ⟨(hD' k hk).1, (hD' k hk).2.imp (fun h5 => (h4 k).2 (.inl h5)) id⟩
    · have h5 := (h4 k).2 (.inr hk)
      exact ⟨Nat.lt_of_lt_of_le (ha.lt k h5) hc.size, .inl h5⟩
theorem Ct.mono {C : Cx} {f : Nat} {args : Array Value} {l : Wds} {R : Asr} {Q Q' : Value → Wds → Asr} (h : Ct C f args l R Q) (hq : ∀ v m D w, Q v m D w → ∃ D', Q' v m D' w ∧ ∀ k, D' k → D k) : Ct C f args l R Q' := fun w D ha hm hR =>
  (h w D ha hm hR).mono fun e w' ⟨v, l', D', he, hm', hQ, hc, hD⟩ => by
    obtain ⟨D2, h1, h2⟩ := hq v l' D' w' hQ
    exact ⟨v, l', D2, he, hm', h1, hc, fun k hk => hD k (h2 k hk)⟩
theorem Cv.sepF {C : Cx} {f : Nat} {args : List Value} {l l' : Wds} {R R' F : Asr} {v : Value} (h : Cv C f args l R v l' R') (hF : Loc F) : Cv C f args l (sep R F) v l' (sep R' F) :=
  (Ct.sepF h hF).mono fun u m D w ⟨D1, D2, ⟨h1, h2, h3⟩, h4, h5, h6⟩ => ⟨D, ⟨h1, h2, D1, D2, h3, h4, h5, h6⟩, fun _ hk => hk⟩
theorem Cn.sepF {C : Cx} {f : Nat} {args : List Value} {l l' : Wds} {R F : Asr} {R' : Nat → Asr} (h : Cn C f args l R l' R') (hF : Loc F) : Cn C f args l (sep R F) l' (fun q => sep (R' q) F) :=
  (Ct.sepF h hF).mono fun u m D w ⟨D1, D2, ⟨q, h1, h2, h3⟩, h4, h5, h6⟩ => ⟨D, ⟨q, h1, h2, D1, D2, h3, h4, h5, h6⟩, fun _ hk => hk⟩
theorem asr_ext {R R' : Asr} (h : ∀ D w, R D w ↔ R' D w) : R = R' := funext fun D => funext fun w => propext (h D w)
theorem dom_ext {D D' : Dom} (h : ∀ k, D k ↔ D' k) : D = D' := funext fun k => propext (h k)
theorem sep_comm (R F : Asr) : sep R F = sep F R := asr_ext fun D w => ⟨fun ⟨D1, D2, h1, h2, h3, h4⟩ => ⟨D2, D1, h2, h1, fun k hk h5 => h3 k h5 hk, fun k => (h4 k).trans Or.comm⟩, fun ⟨D1, D2, h1, h2, h3, h4⟩ => ⟨D2, D1, h2, h1, fun k hk h5 => h3 k h5 hk, fun k => (h4 k).trans Or.comm⟩⟩
theorem sep_assoc (R F G : Asr) : sep (sep R F) G = sep R (sep F G) := asr_ext fun D w => by
  constructor
  · rintro ⟨D1, D2, ⟨E1, E2, h1, h2, h3, h4⟩, h5, h6, h7⟩
    refine ⟨E1, fun k => E2 k ∨ D2 k, h1, ⟨E2, D2, h2, h5, fun k hk => h6 k ((h4 k).2 (.inr hk)), fun _ => Iff.rfl⟩, ?_, fun k => ?_⟩
    · rintro k hk (h8 | h8)
      · exact h3 k hk h8
      · exact h6 k ((h4 k).2 (.inl hk)) h8
    · rw [h7, h4, or_assoc]
  · rintro ⟨D1, D2, h1, ⟨E1, E2, h2, h5, h3, h4⟩, h6, h7⟩
    refine ⟨fun k => D1 k ∨ E1 k, E2, ⟨D1, E1, h1, h2, fun k hk h8 => h6 k hk ((h4 k).2 (.inl h8)), fun _ => Iff.rfl⟩, h5, ?_, fun k => ?_⟩
    · rintro k (hk | hk) h8
      · exact h6 k hk ((h4 k).2 (.inr h8))
      · exact h3 k hk h8
    · rw [h7, h4, or_assoc]
theorem emp_sep (F : Asr) : sep emp F = F := asr_ext fun D w => by
  constructor
  · rintro ⟨D1, D2, h1, h2, h3, h4⟩
    have : D = D2 := dom_ext fun k => by rw [h4]; exact ⟨fun h => h.resolve_left (h1 k), .inr⟩
    rw [this]; exact h2
  · exact fun h => ⟨fun _ => False, D, fun _ h => h, h, fun _ h => h.elim, fun k => by simp⟩
theorem sep_emp (F : Asr) : sep F emp = F := by rw [sep_comm, emp_sep]
theorem blk_sep (x : Bk) (R F : Asr) : sep (blk x R) F = blk x (sep R F) := asr_ext fun D w => by
  constructor
  · rintro ⟨D1, D2, ⟨h1, E, h2, h3, h4⟩, h5, h6, h7⟩
    refine ⟨h1, fun k => E k ∨ D2 k, ⟨E, D2, h2, h5, fun k hk => h6 k ((h4 k).2 (.inr hk)), fun _ => Iff.rfl⟩, ?_, fun k => ?_⟩
    · rintro (h8 | h8)
      · exact h3 h8
      · exact h6 _ ((h4 _).2 (.inl rfl)) h8
    · rw [h7, h4, or_assoc]
  · rintro ⟨h1, E, ⟨D1, D2, h2, h5, h3, h4⟩, h6, h7⟩
    refine ⟨fun k => k = x.b ∨ D1 k, D2, ⟨h1, D1, h2, fun h8 => h6 ((h4 _).2 (.inl h8)), fun _ => Iff.rfl⟩, h5, ?_, fun k => ?_⟩
    · rintro k (rfl | hk) h8
      · exact h6 ((h4 _).2 (.inr h8))
      · exact h3 k hk h8
    · rw [h7, h4, or_assoc]
theorem blks_sep : ∀ (H : List Bk) (R F : Asr), sep (blks H R) F = blks H (sep R F)
  | [], _, _ => rfl
  | x :: H, R, F => by
    show sep (blk x (blks H R)) F = blk x (blks H (sep R F))
    rw [blk_sep, blks_sep H R F]
theorem sep_ex {α : Sort _} (R : α → Asr) (F : Asr) : sep (fun D w => ∃ a, R a D w) F = fun D w => ∃ a, sep (R a) F D w := asr_ext fun D w =>
  ⟨fun ⟨D1, D2, ⟨a, h1⟩, h2, h3, h4⟩ => ⟨a, D1, D2, h1, h2, h3, h4⟩, fun ⟨a, D1, D2, h1, h2, h3, h4⟩ => ⟨D1, D2, ⟨a, h1⟩, h2, h3, h4⟩⟩
theorem sep_and (p : Prop) (R F : Asr) : sep (fun D w => p ∧ R D w) F = fun D w => p ∧ sep R F D w := asr_ext fun D w =>
  ⟨fun ⟨D1, D2, ⟨hp, h1⟩, h2, h3, h4⟩ => ⟨hp, D1, D2, h1, h2, h3, h4⟩, fun ⟨hp, D1, D2, h1, h2, h3, h4⟩ => ⟨D1, D2, ⟨hp, h1⟩, h2, h3, h4⟩⟩
def Wk (R R' : Asr) : Prop := ∀ D w, R D w → ∃ D', R' D' w ∧ ∀ k, D' k → D k
theorem Wk.refl (R : Asr) : Wk R R := fun D w h => ⟨D, h, fun _ h => h⟩
theorem Wk.of {R R' : Asr} (h : ∀ D w, R D w → R' D w) : Wk R R' := fun D w k => ⟨D, h D w k, fun _ h => h⟩
theorem Wk.trans {R R' R'' : Asr} (h : Wk R R') (k : Wk R' R'') : Wk R R'' := fun D w h1 => by
  obtain ⟨D1, h2, h3⟩ := h D w h1
  obtain ⟨D2, h4, h5⟩ := k D1 w h2
  exact ⟨D2, h4, fun x hx => h3 x (h5 x hx)⟩
theorem Wk.emp (R : Asr) : Wk R emp := fun D w h => ⟨fun _ => False, fun _ h => h, fun _ h => h.elim⟩
theorem Wk.sep {R R' F F' : Asr} (h : Wk R R') (k : Wk F F') : Wk (sep R F) (sep R' F') := fun D w ⟨D1, D2, h1, h2, h3, h4⟩ => by
  obtain ⟨E1, g1, g2⟩ := h D1 w h1
  obtain ⟨E2, g3, g4⟩ := k D2 w h2
  exact ⟨fun k => E1 k ∨ E2 k, ⟨E1, E2, g1, g3, fun k h5 h6 => h3 k (g2 k h5) (g4 k h6), fun _ => Iff.rfl⟩, fun k hk => (h4 k).2 (hk.imp (g2 k) (g4 k))⟩
theorem Wk.right {R F : Asr} : Wk (Mo.sep R F) F := fun D w ⟨D1, D2, h1, h2, h3, h4⟩ => ⟨D2, h2, fun k hk => (h4 k).2 (.inr hk)⟩
theorem Wk.blk {x : Bk} {R R' : Asr} (h : Wk R R') : Wk (blk x R) (blk x R') := fun D w ⟨h1, D1, h2, h3, h4⟩ => by
  obtain ⟨D2, g1, g2⟩ := h D1 w h2
  exact ⟨fun k => k = x.b ∨ D2 k, ⟨h1, D2, g1, fun h5 => h3 (g2 _ h5), fun _ => Iff.rfl⟩, fun k hk => (h4 k).2 (hk.imp id (g2 k))⟩
theorem Wk.blks {R R' : Asr} (h : Wk R R') : ∀ H, Wk (blks H R) (blks H R')
  | [] => h
  | x :: H => Wk.blk (Wk.blks h H)
theorem Wk.tail {x : Bk} {R : Asr} : Wk (Mo.blk x R) R := fun D w ⟨h1, D1, h2, h3, h4⟩ => ⟨D1, h2, fun k hk => (h4 k).2 (.inr hk)⟩
theorem Wk.drop (H : List Bk) (R : Asr) : Wk (Mo.blks H R) R := by
  induction H with
  | nil => exact Wk.refl _
  | cons x H ih => exact Wk.tail.trans ih
theorem Wk.pick (is : List Nat) (hn : is.Nodup) {H : List Bk} {R : Asr} : Wk (Mo.blks H R) (Mo.blks (Mo.pick H is) R) := fun D w h => blks_pick is hn h
section
variable {C : Cx} {w0 : World} {D0 : Dom} {l l' : Wds} {H H' H1 H2 : List Bk} {R R' : Asr}
theorem Sy.reb {w : World} (h : Sy C w0 D0 l H R w) (hl : Loc R') (hk : Wk (blks H R) (blks H' R')) : Sy C w0 D0 l H' R' w := by
  obtain ⟨D, h1, h2⟩ := h.rep
  obtain ⟨D', h3, h4⟩ := hk D w h1
  exact ⟨h.amb, h.chg, h.mem, hl, D', h3, fun k hk => h2 k (h4 k hk)⟩
variable {Q : Exit → Act → World → Prop} {n : Nat} {r : List Code} {e : Env}
theorem T.reb (hl : Loc R') (hk : Wk (blks H R) (blks H' R')) (h : T Q n r (Sy C w0 D0 l H' R') e) : T Q n r (Sy C w0 D0 l H R) e := T.conv (fun w hS => hS.reb hl hk) h
end
def Cc (C : Cx) (f : Nat) (args : List Value) (l : Wds) (v : Nat → Nat → Value) (B : Nat → Nat → List Bk) : Prop := Ct C f args.toArray l emp fun u m D w => ∃ a b, u = v a b ∧ m = l ∧ blks (B a b) emp D w
section
variable {C : Cx} {w0 : World} {D0 : Dom} {l l' : Wds} {H H' H1 H2 H2' : List Bk} {R R' : Asr}
theorem Sy.callc {w : World} {f : Nat} {args : List Value} {v : Nat → Nat → Value} {B : Nat → Nat → List Bk} (h : Sy C w0 D0 l H R w) (hc : Cc C f args l v B) : Calls Tryz.prog f args.toArray w fun e w' => ∃ a b, e = .returned (v a b) ∧ Sy C w0 D0 l (H ++ B a b) R w' := by
  have h0 := Ct.sepF hc h.loc
  rw [emp_sep] at h0
  refine (h.call h0 (fun u m => ?_)).mono ?_
  · exact loc_sep (loc_ex fun a => loc_ex fun b => loc_and (loc_and (loc_blks loc_emp _))) h.loc
  · rintro e w' ⟨u, rfl, m, ⟨D, w'', D1, D2, ⟨a, b, rfl, rfl, -⟩, -⟩, hS⟩
    have h1 := hS
    rw [sep_ex] at h1
    obtain ⟨a', h2⟩ := h1.exR (fun a => by rw [sep_ex]; exact loc_ex fun b => loc_sep (loc_and (loc_and (loc_blks loc_emp _))) h.loc)
    rw [sep_ex] at h2
    obtain ⟨b', h3⟩ := h2.exR (fun b => loc_sep (loc_and (loc_and (loc_blks loc_emp _))) h.loc)
    rw [sep_and, sep_and] at h3
    obtain ⟨h4, h5⟩ := h3.andR (loc_and (loc_sep (loc_blks loc_emp _) h.loc))
    obtain ⟨-, h6⟩ := h5.andR (loc_sep (loc_blks loc_emp _) h.loc)
    rw [blks_sep, emp_sep] at h6
    exact ⟨a', b', by rw [h4], h6.unfold h.loc⟩
variable {ops : Array Oper} {lo ef : Nat → Bool} {K : (World → Prop) → Env → Prop} {i : Nat} {rr : List Nat} {U : List (Nat × Value)} {e : Env} {d : Option Nat} {ty : Nat} {ps : String} {af : Array Edge} {x y z : Operand}
theorem xcc {f : Operand} {a : Array Operand} {tys : Array Nat} {g : Nat} {first captured args : List Value} {v : Nat → Nat → Value} {B : Nat → Nat → List Bk} (ho : ops[i]? = some ⟨d, .call ⟨.value f, a, tys⟩, ty, ps, af, none⟩) (hef : ef i = true) (hf : evo e f = some (.func (.func g) first.toArray captured.toArray)) (ha : evos e a.toList = some args) (hg : fnB g = true)
    (hc : Cc C g (first ++ args ++ captured) l v B) (hp : ∀ a b, Pend ops i U (Sy C w0 D0 l (H ++ B a b) R) e)
    (h : ∀ a b, X Tryz.prog ops lo ef K rr (Sy C w0 D0 l (H ++ B a b) R) U (pute d (v a b) e)) : X Tryz.prog ops lo ef K (i :: rr) (Sy C w0 D0 l H R) U e :=
  x_eff (K' := fun u w' => ∃ a b, u = v a b ∧ Sy C w0 D0 l (H ++ B a b) R w') ho hef rfl (fun w hS => eff_call hf ha hg ((hS.callc hc).mono fun e w' ⟨a, b, h1, h2⟩ => ⟨_, h1, a, b, rfl, h2⟩)) (fun u w' ⟨a, b, h1, h2⟩ => ⟨_, h2, hp a b, by rw [h1]; exact h a b⟩)
end
noncomputable def mapB (t kt : Nat) : Bool := match Tryz.prog.underlying t with
  | some (.map k _) => k == kt && undIs kt (dInt .i64)
  | _ => false
def lkE : List MapEntry → Int → Option Value
  | [], _ => none
  | e :: r, k => match e.key with
    | .int .i64 a => bif a == k then some e.val else lkE r k
    | _ => lkE r k
def intK (es : List MapEntry) : Prop := ∀ e ∈ es, ∃ a, e.key = .int .i64 a
theorem lkE_cons {e : MapEntry} {a : Int} (h : e.key = .int .i64 a) (r : List MapEntry) (k : Int) : lkE (e :: r) k = bif a == k then some e.val else lkE r k := by
  simp only [lkE, h]
theorem find_none {d : TypeDesc} (hd : dInt .i64 d = true) {k : Int} : ∀ (es : List MapEntry) (j : Nat), intK es → lkE es k = none → Instr.findNow d (.int .i64 k) es j = some none
  | [], _, _, _ => rfl
  | e :: r, j, hi, h => by
    obtain ⟨a, ha⟩ := hi e (by simp)
    rw [lkE_cons ha] at h
    cases hb : a == k with
    | true => rw [hb] at h; cases h
    | false =>
      rw [hb] at h
      have hne : (k == a) = false := beq_eq_false_iff_ne.2 (beq_eq_false_iff_ne.1 hb).symm
      cases d <;> first | (simp [dInt] at hd; done) | skip
      have := find_none (d := .int _) hd r (j + 1) (fun x hx => hi x (by simp [hx])) h
      simp [Instr.findNow, Instr.sameNow, ha, hne, this]
theorem find_some {d : TypeDesc} (hd : dInt .i64 d = true) {k : Int} {v : Value} : ∀ (es : List MapEntry) (j : Nat), intK es → lkE es k = some v → ∃ q, Instr.findNow d (.int .i64 k) es j = some (some (j + q, v)) ∧ ∃ e, es[q]? = some e ∧ e.key = .int .i64 k
  | [], _, _, h => nomatch h
  | e :: r, j, hi, h => by
    obtain ⟨a, ha⟩ := hi e (by simp)
    rw [lkE_cons ha] at h
    cases d <;> first | (simp [dInt] at hd; done) | skip
    cases hb : a == k with
    | true =>
      rw [hb] at h
      have hne : (k == a) = true := beq_iff_eq.2 (beq_iff_eq.1 hb).symm
      have : e.val = v := Option.some.inj h
      exact ⟨0, by simp [Instr.findNow, Instr.sameNow, ha, hne, this], e, rfl, by rw [ha, beq_iff_eq.1 hb]⟩
    | false =>
      rw [hb] at h
      have hne : (k == a) = false := beq_eq_false_iff_ne.2 (beq_eq_false_iff_ne.1 hb).symm
      obtain ⟨q, hq, e', he, hk⟩ := find_some (d := .int _) hd r (j + 1) (fun x hx => hi x (by simp [hx])) h
      exact ⟨q + 1, by simp only [Instr.findNow, Instr.sameNow, ha, if_true, hne, hq]; rw [show j + 1 + q = j + (q + 1) by omega], e', by simpa using he, hk⟩
theorem lkE_push {k k0 : Int} {v : Value} {n : Nat} : ∀ (es : List MapEntry), intK es → lkE (es ++ [MapEntry.mk (.int .i64 k) v n]) k0 = match lkE es k0 with | some u => some u | none => bif k == k0 then some v else none
  | [], _ => by simp [lkE]
  | e :: r, hi => by
    obtain ⟨a, ha⟩ := hi e (by simp)
    rw [List.cons_append, lkE_cons ha, lkE_cons ha, lkE_push r (fun x hx => hi x (by simp [hx]))]
    cases a == k0 <;> rfl
theorem lkE_mod {k k0 : Int} {v : Value} (hne : k ≠ k0) : ∀ (es : List MapEntry) (q : Nat) (e : MapEntry), intK es → es[q]? = some e → e.key = .int .i64 k → lkE (es.modify q (fun e => { e with key := .int .i64 k, val := v })) k0 = lkE es k0
  | [], _, _, _, h, _ => by simp at h
  | e :: r, 0, e', hi, h, hk => by
    obtain rfl : e = e' := by simpa using h
    have hb : (k == k0) = false := beq_eq_false_iff_ne.2 hne
    rw [List.modify_zero_cons, lkE_cons (a := k) rfl, lkE_cons hk, hb]
    rfl
  | e :: r, q + 1, e', hi, h, hk => by
    obtain ⟨a, ha⟩ := hi e (by simp)
    rw [List.modify_succ_cons, lkE_cons ha, lkE_cons ha, lkE_mod hne r q e' (fun x hx => hi x (by simp [hx])) (by simpa using h) hk]
theorem intK_mod {k : Int} {v : Value} {es : List MapEntry} (q : Nat) (hi : intK es) : intK (es.modify q (fun e => { e with key := .int .i64 k, val := v })) := fun e he => by
  obtain ⟨i, hi', hx⟩ := List.mem_iff_getElem.1 he
  rw [List.getElem_modify] at hx
  split at hx
  · exact ⟨k, by rw [← hx]⟩
  · exact hi e (by rw [← hx]; exact List.getElem_mem _)
theorem mapB_of {t kt : Nat} (h : mapB t kt = true) : ∃ e d, Tryz.prog.underlying t = some (.map kt e) ∧ Tryz.prog.underlying kt = some d ∧ dInt .i64 d = true := by
  unfold mapB at h
  split at h
  · rename_i k e hu
    simp only [Bool.and_eq_true, beq_iff_eq] at h
    obtain ⟨rfl, h2⟩ := h
    have h3 := h2
    unfold undIs at h3
    cases hk : Tryz.prog.underlying k with
    | none => simp [hk] at h3
    | some d => exact ⟨e, d, hu, rfl, by simpa [hk] using h3⟩
  · cases h
theorem isKey_int {d : TypeDesc} (hd : dInt .i64 d = true) (k : Int) : MapKept.IsKey d (.int .i64 k) := by
  cases d <;> first | (simp [dInt] at hd; done) | skip
  have := eq_of_beq hd
  subst this
  rfl
def MapIs (k0 : Int) (ov : Option Value) (o : Obj) : Prop := ∃ es ck, o = .map (List.toArray es) ck ∧ intK es ∧ lkE es k0 = ov
theorem run_ins {t kt b : Nat} {k0 k : Int} {ov ov' : Option Value} {v : Value} {w : World} {o : Obj} (ht : mapB t kt = true) (hb : w.heap[b]? = some o) (ho : MapIs k0 ov o) (hv : (k ≠ k0 ∧ ov' = ov) ∨ (k = k0 ∧ ov = none ∧ ov' = some v)) :
    ∃ o', (Instr.mapUpdate t (.map (some b)) (.int .i64 k) v).run Tryz.prog w = .ok () { w with heap := w.heap.setIfInBounds b o' } ∧ MapIs k0 ov' o' := by
  obtain ⟨et, dd, h1, h2, h3⟩ := mapB_of ht
  obtain ⟨es, ck, rfl, hi, hl⟩ := ho
  have hk := isKey_int h3 k
  cases hc : lkE es k with
  | none =>
    have hf := find_none h3 es 0 hi hc
    refine ⟨.map (es ++ [MapEntry.mk (.int .i64 k) v ck]).toArray (ck + 1), ?_, _, _, rfl, ?_, ?_⟩
    · have he : es.toArray.push (MapEntry.mk (.int .i64 k) v ck) = (es ++ [MapEntry.mk (.int .i64 k) v ck]).toArray := List.push_toArray ..
      simp [Instr.mapUpdate, run_underlying h1, MapKept.run_getObj_map hb, MapKept.run_checkKey h2 hk, MapKept.run_findKey h2 hf, MapKept.run_setObj_map _ hb, Result.andThen, he]
    · intro e he
      rcases List.mem_append.1 he with he | he
      · exact hi e he
      · rw [List.mem_singleton.1 he]; exact ⟨k, rfl⟩
    · rw [lkE_push es hi, hl]
      rcases hv with ⟨h4, rfl⟩ | ⟨rfl, rfl, rfl⟩
      · rw [show (k == k0) = false from beq_eq_false_iff_ne.2 h4]
        cases ov' <;> rfl
      · simp
  | some u =>
    rcases hv with ⟨h4, rfl⟩ | ⟨rfl, rfl, -⟩
    · obtain ⟨q, hf, e, he, hek⟩ := find_some h3 es 0 hi hc
      rw [Nat.zero_add] at hf
      refine ⟨.map (es.modify q (fun e => { e with key := .int .i64 k, val := v })).toArray ck, ?_, _, _, rfl, intK_mod q hi, ?_⟩
      · have he2 : es.toArray.modify q (fun e => { e with key := .int .i64 k, val := v }) = (es.modify q (fun e => { e with key := .int .i64 k, val := v })).toArray := by
          apply Array.ext'
          simp
        have hks : (Instr.keyThatStays (.int .i64 k) (.int .i64 k)).run Tryz.prog w = .ok (.int .i64 k) w := by
          unfold Instr.keyThatStays
          rw [if_pos (by unfold Instr.sameBits; simp)]
          rfl
        simp [Instr.mapUpdate, run_underlying h1, MapKept.run_getObj_map hb, MapKept.run_checkKey h2 hk, MapKept.run_findKey h2 hf, MapKept.run_setObj_map _ hb, Result.andThen, he, hek, hks, he2]
      · rw [lkE_mod h4 es q e hi he hek, hl]
    · rw [hl] at hc; cases hc
def mapA (b : Nat) (k0 : Int) (ov : Option Value) (R : Asr) : Asr := fun D w => (∃ o, w.heap[b]? = some o ∧ MapIs k0 ov o) ∧ ∃ D1, R D1 w ∧ ¬ D1 b ∧ ∀ k, D k ↔ (k = b ∨ D1 k)
theorem loc_mapA {b : Nat} {k0 : Int} {ov : Option Value} {R : Asr} (h : Loc R) : Loc (mapA b k0 ov R) := fun D w w' ⟨⟨o, h1, h5⟩, D1, h2, h3, h4⟩ hk =>
  ⟨⟨o, (hk b ((h4 _).2 (.inl rfl))).trans h1, h5⟩, D1, h D1 w w' h2 (fun k hd => hk k ((h4 k).2 (.inr hd))), h3, h4⟩
theorem Wk.mapA {b : Nat} {k0 : Int} {ov : Option Value} {R : Asr} : Wk (mapA b k0 ov R) R := fun D w ⟨h1, D1, h2, h3, h4⟩ => ⟨D1, h2, fun k hk => (h4 k).2 (.inr hk)⟩
section
variable {C : Cx} {w0 : World} {D0 : Dom} {l l' : Wds} {H H' H1 H2 H2' : List Bk} {R R' : Asr}
theorem mapA_at {b : Nat} {k0 : Int} {ov : Option Value} {w : World} (h : Sy C w0 D0 l H (mapA b k0 ov R) w) : (∃ o, w.heap[b]? = some o ∧ MapIs k0 ov o) ∧ (D0 b ∨ w0.heap.size ≤ b) := by
  obtain ⟨D, h1, h2⟩ := h.rep
  obtain ⟨D1, h3, h4⟩ := Wk.drop H _ D w h1
  exact ⟨h3.1, (h2 b (h4 b ((h3.2.choose_spec.2.2 b).2 (.inl rfl)))).2⟩
theorem Sy.mkmap {w : World} (k0 : Int) (h : Sy C w0 D0 l H R w) : Sy C w0 D0 l H (mapA w.heap.size k0 none R) (w.alloc (.map #[] 0)) := by
  obtain ⟨D, h1, h2⟩ := h.rep
  have hb : Below w.heap.size w (w.alloc (.map #[] 0)) := below_alloc (Below.refl _ _) _
  have hch := h.chg.alloc (.map #[] 0)
  have hm := h.mem
  have hm' : Mem (w.alloc (.map #[] 0)) C l := hm.chg (Chg.below (F := fun _ => False) hb) id id
  have h3 : blks H R D (w.alloc (.map #[] 0)) := loc_blks h.loc H D w _ h1 (fun k hk => hb.block k (h2 k hk).1)
  have h4 : mapA w.heap.size k0 none (blks H R) (fun k => k = w.heap.size ∨ D k) (w.alloc (.map #[] 0)) := ⟨⟨_, by show (w.heap.push _)[w.heap.size]? = _; simp, [], 0, rfl, fun _ h => (by simp at h), rfl⟩, D, h3, fun hk => absurd (h2 _ hk).1 (Nat.lt_irrefl _), fun k => Iff.rfl⟩
  have h5 : ∀ (H : List Bk) (D : Dom) (w : World) (b : Nat) ov, mapA b k0 ov (blks H R) D w → blks H (mapA b k0 ov R) D w := by
    intro H
    induction H with
    | nil => exact fun _ _ _ _ h => h
    | cons x H ih =>
      rintro D w b ov ⟨g1, D1, ⟨g2, D2, g3, g4, g5⟩, g6, g7⟩
      refine ⟨g2, fun k => k = b ∨ D2 k, ih _ w b ov ⟨g1, D2, g3, fun hd => g6 ((g5 _).2 (.inr hd)), fun k => Iff.rfl⟩, ?_, fun k => ?_⟩
      · rintro (e | e)
        · exact g6 ((g5 _).2 (.inl e.symm))
        · exact g4 e
      · rw [g7, g5]
        constructor
        · rintro (h | h | h)
          · exact .inr (.inl h)
          · exact .inl h
          · exact .inr (.inr h)
        · rintro (h | h | h)
          · exact .inr (.inl h)
          · exact .inl h
          · exact .inr (.inr h)
  refine ⟨h.amb, hch, hm', loc_mapA h.loc, _, h5 H _ _ _ _ h4, fun k hk => ?_⟩
  have hs := h.chg.size
  rcases hk with rfl | hk
  · refine ⟨?_, .inr hs⟩
    show _ < (w.heap.push _).size
    simp
  · have := h2 k hk
    refine ⟨?_, this.2⟩
    have := this.1
    show _ < (w.heap.push _).size
    simp
    omega
theorem Sy.insmap {w : World} {b : Nat} {k0 : Int} {ov ov' : Option Value} {o' : Obj} (hl : Loc R) (h : Sy C w0 D0 l H (mapA b k0 ov R) w) (ho' : MapIs k0 ov' o') : Sy C w0 D0 l H (mapA b k0 ov' R) { w with heap := w.heap.setIfInBounds b o' } := by
  obtain ⟨⟨o, h0, hm0⟩, hD0⟩ := mapA_at h
  obtain ⟨D, h1, h2⟩ := h.rep
  have hne : ∀ k, k ≠ b → ({ w with heap := w.heap.setIfInBounds b o' } : World).heap[k]? = w.heap[k]? := fun k hk => (MapKept.heap_set h0).2 k hk
  have hlt : b < w.heap.size := (Array.getElem?_eq_some_iff.1 h0).1
  have hn := h.notMem hD0
  have hc1 : Chg (fun k => k = b) w { w with heap := w.heap.setIfInBounds b o' } := ⟨rfl, rfl, rfl, by simp, fun i _ hi => hne i hi⟩
  have hch : Chg (C.with D0) w0 { w with heap := w.heap.setIfInBounds b o' } := h.chg.after hc1 (fun i hi e => by
    subst e
    rcases hD0 with h5 | h5
    · exact .inl h5
    · omega)
  have h5 : ∀ (H : List Bk) (D : Dom), blks H (mapA b k0 ov R) D w → (∀ x ∈ H, x.b ≠ b) ∧ D b ∧ blks H (mapA b k0 ov' R) D { w with heap := w.heap.setIfInBounds b o' } := by
    intro H
    induction H with
    | nil =>
      rintro D ⟨g1, D1, g2, g3, g4⟩
      exact ⟨by simp, (g4 _).2 (.inl rfl), ⟨o', (MapKept.heap_set h0).1, ho'⟩, D1, hl D1 w _ g2 (fun k hk => hne k (fun e => g3 (e ▸ hk))), g3, g4⟩
    | cons x H ih =>
      rintro D ⟨g1, D1, g2, g3, g4⟩
      obtain ⟨k1, k2, k3⟩ := ih D1 g2
      have hx : x.b ≠ b := fun e => g3 (e ▸ k2)
      refine ⟨fun y hy => ?_, (g4 _).2 (.inr k2), (hne x.b hx).trans g1, D1, k3, g3, g4⟩
      rcases List.mem_cons.1 hy with rfl | hy
      · exact hx
      · exact k1 y hy
  refine ⟨h.amb, hch, h.mem.chg hc1 hn.1.symm hn.2.symm, loc_mapA hl, D, (h5 H D h1).2.2, fun k hk => ?_⟩
  have := h2 k hk
  exact ⟨by simpa using this.1, this.2⟩
variable {ops : Array Oper} {lo ef : Nat → Bool} {K : (World → Prop) → Env → Prop} {i : Nat} {rr : List Nat} {U : List (Nat × Value)} {e : Env} {d : Option Nat} {ty : Nat} {ps : String} {af : Array Edge} {gd : Option (Nat × Bool)} {x y z : Operand} {v : Value}
theorem xmm {t : Nat} (k0 : Int) (ho : ops[i]? = some ⟨d, .makeMap t none, ty, ps, af, none⟩) (hef : ef i = true) (hp : ∀ b, Pend ops i U (Sy C w0 D0 l H (mapA b k0 none R)) e)
    (h : ∀ b, X Tryz.prog ops lo ef K rr (Sy C w0 D0 l H (mapA b k0 none R)) U (pute d (.map (some b)) e)) : X Tryz.prog ops lo ef K (i :: rr) (Sy C w0 D0 l H R) U e :=
  x_eff (K' := fun u w' => ∃ b, u = .map (some b) ∧ Sy C w0 D0 l H (mapA b k0 none R) w') ho hef rfl (fun w hS => eff_val (exv (m := Instr.makeMap t none) rfl rfl) ⟨_, rfl, hS.mkmap k0⟩) (fun u w' ⟨b, h1, h2⟩ => ⟨_, h2, hp b, by rw [h1]; exact h b⟩)
theorem exec_insert {ρ : Operand → Value} {dd : Option Nat} {t : Nat} {x y z : Operand} {ty : Nat} {ps : String} {af : Array Edge} {g : Option (Nat × Bool)} : execOp ρ ⟨dd, .insert t x y z, ty, ps, af, g⟩ = (Instr.mapUpdate t (ρ x) (ρ y) (ρ z) >>= fun _ => pure .skip) := rfl
theorem ins0 {t kt b : Nat} {k0 k : Int} {ov ov' : Option Value} {w : World} (hl : Loc R) (ht : mapB t kt = true) (hv : (k ≠ k0 ∧ ov' = ov) ∨ (k = k0 ∧ ov = none ∧ ov' = some v)) (hS : Sy C w0 D0 l H (mapA b k0 ov R) w) :
    ∃ w', (Instr.mapUpdate t (.map (some b)) (.int .i64 k) v).run Tryz.prog w = .ok () w' ∧ Sy C w0 D0 l H (mapA b k0 ov' R) w' := by
  obtain ⟨⟨o, h0, hm0⟩, hD0⟩ := mapA_at hS
  obtain ⟨o', h1, h2⟩ := run_ins (v := v) ht h0 hm0 hv
  exact ⟨_, h1, hS.insmap hl h2⟩
theorem eff_of_ins {t : Nat} {a b c : Value} {w w' : World} {Z : World → Prop} (hx : ev e x = a) (hy : ev e y = b) (hz : ev e z = c) (h : (Instr.mapUpdate t a b c).run Tryz.prog w = .ok () w') (hk : Z w') : eff Tryz.prog ⟨none, .insert t x y z, ty, ps, af, none⟩ (ev e) w fun u w' => u = undef ∧ Z w' := by
  have h4 : (Instr.mapUpdate t (ev e x) (ev e y) (ev e z)).run Tryz.prog w = .ok () w' := by
    rw [hx, hy, hz]; exact h
  have h3 : (execOp (ev e) ⟨none, .insert t x y z, ty, ps, af, none⟩).run Tryz.prog w = .ok .skip w' := exu (o := ⟨none, .insert t x y z, ty, ps, af, none⟩) exec_insert h4
  unfold eff
  rw [h3]
  exact ⟨rfl, hk⟩
set_option maxRecDepth 20000 in
theorem eff_ins {t kt b : Nat} {k0 k : Int} {ov ov' : Option Value} {w : World} (hl : Loc R) (hx : evo e x = some (.map (some b))) (hy : evo e y = some (.int .i64 k)) (hz : evo e z = some v) (ht : mapB t kt = true) (hv : (k ≠ k0 ∧ ov' = ov) ∨ (k = k0 ∧ ov = none ∧ ov' = some v))
    (hS : Sy C w0 D0 l H (mapA b k0 ov R) w) : eff Tryz.prog ⟨none, .insert t x y z, ty, ps, af, none⟩ (ev e) w fun u w' => u = undef ∧ Sy C w0 D0 l H (mapA b k0 ov' R) w' :=
  Exists.elim (ins0 hl ht hv hS) fun w' h => eff_of_ins (t := t) (ty := ty) (ps := ps) (af := af) (e := e) (x := x) (y := y) (z := z) (w := w) (w' := w') (a := .map (some b)) (b := .int .i64 k) (c := v) (Z := Sy C w0 D0 l H (mapA b k0 ov' R)) (ev_of hx) (ev_of hy) (ev_of hz) h.1 h.2
set_option maxRecDepth 20000 in
theorem xmi {t kt b : Nat} {k0 : Int} (hl : Loc R) (ho : ops[i]? = some ⟨none, .insert t x y z, ty, ps, af, none⟩) (hef : ef i = true) (hx : evo e x = some (.map (some b))) (hy : evo e y = some (.int .i64 k0)) (hz : evo e z = some v) (ht : mapB t kt = true)
    (hp : Pend ops i U (Sy C w0 D0 l H (mapA b k0 (some v) R)) e)
    (h : X Tryz.prog ops lo ef K rr (Sy C w0 D0 l H (mapA b k0 (some v) R)) U e) : X Tryz.prog ops lo ef K (i :: rr) (Sy C w0 D0 l H (mapA b k0 none R)) U e :=
  x_eff (o := ⟨none, .insert t x y z, ty, ps, af, none⟩) (S := Sy C w0 D0 l H (mapA b k0 none R)) (K' := fun u w' => u = undef ∧ Sy C w0 D0 l H (mapA b k0 (some v) R) w') ho hef rfl (fun w hS => eff_ins hl hx hy hz ht (.inr ⟨rfl, rfl, rfl⟩) hS) (fun _ w' hk => ⟨_, hk.2, hp, h⟩)
set_option maxRecDepth 20000 in
theorem xmo {t kt b : Nat} {k k0 : Int} {ov : Option Value} (hl : Loc R) (ho : ops[i]? = some ⟨none, .insert t x y z, ty, ps, af, none⟩) (hef : ef i = false) (hx : evo e x = some (.map (some b))) (hy : evo e y = some (.int .i64 k)) (hz : evo e z = some v) (ht : mapB t kt = true) (hk : k ≠ k0)
    (h : X Tryz.prog ops lo ef K rr (Sy C w0 D0 l H (mapA b k0 ov R)) (bif lo i then (i, undef) :: U else U) e) : X Tryz.prog ops lo ef K (i :: rr) (Sy C w0 D0 l H (mapA b k0 ov R)) U e :=
  x_still (o := ⟨none, .insert t x y z, ty, ps, af, none⟩) (v := undef) (S := Sy C w0 D0 l H (mapA b k0 ov R)) ho hef rfl (fun w hS => eff_ins hl hx hy hz ht (.inl ⟨hk, rfl⟩) hS) h
set_option maxRecDepth 20000 in
theorem pxmo {jj : Nat} {t kt b : Nat} {k k0 : Int} {ov : Option Value} (hl : Loc R) (ho : ops[i]? = some ⟨none, .insert t x y z, ty, ps, af, none⟩) (hx : evo e x = some (.map (some b))) (hy : evo e y = some (.int .i64 k)) (hz : evo e z = some v) (ht : mapB t kt = true) (hk : k ≠ k0)
    (h : Pend ops jj U (Sy C w0 D0 l H (mapA b k0 ov R)) e) : Pend ops jj ((i, undef) :: U) (Sy C w0 D0 l H (mapA b k0 ov R)) e :=
  pend_still (o := ⟨none, .insert t x y z, ty, ps, af, none⟩) (v := undef) (S := Sy C w0 D0 l H (mapA b k0 ov R)) ho rfl (fun w hS => eff_ins hl hx hy hz ht (.inl ⟨hk, rfl⟩) hS) h
theorem xlu {t kt b : Nat} {k : Int} (ho : ops[i]? = some ⟨d, .lookup t x y false, ty, ps, af, gd⟩) (hef0 : (ef i, wantedE ops ⟨d, .lookup t x y false, ty, ps, af, gd⟩ e) = (false, true)) (hx : evo e x = some (.map (some b))) (hy : evo e y = some (.int .i64 k)) (ht : mapB t kt = true)
    (h : X Tryz.prog ops lo ef K rr (Sy C w0 D0 l H (mapA b k (some v) R)) (bif lo i then (i, v) :: U else U) (pute d v e)) : X Tryz.prog ops lo ef K (i :: rr) (Sy C w0 D0 l H (mapA b k (some v) R)) U e := have ⟨hef, hw⟩ := tri2 hef0;
  x_val ho hef hw (fun w hS => exv (m := Instr.lookup t (ev e x) (ev e y) false) rfl (by
    obtain ⟨et, dd, h1, h2, h3⟩ := mapB_of ht
    rw [ev_of hx, ev_of hy]
    obtain ⟨⟨o, h0, es, ck, rfl, hi, hl⟩, -⟩ := mapA_at hS
    have hk := isKey_int h3 k
    obtain ⟨q, hf, -⟩ := find_some h3 es 0 hi hl
    simp [Instr.lookup, run_underlying h1, MapKept.run_getObj_map h0, MapKept.run_checkKey h2 hk, MapKept.run_findKey h2 hf, Result.andThen])) h
end
def Ce {α : Type} (C : Cx) (f : Nat) (args : List Value) (l : Wds) (R : Asr) (v : α → Value) (l' : Wds) (P : α → Prop) (R' : α → Asr) : Prop := Ct C f args.toArray l R fun u m D w => ∃ a, u = v a ∧ P a ∧ m = l' ∧ R' a D w
theorem Ce.sepF {α : Type} {C : Cx} {f : Nat} {args : List Value} {l l' : Wds} {R F : Asr} {v : α → Value} {P : α → Prop} {R' : α → Asr} (h : Ce C f args l R v l' P R') (hF : Loc F) : Ce C f args l (sep R F) v l' P (fun a => sep (R' a) F) :=
  (Ct.sepF h hF).mono fun u m D w ⟨D1, D2, ⟨a, h1, h2, h3, h4⟩, h5, h6, h7⟩ => ⟨D, ⟨a, h1, h2, h3, D1, D2, h4, h5, h6, h7⟩, fun _ hk => hk⟩
theorem Cn.fr {C : Cx} {f : Nat} {args : List Value} {l l' : Wds} {F : Asr} {R' : Nat → Asr} (h : Cn C f args l emp l' R') (hF : Loc F) : Cn C f args l F l' (fun q => sep (R' q) F) := by
  have := Cn.sepF h hF
  rw [emp_sep] at this
  exact this
section
variable {C : Cx} {w0 : World} {D0 : Dom} {l l' : Wds} {H H' H1 H2 H2' : List Bk} {R R' : Asr}
theorem exR3 {α : Type} {P : α → Prop} {v : α → Value} {u : Value} {m : Wds} {R' : α → Asr} (hl : ∀ a, Loc (R' a)) : Loc (fun D w => ∃ a, u = v a ∧ P a ∧ m = l' ∧ R' a D w) := loc_ex fun a => loc_and (loc_and (loc_and (hl a)))
theorem Sy.calle {α : Type} {w : World} {f : Nat} {args : List Value} {v : α → Value} {P : α → Prop} {R' : α → Asr} (h : Sy C w0 D0 l H R w) (hc : Ce C f args l R v l' P R') (hl : ∀ a, Loc (R' a)) : Calls Tryz.prog f args.toArray w fun e w' => ∃ a, e = .returned (v a) ∧ P a ∧ Sy C w0 D0 l' H (R' a) w' := by
  refine (h.call hc (fun u m => exR3 hl)).mono ?_
  rintro e w' ⟨u, rfl, m, ⟨D, w'', a0, h1, h2, rfl, -⟩, hS⟩
  obtain ⟨a, hS⟩ := hS.exR (fun a => loc_and (loc_and (loc_and (hl a))))
  obtain ⟨h3, hS⟩ := hS.andR (loc_and (loc_and (hl a)))
  obtain ⟨h4, hS⟩ := hS.andR (loc_and (hl a))
  obtain ⟨-, hS⟩ := hS.andR (hl a)
  exact ⟨a, by rw [h3], h4, hS⟩
variable {ops : Array Oper} {lo ef : Nat → Bool} {K : (World → Prop) → Env → Prop} {i : Nat} {rr : List Nat} {S : World → Prop} {U : List (Nat × Value)} {e : Env} {d : Option Nat} {ty : Nat} {ps : String} {af : Array Edge} {gd : Option (Nat × Bool)} {x y z : Operand} {v : Value}
theorem xcnw {f : Operand} {a : Array Operand} {tys : Array Nat} {g : Nat} {first captured args : List Value} {R' : Nat → Asr} (ho : ops[i]? = some ⟨d, .call ⟨.value f, a, tys⟩, ty, ps, af, none⟩) (hef : ef i = true) (hf : evo e f = some (.func (.func g) first.toArray captured.toArray)) (ha : evos e a.toList = some args) (hg : fnB g = true)
    (hc : Cn C g (first ++ args ++ captured) l R l' R') (hl : ∀ q, Loc (R' q)) (hp : ∀ q, Pend ops i U (Sy C w0 D0 l' H (R' q)) e)
    (h : ∀ q, X Tryz.prog ops lo ef K rr (Sy C w0 D0 l' H (R' q)) U (pute d (.pointer (some ⟨q, 0, none⟩)) e)) : X Tryz.prog ops lo ef K (i :: rr) (Sy C w0 D0 l H R) U e :=
  x_eff (K' := fun u w' => ∃ q, u = .pointer (some ⟨q, 0, none⟩) ∧ Sy C w0 D0 l' H (R' q) w') ho hef rfl (fun w hS => eff_call hf ha hg ((hS.calln hc hl).mono fun e w' ⟨q, h1, h2⟩ => ⟨_, h1, q, rfl, h2⟩)) (fun u w' ⟨q, h1, h2⟩ => ⟨_, h2, hp q, by rw [h1]; exact h q⟩)
theorem xcx {α : Type} {f : Operand} {a : Array Operand} {tys : Array Nat} {g : Nat} {first captured args : List Value} {v : α → Value} {P : α → Prop} {B : α → List Bk} {Rz : α → Asr} (ho : ops[i]? = some ⟨d, .call ⟨.value f, a, tys⟩, ty, ps, af, none⟩) (hef : ef i = true) (hf : evo e f = some (.func (.func g) first.toArray captured.toArray)) (ha : evos e a.toList = some args) (hg : fnB g = true) (hH : H1 ++ H2 = H)
    (hc : Ce C g (first ++ args ++ captured) l (blks H2 R) v l' P (fun a => blks (B a) (Rz a))) (hl : ∀ a, Loc (Rz a)) (hp : ∀ a, P a → Pend ops i U (Sy C w0 D0 l' (H1 ++ B a) (Rz a)) e)
    (h : ∀ a, P a → X Tryz.prog ops lo ef K rr (Sy C w0 D0 l' (H1 ++ B a) (Rz a)) U (pute d (v a) e)) : X Tryz.prog ops lo ef K (i :: rr) (Sy C w0 D0 l H R) U e :=
  x_eff (K' := fun u w' => ∃ a, u = v a ∧ P a ∧ Sy C w0 D0 l' (H1 ++ B a) (Rz a) w') ho hef rfl (fun w hS => by
    subst hH
    exact eff_call hf ha hg ((hS.fold.calle hc (fun a => loc_blks (hl a) _)).mono fun e w' ⟨a, h1, h2, h3⟩ => ⟨_, h1, a, rfl, h2, h3.unfold (hl a)⟩)) (fun u w' ⟨a, h1, h2, h3⟩ => ⟨_, h3, hp a h2, by rw [h1]; exact h a h2⟩)
theorem run_sllo {t e n len c : Nat} {b off : Nat} {k : IntKind} (h : slcB t e n = true) (h0 : 1 ≤ len) (h1 : len ≤ c) (w : World) :
    (Instr.sliceAt t (.slice (some ⟨b, off, none⟩) len c) (some (.int k 1)) none none).run Tryz.prog w = .ok (.slice (some ⟨b, if c = 1 then off else off + n, none⟩) (len - 1) (c - 1)) w := by
  obtain ⟨inf, z, hu, hi, hz, hs, -⟩ := slcB_of h
  have hu' : (underlying t).run Tryz.prog w = .ok (.slice e) w := by unfold underlying; simp [go_sem, hu]
  unfold Instr.sliceAt
  rw [Sem.run_bind, hu', Result.andThen_ok]
  unfold Instr.slice Instr.sliceBounds Instr.sliceBound sizeOf typeInfo
  have ha := addr_add b off n
  have h2 : (1 : Int) ≤ (len : Int) := by omega
  have h3 : (len : Int) ≤ (c : Int) := by omega
  have h4 : (1 : Int) ≤ (c : Int) := by omega
  by_cases h5 : c = 1
  · subst h5
    simp [go_sem, hu', hi, hs, ha, h2, h3, h0]
  · simp [go_sem, hu', hi, hs, ha, h2, h3, h4, h5, h0, h1]
theorem xslo {t et n len c b off : Nat} {ik : IntKind} (ho : ops[i]? = some ⟨d, .slice t x (some y) none none, ty, ps, af, gd⟩) (hef0 : (ef i, wantedE ops ⟨d, .slice t x (some y) none none, ty, ps, af, gd⟩ e) = (false, true)) (hx : evo e x = some (.slice (some ⟨b, off, none⟩) len c)) (hy : evo e y = some (.int ik 1)) (ht : slcB t et n = true) (h0 : 1 ≤ len) (h1 : len ≤ c)
    (h : X Tryz.prog ops lo ef K rr S (bif lo i then (i, .slice (some ⟨b, if c = 1 then off else off + n, none⟩) (len - 1) (c - 1)) :: U else U) (pute d (.slice (some ⟨b, if c = 1 then off else off + n, none⟩) (len - 1) (c - 1)) e)) : X Tryz.prog ops lo ef K (i :: rr) S U e := have ⟨hef, hw⟩ := tri2 hef0;
  x_val ho hef hw (fun w _ => exv (m := Instr.sliceAt t (ev e x) (some (ev e y)) none none) rfl (by rw [ev_of hx, ev_of hy]; exact run_sllo ht h0 h1 w)) h
theorem xslz {t et n : Nat} {ik : IntKind} (ho : ops[i]? = some ⟨d, .slice t x none (some y) none, ty, ps, af, gd⟩) (hef0 : (ef i, wantedE ops ⟨d, .slice t x none (some y) none, ty, ps, af, gd⟩ e) = (false, true)) (hx : evo e x = some (.slice none 0 0)) (hy : evo e y = some (.int ik 0)) (ht : slcB t et n = true)
    (h : X Tryz.prog ops lo ef K rr S (bif lo i then (i, .slice none 0 0) :: U else U) (pute d (.slice none 0 0) e)) : X Tryz.prog ops lo ef K (i :: rr) S U e := have ⟨hef, hw⟩ := tri2 hef0;
  x_val ho hef hw (fun w _ => exv (m := Instr.sliceAt t (ev e x) none (some (ev e y)) none) rfl (by
    rw [ev_of hx, ev_of hy]
    obtain ⟨inf, z, hu, hi, hz, hs, -⟩ := slcB_of ht
    have hu' : (underlying t).run Tryz.prog w = .ok (.slice et) w := by unfold underlying; simp [go_sem, hu]
    unfold Instr.sliceAt
    rw [Sem.run_bind, hu', Result.andThen_ok]
    unfold Instr.slice Instr.sliceBounds Instr.sliceBound sizeOf typeInfo
    simp [go_sem, hu', hi])) h
theorem run_bs0 {t et n : Nat} (ht : slcB t et n = true) (w : World) : (Instr.buildSlice t 0 #[]).run Tryz.prog w = .ok (.slice (some ⟨w.heap.size, 0, none⟩) 0 0) (w.alloc (.cells #[] et)) := by
  obtain ⟨inf, z, hu, hi, hz, hs, -⟩ := slcB_of ht
  have hu' : (underlying t).run Tryz.prog w = .ok (.slice et) w := by unfold underlying; simp [go_sem, hu]
  have hsz : (sizeOf et).run Tryz.prog w = .ok n w := by unfold sizeOf typeInfo; simp [go_sem, hi, hs]
  unfold Instr.buildSlice
  rw [Sem.run_bind, hu', Result.andThen_ok, Sem.run_bind, hsz, Result.andThen_ok]
  simp [Instr.fill, newRow, go_sem]
theorem exec_bs0 {ρ : Operand → Value} {t : Nat} {g : Option (Nat × Bool)} : execOp ρ ⟨d, .buildSlice t 0 #[], ty, ps, af, g⟩ = (Instr.buildSlice t 0 #[] >>= fun v => pure (.value v)) := by
  rw [exec_bsl]
  simp
theorem xbs0 {t et n : Nat} (ho : ops[i]? = some ⟨d, .buildSlice t 0 #[], ty, ps, af, none⟩) (hef : ef i = true) (ht : slcB t et n = true) (hp : ∀ q, Pend ops i U (Sy C w0 D0 l (⟨q, et, []⟩ :: H) R) e)
    (h : ∀ q, X Tryz.prog ops lo ef K rr (Sy C w0 D0 l (⟨q, et, []⟩ :: H) R) U (pute d (.slice (some ⟨q, 0, none⟩) 0 0) e)) : X Tryz.prog ops lo ef K (i :: rr) (Sy C w0 D0 l H R) U e :=
  x_eff (K' := fun v w' => ∃ q, v = .slice (some ⟨q, 0, none⟩) 0 0 ∧ Sy C w0 D0 l (⟨q, et, []⟩ :: H) R w') ho hef rfl (fun w hS => by
    have h1 := run_bs0 ht w
    have h2 : (execOp (ev e) ⟨d, .buildSlice t 0 #[], ty, ps, af, none⟩).run Tryz.prog w = .ok (.value (.slice (some ⟨w.heap.size, 0, none⟩) 0 0)) (w.alloc (.cells #[] et)) := exv exec_bs0 h1
    have h3 : ∃ q : Nat, (Value.slice (some ⟨w.heap.size, 0, none⟩) 0 0 = Value.slice (some ⟨q, 0, none⟩) 0 0) ∧ Sy C w0 D0 l (⟨q, et, []⟩ :: H) R (w.alloc (.cells #[] et)) := ⟨w.heap.size, rfl, hS.alloc et []⟩
    unfold eff
    rw [h2]
    exact h3) (fun v w' ⟨q, h1, h2⟩ => ⟨_, h2, hp q, by rw [h1]; exact h q⟩)
theorem xapz {a : Array Operand} {t et n q0 b k c : Nat} {cs rest : List Value} (ho : ops[i]? = some ⟨d, .call ⟨.builtin .append, a, #[t, t]⟩, ty, ps, af, none⟩) (hef : ef i = true) (ha : evos e a.toList = some [.slice (some ⟨q0, 0, none⟩) 0 0, .slice (some ⟨b, 0, none⟩) k c]) (ht : slcB t et n = true) (hi : In b (cs ++ rest) H) (hk : 0 < k ∧ k ≤ 1000000) (hcs : cs.length = k * n)
    (hp : ∀ q rs, Pend ops i U (Sy C w0 D0 l (⟨q, et, cs ++ rs⟩ :: H) R) e) (h : ∀ q rs m, (k ≤ m ∧ cs.length + rs.length = m * n) ∧ m ≤ maxLen → X Tryz.prog ops lo ef K rr (Sy C w0 D0 l (⟨q, et, cs ++ rs⟩ :: H) R) U (pute d (.slice (some ⟨q, 0, none⟩) k m) e)) : X Tryz.prog ops lo ef K (i :: rr) (Sy C w0 D0 l H R) U e :=
  x_eff (K' := fun v w' => ∃ q rs m, v = .slice (some ⟨q, 0, none⟩) k m ∧ ((k ≤ m ∧ cs.length + rs.length = m * n) ∧ m ≤ maxLen) ∧ Sy C w0 D0 l (⟨q, et, cs ++ rs⟩ :: H) R w') ho hef rfl (fun w hS => by
    obtain ⟨inf, z, hu, hin, hz, hs, hb, hzs⟩ := slcB_of ht
    have h48 : Builtin.nextslicecap (0 + k) 0 * inf.bytes ≤ 281474976710656 := by
      have h1 := nextslicecap_le (need := 0 + k) (old := 0) (by omega)
      have h2 : Builtin.nextslicecap (0 + k) 0 * inf.bytes ≤ 2 * (0 + k) * 1000 := Nat.mul_le_mul h1 hb
      omega
    have hr := run_append_grow (P := Tryz.prog) (w := w) t ty et inf z hu hin hz ⟨q0, 0, none⟩ 0 0 [] (by simp) (fun j v hj => by simp at hj) ⟨b, 0, none⟩ k c cs (by rw [hs]; exact hcs) (fun j v hj => by
      rw [addr_add, Nat.zero_add]
      exact (hS.cell hi (nth_app_l (by rw [nth_eq]; exact hj))).1) (by omega) (by omega) h48
    have hge := grownCap_ge w (0 + k) 0 et
    rw [Nat.zero_add] at hr hge
    have hr' := run_builtin (d := d) (ps := ps) (af := af) (gd := none) (b := .append) (ty := ty) (tys := #[t, t]) ha (by
      simp only [builtin, Sem.run_bind]
      rw [hr]
      rfl)
    refine eff_val hr' ⟨w.heap.size, (Builtin.zeroCells z.cells (grownCap w k 0 et - k)).toList, _, rfl, ⟨⟨hge, ?_⟩, grownCap_le_maxLen w k 0 et (by unfold maxLen; omega)⟩, ?_⟩
    · rw [hcs]
      exact zc_len hzs hge
    · have := hS.drew.alloc et (cs ++ (Builtin.zeroCells z.cells (grownCap w k 0 et - k)).toList)
      have e1 : (cs ++ (Builtin.zeroCells z.cells (grownCap w k 0 et - k)).toList).toArray = ([] : List Value).toArray ++ cs.toArray ++ Builtin.zeroCells z.cells (grownCap w k 0 et - k) := by
        apply Array.ext'
        simp
      rw [e1] at this
      exact this) (fun v w' ⟨q, rs, m, hv, hm, hk⟩ => ⟨_, hk, hp q rs, by rw [hv]; exact h q rs m hm⟩)
theorem run_eqs {t : Nat} {p : Option Addr} {n c : Nat} (ht : undIs t dSlice = true) (w : World) : (binOp .eql t (.slice p n c) (.slice none 0 0)).run Tryz.prog w = .ok (.bool p.isNone) w := by
  obtain ⟨d, hd, hu, -⟩ := run_und ht w
  have h1 : (Op.equal t (.slice p n c) (.slice none 0 0)).run Tryz.prog w = .ok p.isNone w := by
    cases d <;> first | (simp [dSlice] at hd; done) | skip
    unfold Op.equal Op.maxDepth Op.equalIn
    rw [Sem.run_bind, hu]
    cases p <;> rfl
  simp only [binOp, Sem.run_bind, h1, Result.andThen_ok, Sem.run_pure]
theorem xeqs {t t' : Nat} {p : Option Addr} {n c : Nat} {b : Bool} (ho : ops[i]? = some ⟨d, .binOp .eql t x y t', ty, ps, af, gd⟩) (hef0 : (ef i, wantedE ops ⟨d, .binOp .eql t x y t', ty, ps, af, gd⟩ e) = (false, true)) (hx : evo e x = some (.slice p n c)) (hy : evo e y = some (.slice none 0 0)) (ht : undIs t dSlice = true) (hb : p.isNone = b)
    (h : X Tryz.prog ops lo ef K rr S (bif lo i then (i, .bool b) :: U else U) (pute d (.bool b) e)) : X Tryz.prog ops lo ef K (i :: rr) S U e := by
  have ⟨hef, hw⟩ := tri2 hef0
  subst hb
  exact xeqv ho hef0 hx hy (run_gd (by trivial)) (run_eqs ht) h
end
theorem s53 : slcB 53 33 5 = true := by kernel_rfl
theorem s66 : slcB 66 65 4 = true := by kernel_rfl
theorem u53_dSlice : undIs 53 (dSlice) = true := by kernel_rfl
theorem u66_dSlice : undIs 66 (dSlice) = true := by kernel_rfl
set_option maxHeartbeats 1000000 in
theorem ct_clone61 {C : Cx} {l : Wds} {b k c : Nat} {news rest : List Value} (hk : 0 < k ∧ k ≤ 1000000) (hcs : news.length = k * 4) :
  Ce (α := Nat × List Value × Nat) C 61 [.slice (some ⟨b, 0, none⟩) k c] l (blks [⟨b, 65, news ++ rest⟩] emp) (fun a => .slice (some ⟨a.1, 0, none⟩) k a.2.2) l (fun a => (k ≤ a.2.2 ∧ news.length + a.2.1.length = a.2.2 * 4) ∧ a.2.2 ≤ maxLen) (fun a => blks [⟨a.1, 65, news ++ a.2.1⟩, ⟨b, 65, news ++ rest⟩] emp) := by
 refine Ct.of (vs := [.slice (some ⟨b, 0, none⟩) k c]) Tryz.func61 rfl Tryz.ntmps61 (by simp) (loc_blks loc_emp _) ?_
 intro w0 D0
 refine T.conv (fun w h => Sy.opens (H2 := [_]) h loc_emp) <| T.seq <| tx [0] nf Z Z <| xas Z Z Z <| X.nil <| T.seq <| T.seq <| tx [0,1] nf Z Z <| xmv Z Z Z <| xeqs (b := false) Z Z Z Z u66_dSlice Z <| X.nil <| T.no Z <| T.skip <| T.seq ?_
 refine tx [0,1,2,3] (ct [0,2]) Z Z <| xbs0 Z Z s66 (fun _ => pend0) (fun b0 => ?_)
 refine xmv Z Z Z <| xapz (cs := news) (rest := rest) Z Z Z s66 (.s .z) hk hcs (fun _ _ => pend0) (fun q rs m hm => ?_)
 refine xas Z Z Z <| X.nil <| T.ret1 Z (fun W D h => ?_)
 obtain ⟨D1, h1, h2⟩ := blks_pick [0, 2] (by decide) h
 exact ⟨D1, ⟨(q, rs, m), rfl, hm, rfl, h1⟩, h2⟩
set_option maxHeartbeats 1000000 in
theorem ct_clonez61 {C : Cx} {l : Wds} : Cv C 61 [.slice none 0 0] l emp (.slice none 0 0) l emp := by
 refine Ct.of (vs := [.slice none 0 0]) Tryz.func61 rfl Tryz.ntmps61 (by simp) loc_emp ?_
 intro w0 D0
 refine T.seq <| tx [0] nf Z Z <| xas Z Z Z <| X.nil <| T.seq <| T.seq <| tx [0,1] nf Z Z <| xmv Z Z Z <| xeqs (b := true) Z Z Z Z u66_dSlice Z <| X.nil <| T.yes Z <| T.seq <| tx [0] nf Z Z <| xas Z Z Z <| X.nil <| T.ret1 Z (fun W D h => ?_)
 exact ⟨D, ⟨rfl, rfl, h⟩, fun _ hk => hk⟩
set_option maxHeartbeats 1000000 in
theorem ct_clone52 {C : Cx} {l : Wds} {b k c : Nat} {news rest : List Value} (hk : 0 < k ∧ k ≤ 1000000) (hcs : news.length = k * 1) :
  Ce (α := Nat × List Value × Nat) C 52 [.slice (some ⟨b, 0, none⟩) k c] l (blks [⟨b, 90, news ++ rest⟩] emp) (fun a => .slice (some ⟨a.1, 0, none⟩) k a.2.2) l (fun a => (k ≤ a.2.2 ∧ news.length + a.2.1.length = a.2.2 * 1) ∧ a.2.2 ≤ maxLen) (fun a => blks [⟨a.1, 90, news ++ a.2.1⟩, ⟨b, 90, news ++ rest⟩] emp) := by
 refine Ct.of (vs := [.slice (some ⟨b, 0, none⟩) k c]) Tryz.func52 rfl Tryz.ntmps52 (by simp) (loc_blks loc_emp _) ?_
 intro w0 D0
 refine T.conv (fun w h => Sy.opens (H2 := [_]) h loc_emp) <| T.seq <| tx [0] nf Z Z <| xas Z Z Z <| X.nil <| T.seq <| T.seq <| tx [0,1] nf Z Z <| xmv Z Z Z <| xeqs (b := false) Z Z Z Z u43_dSlice Z <| X.nil <| T.no Z <| T.skip <| T.seq ?_
 refine tx [0,1,2,3] (ct [0,2]) Z Z <| xbs0 Z Z s43 (fun _ => pend0) (fun b0 => ?_)
 refine xmv Z Z Z <| xapz (cs := news) (rest := rest) Z Z Z s43 (.s .z) hk hcs (fun _ _ => pend0) (fun q rs m hm => ?_)
 refine xas Z Z Z <| X.nil <| T.ret1 Z (fun W D h => ?_)
 obtain ⟨D1, h1, h2⟩ := blks_pick [0, 2] (by decide) h
 exact ⟨D1, ⟨(q, rs, m), rfl, hm, rfl, h1⟩, h2⟩
set_option maxHeartbeats 1000000 in
theorem ct_clonez52 {C : Cx} {l : Wds} : Cv C 52 [.slice none 0 0] l emp (.slice none 0 0) l emp := by
 refine Ct.of (vs := [.slice none 0 0]) Tryz.func52 rfl Tryz.ntmps52 (by simp) loc_emp ?_
 intro w0 D0
 refine T.seq <| tx [0] nf Z Z <| xas Z Z Z <| X.nil <| T.seq <| T.seq <| tx [0,1] nf Z Z <| xmv Z Z Z <| xeqs (b := true) Z Z Z Z u43_dSlice Z <| X.nil <| T.yes Z <| T.seq <| tx [0] nf Z Z <| xas Z Z Z <| X.nil <| T.ret1 Z (fun W D h => ?_)
 exact ⟨D, ⟨rfl, rfl, h⟩, fun _ hk => hk⟩
set_option maxHeartbeats 1000000 in
theorem ct_clone48 {C : Cx} {l : Wds} {b k c : Nat} {news rest : List Value} (hk : 0 < k ∧ k ≤ 1000000) (hcs : news.length = k * 5) :
  Ce (α := Nat × List Value × Nat) C 48 [.slice (some ⟨b, 0, none⟩) k c] l (blks [⟨b, 33, news ++ rest⟩] emp) (fun a => .slice (some ⟨a.1, 0, none⟩) k a.2.2) l (fun a => (k ≤ a.2.2 ∧ news.length + a.2.1.length = a.2.2 * 5) ∧ a.2.2 ≤ maxLen) (fun a => blks [⟨a.1, 33, news ++ a.2.1⟩, ⟨b, 33, news ++ rest⟩] emp) := by
 refine Ct.of (vs := [.slice (some ⟨b, 0, none⟩) k c]) Tryz.func48 rfl Tryz.ntmps48 (by simp) (loc_blks loc_emp _) ?_
 intro w0 D0
 refine T.conv (fun w h => Sy.opens (H2 := [_]) h loc_emp) <| T.seq <| tx [0] nf Z Z <| xas Z Z Z <| X.nil <| T.seq <| T.seq <| tx [0,1] nf Z Z <| xmv Z Z Z <| xeqs (b := false) Z Z Z Z u53_dSlice Z <| X.nil <| T.no Z <| T.skip <| T.seq ?_
 refine tx [0,1,2,3] (ct [0,2]) Z Z <| xbs0 Z Z s53 (fun _ => pend0) (fun b0 => ?_)
 refine xmv Z Z Z <| xapz (cs := news) (rest := rest) Z Z Z s53 (.s .z) hk hcs (fun _ _ => pend0) (fun q rs m hm => ?_)
 refine xas Z Z Z <| X.nil <| T.ret1 Z (fun W D h => ?_)
 obtain ⟨D1, h1, h2⟩ := blks_pick [0, 2] (by decide) h
 exact ⟨D1, ⟨(q, rs, m), rfl, hm, rfl, h1⟩, h2⟩
def opC (o : MOp) : List Value := [.int .i64 o.kind, .int .i64 o.a, .int .i64 o.b, .int .i64 o.c]
def opsC : List MOp → List Value
 | [] => []
 | o :: r => opC o ++ opsC r
theorem opsC_length : ∀ (os : List MOp), (opsC os).length = os.length * 4
 | [] => rfl
 | o :: r => by simp [opsC, opC, opsC_length r]; omega
def i64s (l : List Int) : List Value := l.map (.int .i64)
def OpsV (ov : Value) (ops : List MOp) (B : List Bk) : Prop :=
 (ops = [] ∧ (∃ p c, ov = .slice p 0 c) ∧ B = []) ∨ (ops ≠ [] ∧ ∃ b pre rest c, ov = .slice (some ⟨b, List.length pre, none⟩) ops.length c ∧ ops.length ≤ c ∧ B = [⟨b, 65, pre ++ (opsC ops ++ rest)⟩])
def OpsR (ov : Value) (ops : List MOp) : Asr := fun D w => ∃ B, OpsV ov ops B ∧ blks B emp D w
theorem loc_OpsR {ov : Value} {ops : List MOp} : Loc (OpsR ov ops) := loc_ex fun _ => loc_and (loc_blks loc_emp _)
theorem ops_fold {ov : Value} {ops : List MOp} {B : List Bk} {Rx : Asr} (h : OpsV ov ops B) : Wk (blks B Rx) (sep Rx (OpsR ov ops)) := by
 have e : blks B Rx = sep Rx (blks B emp) := by rw [sep_comm, blks_sep, emp_sep]
 rw [e]
 exact Wk.sep (Wk.refl _) (Wk.of fun D w hb => ⟨B, h, hb⟩)
theorem ops_next {b : Nat} {pre rest : List Value} {c : Nat} {o : MOp} {r : List MOp} {Rx : Asr} (hc : (o :: r).length ≤ c) : Wk (blks [⟨b, 65, pre ++ (opsC (o :: r) ++ rest)⟩] Rx) (sep Rx (OpsR (.slice (some ⟨b, if c = 1 then pre.length else pre.length + 4, none⟩) r.length (c - 1)) r)) := by
 cases r with
 | nil => exact Wk.tail.trans (ops_fold (B := []) (.inl ⟨rfl, ⟨_, _, rfl⟩, rfl⟩))
 | cons o2 r =>
  simp only [List.length_cons] at hc
  have hc1 : c ≠ 1 := by omega
  rw [if_neg hc1]
  refine ops_fold (.inr ⟨by simp, b, pre ++ opC o, rest, c - 1, ?_, ?_, ?_⟩)
  ·simp [opC]
  ·simp only [List.length_cons]; omega
  ·simp [opsC]
theorem ops_open {ov : Value} {o : MOp} {r : List MOp} {Rx : Asr} : Wk (sep Rx (OpsR ov (o :: r))) (fun D w => ∃ b pre rest c, (ov = .slice (some ⟨b, List.length pre, none⟩) (o :: r).length c ∧ (o :: r).length ≤ c) ∧ blks [⟨b, 65, pre ++ (opsC (o :: r) ++ rest)⟩] Rx D w) := Wk.of fun D w h => by
 rw [sep_comm] at h
 obtain ⟨D1, D2, ⟨B, hB, h1⟩, h2, h3, h4⟩ := h
 rcases hB with ⟨h5, -⟩ | ⟨-, b, pre, rest, c, h5, h6, rfl⟩
 ·cases h5
 ·refine ⟨b, pre, rest, c, ⟨h5, h6⟩, ?_⟩
  have : sep (blks [⟨b, 65, pre ++ (opsC (o :: r) ++ rest)⟩] emp) Rx D w := ⟨D1, D2, h1, h2, h3, h4⟩
  rw [blks_sep, emp_sep] at this
  exact this
theorem ops_nil {ov : Value} {Rx : Asr} : Wk (sep Rx (OpsR ov [])) (fun D w => (∃ p c, ov = .slice p 0 c) ∧ sep Rx (OpsR ov []) D w) := Wk.of fun D w h => by
 obtain ⟨D1, D2, h1, ⟨B, hB, h2⟩, h3, h4⟩ := h
 refine ⟨?_, D1, D2, h1, ⟨B, hB, h2⟩, h3, h4⟩
 rcases hB with ⟨-, h5, -⟩ | ⟨h5, -⟩
 ·exact h5
 ·exact (h5 rfl).elim
def Mu.cs (C : Cx) (x : Mu) (ov rv : Value) (bf : Nat) (alv lgv nv : Value) : List Value :=
 [ptr C.m, .int .i64 x.i, ov, .int .i64 x.op.kind, .int .i64 x.op.a, .int .i64 x.op.b, .int .i64 x.op.c, rv, ptr bf, .int .u64 x.armed, .int .u64 x.still, .int .u64 x.tint, .int .u64 x.cycle, .int .i64 x.k, alv, lgv,
  .int .i64 x.event.kind, .int .i64 x.event.who, .int .i64 x.event.a, .int .i64 x.event.b, .int .i64 x.event.c, nv]
def ThnV (t : Thn) (d : Nat) (tv : Value) (B : List Bk) : Prop := match t with
 | .begin_ => tv = fm 62 d ∧ B = []
 | .look => tv = fm 113 d ∧ B = []
 | .ackRoots => ∃ b, tv = .func (.func 149) #[] #[ptr b] ∧ B = [⟨b, 83, [ptr d]⟩]
 | _ => False
abbrev rtB (rb : Nat) (x : Mu) (rest : List Value) : Bk := ⟨rb, 3, i64s x.roots ++ rest⟩
def MuNx (C : Cx) (d : Nat) (x : Mu) (ov rv : Value) (bf : Nat) (alv lgv nv : Value) (RN : Asr) : Prop := ∃ rb rest m, rv = slv rb x.roots.length m ∧ x.roots.length + List.length rest = m ∧ match x.next with
 | .safe => nv = fm 90 d ∧ RN = blks [rtB rb x rest] (sep (BfR C bf x.tasks) (OpsR ov x.ops))
 | .pop => nv = fm 96 d ∧ RN = blks [rtB rb x rest] (sep (BfR C bf x.tasks) (OpsR ov x.ops))
 | .made => nv = fm 94 d ∧ ∃ q, alv = ptr q ∧ RN = blks [rtB rb x rest] (sep (HpR C q x.alloc) (sep (BfR C bf x.tasks) (OpsR ov x.ops)))
 | .fail e => ∃ b1 b2, nv = .func (.func 92) #[] #[ptr b1, ptr b2] ∧ RN = blks [rtB rb x rest, ⟨b1, 83, [ptr d]⟩, ⟨b2, 27, [.int .i64 e]⟩] (sep (BfR C bf x.tasks) (OpsR ov x.ops))
 | .ack w => ∃ b1 b2, nv = .func (.func 147) #[] #[ptr b1, ptr b2] ∧ RN = blks [rtB rb x rest, ⟨b1, 83, [ptr d]⟩, ⟨b2, 90, [.int .u64 w]⟩] (sep (BfR C bf x.tasks) (OpsR ov x.ops))
 | .does t => ∃ b1 b2 tv q B, nv = .func (.func 179) #[] #[ptr b1, ptr b2] ∧ lgv = ptr q ∧ ThnV t d tv B ∧ RN = blks (rtB rb x rest :: ⟨b1, 83, [ptr d]⟩ :: ⟨b2, 1, [tv]⟩ :: B) (sep (BuR C q ⟨x.log, bf, x.tasks⟩) (OpsR ov x.ops))
 | _ => False
theorem loc_MuNx {C : Cx} {d : Nat} {x : Mu} {ov rv : Value} {bf : Nat} {alv lgv : Value} (nv : Value) (RN : Asr) (h : MuNx C d x ov rv bf alv lgv nv RN) : Loc RN := by
 obtain ⟨rb, rest, m, -, -, h⟩ := h
 split at h
 ·obtain ⟨-, rfl⟩ := h; exact loc_blks (loc_sep loc_BfR loc_OpsR) _
 ·obtain ⟨-, rfl⟩ := h; exact loc_blks (loc_sep loc_BfR loc_OpsR) _
 ·obtain ⟨-, q, -, rfl⟩ := h; exact loc_blks (loc_sep loc_HpR (loc_sep loc_BfR loc_OpsR)) _
 ·obtain ⟨b1, b2, -, rfl⟩ := h; exact loc_blks (loc_sep loc_BfR loc_OpsR) _
 ·obtain ⟨b1, b2, -, rfl⟩ := h; exact loc_blks (loc_sep loc_BfR loc_OpsR) _
 ·obtain ⟨b1, b2, tv, q, B, -, -, -, rfl⟩ := h; exact loc_blks (loc_sep loc_BuR loc_OpsR) _
 ·exact h.elim
def MuR (C : Cx) (d : Nat) (x : Mu) : Asr := fun D w => ∃ ov : Value, ∃ rv : Value, ∃ bf : Nat, ∃ alv : Value, ∃ lgv : Value, Mch 133 d (x.cs C ov rv bf alv lgv) (MuNx C d x ov rv bf alv lgv) D w
theorem loc_MuR {C : Cx} {d : Nat} {x : Mu} : Loc (MuR C d x) := loc_ex fun _ => loc_ex fun _ => loc_ex fun _ => loc_ex fun _ => loc_ex fun _ => loc_Mch loc_MuNx
def MuRun (C : Cx) (d : Nat) (x : Mu) (l : Wds) (x' : Mu) (l' : Wds) : Prop := ∀ (ov rv : Value) (bf : Nat) (alv lgv : Value) nv RN, MuNx C d x ov rv bf alv lgv nv RN → ∃ fid fs cs, nv = .func (.func fid) (List.toArray fs) (List.toArray cs) ∧ fnB fid = true ∧ Cv C fid (fs ++ [ptr C.s] ++ cs) l (blks [⟨d, 133, x.cs C ov rv bf alv lgv nv⟩] RN) (.tuple #[]) l' (MuR C d x')
abbrev MuPre (C : Cx) (d : Nat) (x : Mu) (ov : Value) (rb : Nat) (rest : List Value) (m bf : Nat) (alv lgv nv : Value) (B : List Bk) : Asr :=
 blks (⟨d, 133, x.cs C ov (slv rb x.roots.length m) bf alv lgv nv⟩ :: rtB rb x rest :: B) (sep (BfR C bf x.tasks) (OpsR ov x.ops))
def Mu.al : MuN → Bool
 | .head | .dup | .read | .old | .write | .does .logNew | .does .setWrite => false
 | _ => true
structure Mu.Ok (M : MapM) (x : Mu) : Prop where
 roots : ∀ v ∈ x.roots, u32R v
 len : x.roots.length ≤ 8
 ops : ∀ o ∈ x.ops, o.kind = 0 ∨ o.kind = 3
 cyc : u64R x.armed ∧ u64R x.still ∧ u64R x.tint ∧ u64R x.cycle
 tasks : ∀ t ∈ x.tasks, u64R t
 le : (x.tasks.length : Int) ≤ M.buffer
 lt : (∀ t, x.next ≠ .does t) → (x.tasks.length : Int) < M.buffer
 k : x.next = .does .look → x.k ≤ x.roots.length
 made : x.next = .made → x.alloc.Ok ∧ x.roots.length < 8 ∧ u32R x.alloc.node
 al : Mu.al x.next = true
 does : ∀ t, x.next = .does t → (⟨x.log, 0, x.tasks⟩ : BuS).Ok M
 pop : x.next = .pop → x.roots ≠ []
 ack : ∀ w, x.next = .ack w → u64R w
theorem sl_i64s {l : List Int} : (i64s l).length = l.length := by simp [i64s]
theorem BuS.ok_bf {M : MapM} {b : Bu} {bf bf' : Nat} {ts : List Int} (h : (⟨b, bf, ts⟩ : BuS).Ok M) : (⟨b, bf', ts⟩ : BuS).Ok M := ⟨h.v, h.claim, h.put, h.ts, h.le, h.lt, h.ne⟩
theorem bu_bf {C : Cx} {q : Nat} {m : BuS} : Wk (BuR C q m) (BfR C m.bf m.ts) := fun D w h => by
 obtain ⟨tv, B, cv, pv, nv, RN, ⟨hs, hN⟩, hb⟩ := h
 obtain ⟨D1, h1, h2⟩ := Wk.tail D w hb
 split at hN
 ·obtain ⟨-, rfl⟩ := hN
  exact ⟨D1, ⟨tv, B, hs, h1⟩, h2⟩
 ·obtain ⟨-, q, -, rfl⟩ := hN
  obtain ⟨D2, h3, h4⟩ := blks_drop h1
  exact ⟨D2, ⟨tv, B, hs, h3⟩, fun k hk => h2 k (h4 k hk)⟩
 ·obtain ⟨-, q, -, rfl⟩ := hN
  obtain ⟨D2, h3, h4⟩ := blks_drop h1
  exact ⟨D2, ⟨tv, B, hs, h3⟩, fun k hk => h2 k (h4 k hk)⟩
section
variable {C : Cx} {w0 : World} {D0 : Dom} {l l' : Wds} {H H' H1 H2 H2' : List Bk} {R R' : Asr}
variable {ops : Array Oper} {lo ef : Nat → Bool} {K : (World → Prop) → Env → Prop} {i : Nat} {rr : List Nat} {S : World → Prop} {U : List (Nat × Value)} {e : Env} {d : Option Nat} {ty : Nat} {ps : String} {af : Array Edge} {gd : Option (Nat × Bool)} {x y z : Operand} {v : Value}
theorem xldav {t b off n : Nat} {cs vs : List Value} (ho : ops[i]? = some ⟨d, .load t x, ty, ps, af, gd⟩) (hef0 : (ef i, wantedE ops ⟨d, .load t x, ty, ps, af, gd⟩ e) = (false, true)) (hx : evo e x = some (.pointer (some ⟨b, off, none⟩))) (h1 : many t n = true) (hi : In b cs H) (hv : slc cs off n = vs) (hn : vs.length = n)
  (h : X Tryz.prog ops lo ef K rr (Sy C w0 D0 l H R) (bif lo i then (i, .agg vs.toArray) :: U else U) (pute d (.agg vs.toArray) e)) : X Tryz.prog ops lo ef K (i :: rr) (Sy C w0 D0 l H R) U e := by
 have ⟨hef, hw⟩ := tri2 hef0
 subst hv
 exact xlda ho hef0 hx h1 hi hn h
end
theorem slc_op {pre rest : List Value} {o : MOp} {r : List MOp} : slc (pre ++ (opsC (o :: r) ++ rest)) (pre.length + (0 : Int).toNat * 4) 4 = opC o := by
 simp [slc, opsC, opC]
theorem slv_roots {x : Mu} {rest : List Value} {m : Nat} (h : x.roots.length + rest.length = m) : (i64s x.roots).length = x.roots.length * 1 ∧ (i64s x.roots).length + rest.length = m * 1 := by rw [sl_i64s]; omega
theorem nth_i64s {ts : List Int} {rs : List Value} {j : Nat} (h : j < ts.length) : nth (i64s ts ++ rs) (0 + (j : Int).toNat * 1) = some (.int .i64 (ts.getD j 0)) := by
 rw [nth_eq]
 unfold i64s
 rw [show 0 + (j : Int).toNat * 1 = j by omega, List.getElem?_append_left (by simpa using h)]
 simp [h]
theorem pxslo {ops : Array Oper} {i : Nat} {U : List (Nat × Value)} {S : World → Prop} {e : Env} {d : Option Nat} {ty : Nat} {ps : String} {af : Array Edge} {gd : Option (Nat × Bool)} {x y : Operand} {jj : Nat} {t et n len c b off : Nat} {ik : IntKind} (ho0 : (ops[i]?, wantedE ops ⟨d, .slice t x (some y) none none, ty, ps, af, gd⟩ e) = (some ⟨d, .slice t x (some y) none none, ty, ps, af, gd⟩, true)) (hx : evo e x = some (.slice (some ⟨b, off, none⟩) len c)) (hy : evo e y = some (.int ik 1)) (ht : slcB t et n = true) (h0 : 1 ≤ len) (h1 : len ≤ c)
  (h : Pend ops jj U S e) : Pend ops jj ((i, .slice (some ⟨b, if c = 1 then off else off + n, none⟩) (len - 1) (c - 1)) :: U) S e := have ⟨ho, hw⟩ := tri2 ho0;
 pendv ho hw (fun w _ => exv (m := Instr.sliceAt t (ev e x) (some (ev e y)) none none) rfl (by rw [ev_of hx, ev_of hy]; exact run_sllo ht h0 h1 w)) h
theorem dropLast_snoc {rs : List Int} {v : Int} : (rs ++ [v]).dropLast = rs := List.dropLast_concat
theorem i64s_app (ts : List Int) (x : Int) : i64s ts ++ [.int .i64 x] = i64s (ts ++ [x]) := by simp [i64s]
theorem i64s_snoc (rs : List Int) (v : Int) (rest : List Value) : i64s (rs ++ [v]) ++ rest = i64s rs ++ (.int .i64 v :: rest) := by simp [i64s]
theorem f133_0 : fld 133 0 0 = true := by kernel_rfl
theorem f133_11 : fld 133 11 14 = true := by kernel_rfl
theorem f133_13 : fld 133 13 16 = true := by kernel_rfl
theorem f133_14 : fld 133 14 21 = true := by kernel_rfl
theorem f133_2 : fld 133 2 2 = true := by kernel_rfl
theorem f133_3 : fld 133 3 3 = true := by kernel_rfl
theorem f133_4 : fld 133 4 7 = true := by kernel_rfl
theorem f133_8 : fld 133 8 11 = true := by kernel_rfl
theorem f24_6 : fld 24 6 10 = true := by kernel_rfl
theorem f65_0 : fld 65 0 0 = true := by kernel_rfl
theorem f65_1 : fld 65 1 1 = true := by kernel_rfl
theorem g117 : fnB 117 = true := by kernel_rfl
theorem g91 : fnB 91 = true := by kernel_rfl
theorem g98 : fnB 98 = true := by kernel_rfl
theorem m65 : many 65 4 = true := by kernel_rfl
theorem o128 : one 128 = true := by kernel_rfl
theorem o131 : one 131 = true := by kernel_rfl
theorem o41 : one 41 = true := by kernel_rfl
theorem o66 : one 66 = true := by kernel_rfl
theorem o83 : one 83 = true := by kernel_rfl
theorem mp169 : mapB 169 3 = true := by kernel_rfl
theorem t24_6 : fldT 24 6 3 = true := by kernel_rfl
theorem u41_dSlice : undIs 41 (dSlice) = true := by kernel_rfl
theorem z27 : zer 27 = some [.int .i64 0] := by kernel_rfl
theorem z65 : zer 65 = some [.int .i64 0, .int .i64 0, .int .i64 0, .int .i64 0] := by kernel_rfl
set_option maxHeartbeats 1000000 in
theorem ct_muend {C : Cx} {l : Wds} {d : Nat} {Hx : List Bk} {R : Asr} (hl : Loc R) {a0 a1 a2 a3 a4 a5 a6 a7 a8 a9 a10 a11 a12 a13 a14 a15 a16 a17 a18 a19 a20 a21 : Value} {e0 e1 e2 e3 e4 : Int} : Cv C 117 [ptr d, .agg #[.int .i64 e0, .int .i64 e1, .int .i64 e2, .int .i64 e3, .int .i64 e4]] l (blks (⟨d, 133, [a0, a1, a2, a3, a4, a5, a6, a7, a8, a9, a10, a11, a12, a13, a14, a15, a16, a17, a18, a19, a20, a21]⟩ :: Hx) R) (.tuple #[]) l (blks (⟨d, 133, [a0, a1, a2, a3, a4, a5, a6, a7, a8, a9, a10, a11, a12, a13, a14, a15, .int .i64 e0, .int .i64 e1, .int .i64 e2, .int .i64 e3, .int .i64 e4, fm 90 d]⟩ :: Hx) R) := by
 refine Ct.of Tryz.func117 rfl Tryz.ntmps117 (by simp) (loc_blks hl _) ?_
 intro w0 D0
 refine T.conv (fun w h => Sy.opens (H2 := _ :: Hx) h hl) <| T.seq <| tx [0] (ct [0]) Z Z <| xbx Z Z Z Z (fun _ => pend0) (fun b0 => ?_)
 refine X.nil <| tx [0,1,2,3,4,5,6,7,8,9,10] (ct [7,10]) Z Z <| xmv Z Z Z <| xmv Z Z Z <| xlda Z Z Z m33 .z Z <| xmv Z Z Z <| xmf Z Z Z Z <| xnc Z Z Z <| xfa Z Z Z f133_13 <| xsta Z Z Z Z m33 Z Z (.s .z) (Nat.le_of_ble_eq_true Z) (.s .z) pend0 <| xnc Z Z Z ?_
 refine xfa Z Z Z f133_14 <| xst Z Z Z Z o131 Z (.s .z) Z (.s .z) pend0 <| X.nil <| T.end0 Z (fun W D h => ?_)
 obtain ⟨D1, h1, h2⟩ := blks_tail h
 exact ⟨D1, ⟨rfl, rfl, h1⟩, h2⟩
set_option maxHeartbeats 1000000 in
theorem ct_mufail {C : Cx} {l : Wds} {d : Nat} {Hx : List Bk} {R : Asr} (hl : Loc R) {a0 a1 a2 a4 a5 a6 a7 a8 a9 a10 a11 a12 a13 a14 a15 a16 a17 a18 a19 a20 a21 : Value} {k e : Int} : Cv C 93 [ptr d, .int .i64 e] l (blks (⟨d, 133, [a0, a1, a2, .int .i64 k, a4, a5, a6, a7, a8, a9, a10, a11, a12, a13, a14, a15, a16, a17, a18, a19, a20, a21]⟩ :: Hx) R) (.tuple #[]) l (blks (⟨d, 133, [a0, a1, a2, .int .i64 k, a4, a5, a6, a7, a8, a9, a10, a11, a12, a13, a14, a15, .int .i64 13, .int .i64 0, .int .i64 k, .int .i64 e, .int .i64 0, fm 90 d]⟩ :: Hx) R) := by
 refine Ct.of Tryz.func93 rfl Tryz.ntmps93 (by simp) (loc_blks hl _) ?_
 intro w0 D0
 refine T.conv (fun w h => Sy.opens (H2 := _ :: Hx) h hl) <| tx [0,1,2,3,4,5,6,7,8] (ct [8]) Z Z <| xmv Z Z Z <| xmv Z Z Z <| xnc Z Z Z <| xfa Z Z Z f133_3 <| xfa Z Z Z f65_0 <| xld Z Z Z o3 .z Z <| xmv Z Z Z <| xbd Z Z Z l33 z33 Z ?_
 refine xcb (H1 := []) (H2 := _ :: _) (H2' := _ :: _) Z Z Z Z g117 Z (ct_muend hl) hl Z pend0 <| X.nil <| T.end0 Z (fun W D h => ?_)
 exact ⟨D, ⟨rfl, rfl, h⟩, fun _ hk => hk⟩
set_option maxHeartbeats 1000000 in
theorem ct_may0 {C : Cx} {l : Wds} {d : Nat} {Hx : List Bk} {R : Asr} (hl : Loc R) {a1 a2 a8 a9 a10 a11 a12 a13 a14 a15 a16 a17 a18 a19 a20 a21 : Value} {rb n m : Nat} {x4 x5 x6 : Int} : Cv C 91 [ptr d] l (blks (⟨d, 133, [ptr C.m, a1, a2, .int .i64 0, .int .i64 x4, .int .i64 x5, .int .i64 x6, slv rb n m, a8, a9, a10, a11, a12, a13, a14, a15, a16, a17, a18, a19, a20, a21]⟩ :: Hx) R) (.int .i64 (if (n : Int) ≥ C.M.roots then 13 else 0)) l (blks (⟨d, 133, [ptr C.m, a1, a2, .int .i64 0, .int .i64 x4, .int .i64 x5, .int .i64 x6, slv rb n m, a8, a9, a10, a11, a12, a13, a14, a15, a16, a17, a18, a19, a20, a21]⟩ :: Hx) R) := by
 refine Ct.of (vs := [ptr d]) Tryz.func91 rfl Tryz.ntmps91 (by simp) (loc_blks hl _) ?_
 intro w0 D0
 refine T.conv (fun w h => Sy.opens (H2 := _ :: Hx) h hl) <| T.seq <| tx [0] nf Z Z <| xas Z Z Z <| X.nil <| T.seq ?_
 refine T.any (ord := [0, 1, 2, 3, 4, 5, 6, 7, 8, 9, 10, 11, 12]) (lo := (fun _ => false)) (ef := (fun _ => false)) (by kernel_rfl) (fun _ h => h.drew) <| xmv Z Z Z <| xnc Z Z Z <| xfa Z Z Z f133_4 <| xld Z Z Z o41 .z Z <| xlen Z Z Z u41_dSlice ?_
 refine xmv Z Z Z <| xnc Z Z Z <| xfa Z Z Z f133_0 <| xld Z Z Z o39 .z Z <| xcq Z Z Z Z g115 (ct_ConfigR hl) hl <| xfd Z Z Z f24_6 t24_6 o3 Z <| xcm Z Z Z Z Z Z <| xas Z Z Z <| X.nil <| T.seq <| tx [0,1,2,3,4,5] (ct [4,5]) Z Z <| xmv Z Z Z <| xnc Z Z Z ?_
 refine xfa Z Z Z f133_3 <| xlda Z Z Z m65 .z Z <| xal Z Z z65 (fun _ => pend0) (fun b0 => ?_)
 refine xsta Z Z Z Z m65 Z Z .z (Nat.le_of_ble_eq_true Z) .z pend0 <| X.nil <| T.seq <| tx [0] nf Z Z <| xas Z Z Z <| X.nil <| T.seq <| T.seq <| tx [0,1] nf Z Z <| xfa Z Z Z f65_0 <| xld Z Z Z o3 .z Z <| X.nil <| T.block <| T.seq <| tx [0,1] nf Z Z ?_
 refine xcm (c := true) Z Z Z Z Z (by decide) <| xas Z Z Z <| X.nil <| T.yes Z <| T.skip <| T.blk_end <| T.seq <| T.block <| T.seq <| tx [0,1] nf Z Z <| xmv Z Z Z <| xas Z Z Z <| X.nil <| T.no Z <| T.seq <| tx [0,1] nf Z Z <| xmv Z Z Z <| xas Z Z Z ?_
 refine X.nil <| T.cond Z ?_ ?_
 ·intro hb0
  refine T.seq <| tx [0] nf Z Z <| xas Z Z Z <| X.nil <| T.rets ?_
  refine TE.blk_ret ?_
  refine TE.ret1 rfl (fun W D h => ?_)
  rw [show (if (n : Int) ≥ C.M.roots then 13 else 0 : Int) = _ from if_pos (of_decide_eq_true hb0)]
  obtain ⟨D1, h1, h2⟩ := blks_tail h
  exact ⟨D1, ⟨rfl, rfl, h1⟩, h2⟩
 ·intro hb0
  refine T.skip <| T.blk_end <| T.seq <| tx [0] nf Z Z <| xas Z Z Z <| X.nil <| T.ret1 Z (fun W D h => ?_)
  rw [show (if (n : Int) ≥ C.M.roots then 13 else 0 : Int) = _ from if_neg (of_decide_eq_false hb0)]
  obtain ⟨D1, h1, h2⟩ := blks_tail h
  exact ⟨D1, ⟨rfl, rfl, h1⟩, h2⟩
set_option maxHeartbeats 1000000 in
theorem ct_may3 {C : Cx} {l : Wds} {d : Nat} {Hx : List Bk} {R : Asr} (hl : Loc R) {a1 a2 a8 a9 a10 a11 a12 a13 a14 a15 a16 a17 a18 a19 a20 a21 : Value} {rb n m : Nat} {x4 x5 x6 : Int} : Cv C 91 [ptr d] l (blks (⟨d, 133, [ptr C.m, a1, a2, .int .i64 3, .int .i64 x4, .int .i64 x5, .int .i64 x6, slv rb n m, a8, a9, a10, a11, a12, a13, a14, a15, a16, a17, a18, a19, a20, a21]⟩ :: Hx) R) (.int .i64 (if n = 0 then 1 else 0)) l (blks (⟨d, 133, [ptr C.m, a1, a2, .int .i64 3, .int .i64 x4, .int .i64 x5, .int .i64 x6, slv rb n m, a8, a9, a10, a11, a12, a13, a14, a15, a16, a17, a18, a19, a20, a21]⟩ :: Hx) R) := by
 refine Ct.of (vs := [ptr d]) Tryz.func91 rfl Tryz.ntmps91 (by simp) (loc_blks hl _) ?_
 intro w0 D0
 refine T.conv (fun w h => Sy.opens (H2 := _ :: Hx) h hl) <| T.seq <| tx [0] nf Z Z <| xas Z Z Z <| X.nil <| T.seq ?_
 refine T.any (ord := [0, 1, 2, 3, 4, 5, 6, 7, 8, 9, 10, 11, 12]) (lo := (fun _ => false)) (ef := (fun _ => false)) (by kernel_rfl) (fun _ h => h.drew) <| xmv Z Z Z <| xnc Z Z Z <| xfa Z Z Z f133_4 <| xld Z Z Z o41 .z Z <| xlen Z Z Z u41_dSlice ?_
 refine xmv Z Z Z <| xnc Z Z Z <| xfa Z Z Z f133_0 <| xld Z Z Z o39 .z Z <| xcq Z Z Z Z g115 (ct_ConfigR hl) hl <| xfd Z Z Z f24_6 t24_6 o3 Z <| xcm Z Z Z Z Z Z <| xas Z Z Z <| X.nil <| T.seq <| tx [0,1,2,3,4,5] (ct [4,5]) Z Z <| xmv Z Z Z <| xnc Z Z Z ?_
 refine xfa Z Z Z f133_3 <| xlda Z Z Z m65 .z Z <| xal Z Z z65 (fun _ => pend0) (fun b0 => ?_)
 refine xsta Z Z Z Z m65 Z Z .z (Nat.le_of_ble_eq_true Z) .z pend0 <| X.nil <| T.seq <| tx [0] nf Z Z <| xas Z Z Z <| X.nil <| T.seq <| T.seq <| tx [0,1] nf Z Z <| xfa Z Z Z f65_0 <| xld Z Z Z o3 .z Z <| X.nil <| T.block <| T.seq <| tx [0,1] nf Z Z ?_
 refine xcm (c := false) Z Z Z Z Z (by decide) <| xas Z Z Z <| X.nil <| T.no Z <| T.seq <| tx [0,1] nf Z Z <| xcm (c := false) Z Z Z Z Z (by decide) <| xas Z Z Z <| X.nil <| T.no Z <| T.seq <| tx [0,1] nf Z Z <| xcm (c := false) Z Z Z Z Z (by decide) ?_
 refine xas Z Z Z <| X.nil <| T.no Z <| T.seq <| tx [0,1] nf Z Z <| xcm (c := true) Z Z Z Z Z (by decide) <| xas Z Z Z <| X.nil <| T.yes Z <| tx [0,1,2,3,4,5,6,7] nf Z Z <| xmv Z Z Z <| xnc Z Z Z <| xfa Z Z Z f133_4 <| xld Z Z Z o41 (.s .z) Z ?_
 refine xlen Z Z Z u41_dSlice <| xcm Z Z Z Z Z Z <| xas Z Z Z <| xas Z Z Z <| X.nil <| T.blk_end <| T.seq <| T.block <| T.seq <| tx [0,1] nf Z Z <| xmv Z Z Z <| xas Z Z Z <| X.nil <| T.cond Z ?_ ?_
 ·intro hb0
  refine T.seq <| tx [0] nf Z Z <| xas Z Z Z <| X.nil <| T.rets ?_
  refine TE.blk_ret ?_
  refine TE.ret1 rfl (fun W D h => ?_)
  have hz : n = 0 := by have := of_decide_eq_true hb0; simpa using this
  rw [show (if n = 0 then 1 else 0 : Int) = _ from if_pos hz]
  obtain ⟨D1, h1, h2⟩ := blks_tail h
  exact ⟨D1, ⟨rfl, rfl, h1⟩, h2⟩
 ·intro hb0
  refine T.seq <| tx [0,1] nf Z Z <| xmv Z Z Z <| xas Z Z Z <| X.nil <| T.no Z <| T.skip <| T.blk_end <| T.seq <| tx [0] nf Z Z <| xas Z Z Z <| X.nil <| T.ret1 Z (fun W D h => ?_)
  have hz : ¬ n = 0 := by have := of_decide_eq_false hb0; simpa using this
  rw [show (if n = 0 then 1 else 0 : Int) = _ from if_neg hz]
  obtain ⟨D1, h1, h2⟩ := blks_tail h
  exact ⟨D1, ⟨rfl, rfl, h1⟩, h2⟩
set_option maxHeartbeats 1000000 in
theorem ct_muack {C : Cx} {l : Wds} {d : Nat} {w : Int} : Cc C 112 [ptr d, .int .u64 w] l (fun a b => .func (.func 147) #[] #[ptr a, ptr b]) (fun a b => [⟨a, 83, [ptr d]⟩, ⟨b, 90, [.int .u64 w]⟩]) := by
 refine Ct.of (vs := [ptr d, .int .u64 w]) Tryz.func112 rfl Tryz.ntmps112 (by simp) loc_emp ?_
 intro w0 D0
 refine T.seq <| tx [0,1,2] (ct [0,1]) Z Z <| xbx Z Z Z Z (fun _ => pend0) (fun b0 => ?_)
 refine xbx Z Z Z Z (fun _ => pend0) (fun b1 => ?_)
 refine xas Z Z Z <| X.nil <| T.seq <| tx [0,1] nf Z Z <| xmf Z Z Z Z <| xas Z Z Z <| X.nil <| T.ret1 Z (fun W D h => ?_)
 obtain ⟨D1, h1, h2⟩ := blks_pick [1, 0] (by decide) h
 exact ⟨D1, ⟨b0, b1, rfl, rfl, h1⟩, h2⟩
set_option maxHeartbeats 1000000 in
theorem ct_begin0 {C : Cx} {l : Wds} {d : Nat} {x : Mu} {ov : Value} {rb : Nat} {rest : List Value} {m bf : Nat} {alv lgv nv : Value} (ho : x.ops = []) (hrm : x.roots.length + rest.length = m) : Cv C 62 [ptr d] l (MuPre C d x ov rb rest m bf alv lgv nv []) (.tuple #[]) l (MuR C d { x with next := .safe }) := by
 obtain ⟨i, os, ⟨k0, k1, k2, k3⟩, roots, tasks, armed, still, tint, cycle, k, alloc, log, event, nx⟩ := x
 obtain rfl : os = [] := ho
 refine Ct.of (vs := [ptr d]) Tryz.func62 rfl Tryz.ntmps62 (by simp) (loc_blks (loc_sep loc_BfR loc_OpsR) _) ?_
 intro w0 D0
 refine T.conv (fun w h => Sy.opens (H2 := [_, _]) h (loc_sep loc_BfR loc_OpsR)) <| T.reb (H' := [_, _]) (loc_and (loc_sep loc_BfR loc_OpsR)) (Wk.blks ops_nil _) <| T.and (fun _ => (loc_sep loc_BfR loc_OpsR)) ?_
 rintro ⟨p, c, rfl⟩
 refine T.seq <| tx [0] (ct [0]) Z Z <| xbx Z Z Z Z (fun _ => pend0) (fun b0 => ?_)
 refine X.nil <| T.seq <| tx [0,1,2,3,4,5] (ct [5]) Z Z <| xld Z Z Z o83 .z Z <| xld Z Z Z o83 .z Z <| xmf Z Z Z Z <| xnc Z Z Z <| xfa Z Z Z f133_14 <| xst Z Z Z Z o131 Z (.s .z) Z (.s .z) pend0 <| X.nil <| T.seq <| T.seq <| tx [0,1,2,3,4,5] nf Z Z ?_
 refine xld Z Z Z o83 .z Z <| xnc Z Z Z <| xfa Z Z Z f133_2 <| xld Z Z Z o66 (.s .z) Z <| xlen Z Z Z u66_dSlice <| xcm (c := true) Z Z Z Z Z (Z) <| X.nil <| T.yes Z <| T.ret0 Z (fun W D h => ?_)
 obtain ⟨D1, h1, h2⟩ := blks_tail h
 exact ⟨D1, ⟨rfl, rfl, _, _, _, _, _, _, _, ⟨rb, rest, m, rfl, hrm, rfl, rfl⟩, h1⟩, h2⟩
set_option maxHeartbeats 1000000 in
theorem ct_begin0f {C : Cx} {l : Wds} {d : Nat} {x : Mu} {ov : Value} {rb : Nat} {rest : List Value} {m bf : Nat} {alv lgv nv : Value} {pa pb pc : Int} {r : List MOp} (ho : x.ops = ⟨0, pa, pb, pc⟩ :: r) (he : (if (x.roots.length : Int) ≥ C.M.roots then 13 else 0 : Int) ≠ 0) (hrm : x.roots.length + rest.length = m) : Cv C 62 [ptr d] l (MuPre C d x ov rb rest m bf alv lgv nv []) (.tuple #[]) l (MuR C d { x with op := ⟨0, pa, pb, pc⟩, ops := r, next := .fail (if (x.roots.length : Int) ≥ C.M.roots then 13 else 0) }) := by
 obtain ⟨i, os, ⟨k0, k1, k2, k3⟩, roots, tasks, armed, still, tint, cycle, k, alloc, log, event, nx⟩ := x
 obtain rfl : os = ⟨0, pa, pb, pc⟩ :: r := ho
 simp only at he
 refine Ct.of (vs := [ptr d]) Tryz.func62 rfl Tryz.ntmps62 (by simp) (loc_blks (loc_sep loc_BfR loc_OpsR) _) ?_
 intro w0 D0
 refine T.conv (fun w h => Sy.opens (H2 := [_, _]) h (loc_sep loc_BfR loc_OpsR)) <| T.reb (H' := [_, _]) (loc_ex fun _ => loc_ex fun _ => loc_ex fun _ => loc_ex fun _ => loc_and (loc_blks loc_BfR _)) (Wk.blks ops_open _) ?_
 refine T.ex (fun _ => loc_ex fun _ => loc_ex fun _ => loc_ex fun _ => loc_and (loc_blks loc_BfR _)) ?_
 intro ob
 refine T.ex (fun _ => loc_ex fun _ => loc_ex fun _ => loc_and (loc_blks loc_BfR _)) ?_
 intro pre
 refine T.ex (fun _ => loc_ex fun _ => loc_and (loc_blks loc_BfR _)) ?_
 intro orest
 refine T.ex (fun _ => loc_and (loc_blks loc_BfR _)) ?_
 intro oc
 refine T.and (fun _ => loc_blks loc_BfR _) ?_
 rintro ⟨rfl, hoc⟩
 refine T.bks loc_BfR <| T.seq <| tx [0] (ct [0]) Z Z <| xbx Z Z Z Z (fun _ => pend0) (fun b0 => ?_)
 refine X.nil <| T.seq <| tx [0,1,2,3,4,5] (ct [5]) Z Z <| xld Z Z Z o83 .z Z <| xld Z Z Z o83 .z Z <| xmf Z Z Z Z <| xnc Z Z Z <| xfa Z Z Z f133_14 <| xst Z Z Z Z o131 Z (.s .z) Z (.s .z) pend0 <| X.nil <| T.seq <| T.seq <| tx [0,1,2,3,4,5] nf Z Z ?_
 refine xld Z Z Z o83 .z Z <| xnc Z Z Z <| xfa Z Z Z f133_2 <| xld Z Z Z o66 (.s .z) Z <| xlen Z Z Z u66_dSlice <| xcm (c := false) Z Z Z Z Z (beq_eq_false_iff_ne.2 (by simp only [List.length_cons]; omega)) <| X.nil <| T.no Z <| T.skip <| T.seq ?_
 refine T.any (ord := [0, 1, 2, 3, 4, 5, 6, 7, 8, 9, 10, 11, 12, 13, 14, 15, 16, 17, 18]) (lo := (fun i => [1, 12].contains i)) (ef := (fun i => [15, 18].contains i)) (by kernel_rfl) (fun _ h => h.drew) <| xld Z Z Z o83 .z Z <| xld Z Z Z o83 .z Z ?_
 refine xld Z Z Z o83 .z Z <| xnc Z Z Z <| xfa Z Z Z f133_2 <| xld Z Z Z o66 (.s .z) Z <| xix Z Z Z Z s66 ⟨Int.le_refl 0, by simp only [List.length_cons]; omega⟩ <| xldav Z Z Z m65 (.s (.s (.s .z))) slc_op Z <| xld Z Z Z o83 .z Z <| xnc Z Z Z ?_
 refine xfa Z Z Z f133_2 <| xld Z Z Z o66 (.s .z) Z <| xslo Z Z Z Z s66 (by simp) hoc <| xnc Z Z Z <| xfa Z Z Z f133_3 <| xsta Z Z Z Z m65 Z Z (.s .z) (Nat.le_of_ble_eq_true Z) (.s .z) (pxslo Z Z Z s66 (by simp) hoc (pxld Z Z o83 .z Z pend0)) <| xnc Z Z Z ?_
 refine xfa Z Z Z f133_2 <| xst Z Z Z Z o66 Z (.s .z) Z (.s .z) (pendsk (by kernel_rfl) (pendsk (by kernel_rfl) pend0)) <| X.nil <| T.seq <| T.seq <| tx [0,1,2,3] (ct [2,3]) Z Z <| xld Z Z Z o83 .z Z ?_
 refine xcr (H1 := [_]) (H2 := _ :: _) Z Z Z Z g91 Z (ct_may0 loc_BfR) loc_BfR <| xal Z Z z27 (fun _ => pend0) (fun b1 => ?_)
 refine xst Z Z Z Z o27 Z .z Z .z pend0 <| X.nil <| T.seq <| tx [0,1] nf Z Z <| xld Z Z Z o27 .z Z <| xcm (c := true) Z Z Z Z Z (bne_iff_ne.2 he) <| X.nil <| T.yes Z <| T.seq <| tx [0,1,2,3,4] (ct [4]) Z Z <| xld Z Z Z o83 (.s .z) Z <| xmf Z Z Z Z ?_
 refine xnc Z Z Z <| xfa Z Z Z f133_14 <| xst Z Z Z Z o131 Z (.s (.s .z)) Z (.s (.s .z)) pend0 <| X.nil <| T.ret0 Z (fun W D h => ?_)
 obtain ⟨D0, g1, g2⟩ := Wk.pick [2, 3, 1, 0, 4] (by decide) D W h
 obtain ⟨D1, h1, g3⟩ := Wk.blks (ops_next hoc) [_, _, _, _] D0 W g1
 have h2 : ∀ k, D1 k → D k := fun k hk => g2 k (g3 k hk)
 exact ⟨D1, ⟨rfl, rfl, _, _, _, _, _, _, _, ⟨rb, rest, m, rfl, hrm, _, _, rfl, rfl⟩, h1⟩, h2⟩
set_option maxHeartbeats 1000000 in
theorem ct_begin3f {C : Cx} {l : Wds} {d : Nat} {x : Mu} {ov : Value} {rb : Nat} {rest : List Value} {m bf : Nat} {alv lgv nv : Value} {pa pb pc : Int} {r : List MOp} (ho : x.ops = ⟨3, pa, pb, pc⟩ :: r) (he : (if x.roots.length = 0 then 1 else 0 : Int) ≠ 0) (hrm : x.roots.length + rest.length = m) : Cv C 62 [ptr d] l (MuPre C d x ov rb rest m bf alv lgv nv []) (.tuple #[]) l (MuR C d { x with op := ⟨3, pa, pb, pc⟩, ops := r, next := .fail (if x.roots.length = 0 then 1 else 0) }) := by
 obtain ⟨i, os, ⟨k0, k1, k2, k3⟩, roots, tasks, armed, still, tint, cycle, k, alloc, log, event, nx⟩ := x
 obtain rfl : os = ⟨3, pa, pb, pc⟩ :: r := ho
 simp only at he
 refine Ct.of (vs := [ptr d]) Tryz.func62 rfl Tryz.ntmps62 (by simp) (loc_blks (loc_sep loc_BfR loc_OpsR) _) ?_
 intro w0 D0
 refine T.conv (fun w h => Sy.opens (H2 := [_, _]) h (loc_sep loc_BfR loc_OpsR)) <| T.reb (H' := [_, _]) (loc_ex fun _ => loc_ex fun _ => loc_ex fun _ => loc_ex fun _ => loc_and (loc_blks loc_BfR _)) (Wk.blks ops_open _) ?_
 refine T.ex (fun _ => loc_ex fun _ => loc_ex fun _ => loc_ex fun _ => loc_and (loc_blks loc_BfR _)) ?_
 intro ob
 refine T.ex (fun _ => loc_ex fun _ => loc_ex fun _ => loc_and (loc_blks loc_BfR _)) ?_
 intro pre
 refine T.ex (fun _ => loc_ex fun _ => loc_and (loc_blks loc_BfR _)) ?_
 intro orest
 refine T.ex (fun _ => loc_and (loc_blks loc_BfR _)) ?_
 intro oc
 refine T.and (fun _ => loc_blks loc_BfR _) ?_
 rintro ⟨rfl, hoc⟩
 refine T.bks loc_BfR <| T.seq <| tx [0] (ct [0]) Z Z <| xbx Z Z Z Z (fun _ => pend0) (fun b0 => ?_)
 refine X.nil <| T.seq <| tx [0,1,2,3,4,5] (ct [5]) Z Z <| xld Z Z Z o83 .z Z <| xld Z Z Z o83 .z Z <| xmf Z Z Z Z <| xnc Z Z Z <| xfa Z Z Z f133_14 <| xst Z Z Z Z o131 Z (.s .z) Z (.s .z) pend0 <| X.nil <| T.seq <| T.seq <| tx [0,1,2,3,4,5] nf Z Z ?_
 refine xld Z Z Z o83 .z Z <| xnc Z Z Z <| xfa Z Z Z f133_2 <| xld Z Z Z o66 (.s .z) Z <| xlen Z Z Z u66_dSlice <| xcm (c := false) Z Z Z Z Z (beq_eq_false_iff_ne.2 (by simp only [List.length_cons]; omega)) <| X.nil <| T.no Z <| T.skip <| T.seq ?_
 refine T.any (ord := [0, 1, 2, 3, 4, 5, 6, 7, 8, 9, 10, 11, 12, 13, 14, 15, 16, 17, 18]) (lo := (fun i => [1, 12].contains i)) (ef := (fun i => [15, 18].contains i)) (by kernel_rfl) (fun _ h => h.drew) <| xld Z Z Z o83 .z Z <| xld Z Z Z o83 .z Z ?_
 refine xld Z Z Z o83 .z Z <| xnc Z Z Z <| xfa Z Z Z f133_2 <| xld Z Z Z o66 (.s .z) Z <| xix Z Z Z Z s66 ⟨Int.le_refl 0, by simp only [List.length_cons]; omega⟩ <| xldav Z Z Z m65 (.s (.s (.s .z))) slc_op Z <| xld Z Z Z o83 .z Z <| xnc Z Z Z ?_
 refine xfa Z Z Z f133_2 <| xld Z Z Z o66 (.s .z) Z <| xslo Z Z Z Z s66 (by simp) hoc <| xnc Z Z Z <| xfa Z Z Z f133_3 <| xsta Z Z Z Z m65 Z Z (.s .z) (Nat.le_of_ble_eq_true Z) (.s .z) (pxslo Z Z Z s66 (by simp) hoc (pxld Z Z o83 .z Z pend0)) <| xnc Z Z Z ?_
 refine xfa Z Z Z f133_2 <| xst Z Z Z Z o66 Z (.s .z) Z (.s .z) (pendsk (by kernel_rfl) (pendsk (by kernel_rfl) pend0)) <| X.nil <| T.seq <| T.seq <| tx [0,1,2,3] (ct [2,3]) Z Z <| xld Z Z Z o83 .z Z ?_
 refine xcr (H1 := [_]) (H2 := _ :: _) Z Z Z Z g91 Z (ct_may3 loc_BfR) loc_BfR <| xal Z Z z27 (fun _ => pend0) (fun b1 => ?_)
 refine xst Z Z Z Z o27 Z .z Z .z pend0 <| X.nil <| T.seq <| tx [0,1] nf Z Z <| xld Z Z Z o27 .z Z <| xcm (c := true) Z Z Z Z Z (bne_iff_ne.2 he) <| X.nil <| T.yes Z <| T.seq <| tx [0,1,2,3,4] (ct [4]) Z Z <| xld Z Z Z o83 (.s .z) Z <| xmf Z Z Z Z ?_
 refine xnc Z Z Z <| xfa Z Z Z f133_14 <| xst Z Z Z Z o131 Z (.s (.s .z)) Z (.s (.s .z)) pend0 <| X.nil <| T.ret0 Z (fun W D h => ?_)
 obtain ⟨D0, g1, g2⟩ := Wk.pick [2, 3, 1, 0, 4] (by decide) D W h
 obtain ⟨D1, h1, g3⟩ := Wk.blks (ops_next hoc) [_, _, _, _] D0 W g1
 have h2 : ∀ k, D1 k → D k := fun k hk => g2 k (g3 k hk)
 exact ⟨D1, ⟨rfl, rfl, _, _, _, _, _, _, _, ⟨rb, rest, m, rfl, hrm, _, _, rfl, rfl⟩, h1⟩, h2⟩
set_option maxHeartbeats 1000000 in
theorem ct_begin_made {C : Cx} {l : Wds} {d : Nat} {x : Mu} {ov : Value} {rb : Nat} {rest : List Value} {m bf : Nat} {alv lgv nv : Value} {pa pb pc : Int} {r : List MOp} (ho : x.ops = ⟨0, pa, pb, pc⟩ :: r) (he : (if (x.roots.length : Int) ≥ C.M.roots then 13 else 0 : Int) = 0) (hrm : x.roots.length + rest.length = m) : Cv C 62 [ptr d] l (MuPre C d x ov rb rest m bf alv lgv nv []) (.tuple #[]) l (MuR C d { x with op := ⟨0, pa, pb, pc⟩, ops := r, alloc := .new pa x.tint, next := .made }) := by
 obtain ⟨i, os, ⟨k0, k1, k2, k3⟩, roots, tasks, armed, still, tint, cycle, k, alloc, log, event, nx⟩ := x
 obtain rfl : os = ⟨0, pa, pb, pc⟩ :: r := ho
 simp only at he
 refine Ct.of (vs := [ptr d]) Tryz.func62 rfl Tryz.ntmps62 (by simp) (loc_blks (loc_sep loc_BfR loc_OpsR) _) ?_
 intro w0 D0
 refine T.conv (fun w h => Sy.opens (H2 := [_, _]) h (loc_sep loc_BfR loc_OpsR)) <| T.reb (H' := [_, _]) (loc_ex fun _ => loc_ex fun _ => loc_ex fun _ => loc_ex fun _ => loc_and (loc_blks loc_BfR _)) (Wk.blks ops_open _) ?_
 refine T.ex (fun _ => loc_ex fun _ => loc_ex fun _ => loc_ex fun _ => loc_and (loc_blks loc_BfR _)) ?_
 intro ob
 refine T.ex (fun _ => loc_ex fun _ => loc_ex fun _ => loc_and (loc_blks loc_BfR _)) ?_
 intro pre
 refine T.ex (fun _ => loc_ex fun _ => loc_and (loc_blks loc_BfR _)) ?_
 intro orest
 refine T.ex (fun _ => loc_and (loc_blks loc_BfR _)) ?_
 intro oc
 refine T.and (fun _ => loc_blks loc_BfR _) ?_
 rintro ⟨rfl, hoc⟩
 refine T.bks loc_BfR <| T.seq <| tx [0] (ct [0]) Z Z <| xbx Z Z Z Z (fun _ => pend0) (fun b0 => ?_)
 refine X.nil <| T.seq <| tx [0,1,2,3,4,5] (ct [5]) Z Z <| xld Z Z Z o83 .z Z <| xld Z Z Z o83 .z Z <| xmf Z Z Z Z <| xnc Z Z Z <| xfa Z Z Z f133_14 <| xst Z Z Z Z o131 Z (.s .z) Z (.s .z) pend0 <| X.nil <| T.seq <| T.seq <| tx [0,1,2,3,4,5] nf Z Z ?_
 refine xld Z Z Z o83 .z Z <| xnc Z Z Z <| xfa Z Z Z f133_2 <| xld Z Z Z o66 (.s .z) Z <| xlen Z Z Z u66_dSlice <| xcm (c := false) Z Z Z Z Z (beq_eq_false_iff_ne.2 (by simp only [List.length_cons]; omega)) <| X.nil <| T.no Z <| T.skip <| T.seq ?_
 refine T.any (ord := [0, 1, 2, 3, 4, 5, 6, 7, 8, 9, 10, 11, 12, 13, 14, 15, 16, 17, 18]) (lo := (fun i => [1, 12].contains i)) (ef := (fun i => [15, 18].contains i)) (by kernel_rfl) (fun _ h => h.drew) <| xld Z Z Z o83 .z Z <| xld Z Z Z o83 .z Z ?_
 refine xld Z Z Z o83 .z Z <| xnc Z Z Z <| xfa Z Z Z f133_2 <| xld Z Z Z o66 (.s .z) Z <| xix Z Z Z Z s66 ⟨Int.le_refl 0, by simp only [List.length_cons]; omega⟩ <| xldav Z Z Z m65 (.s (.s (.s .z))) slc_op Z <| xld Z Z Z o83 .z Z <| xnc Z Z Z ?_
 refine xfa Z Z Z f133_2 <| xld Z Z Z o66 (.s .z) Z <| xslo Z Z Z Z s66 (by simp) hoc <| xnc Z Z Z <| xfa Z Z Z f133_3 <| xsta Z Z Z Z m65 Z Z (.s .z) (Nat.le_of_ble_eq_true Z) (.s .z) (pxslo Z Z Z s66 (by simp) hoc (pxld Z Z o83 .z Z pend0)) <| xnc Z Z Z ?_
 refine xfa Z Z Z f133_2 <| xst Z Z Z Z o66 Z (.s .z) Z (.s .z) (pendsk (by kernel_rfl) (pendsk (by kernel_rfl) pend0)) <| X.nil <| T.seq <| T.seq <| tx [0,1,2,3] (ct [2,3]) Z Z <| xld Z Z Z o83 .z Z ?_
 refine xcr (H1 := [_]) (H2 := _ :: _) Z Z Z Z g91 Z (ct_may0 loc_BfR) loc_BfR <| xal Z Z z27 (fun _ => pend0) (fun b1 => ?_)
 refine xst Z Z Z Z o27 Z .z Z .z pend0 <| X.nil <| T.seq <| tx [0,1] nf Z Z <| xld Z Z Z o27 .z Z <| xcm (c := false) Z Z Z Z Z (by rw [he]; rfl) <| X.nil <| T.no Z <| T.skip <| T.seq ?_
 refine T.any (ord := [0, 2, 3, 5, 6, 8, 9, 11, 12, 14, 15, 18, 19, 20, 21, 22, 1, 7, 10, 13, 16, 4, 17, 23, 24, 25, 26]) (lo := (fun i => [0, 2, 3, 5, 6, 8, 9, 11, 12, 14, 15, 18, 19, 20, 21, 22, 7, 10, 13, 16].contains i)) (ef := (fun i => [1, 4, 26].contains i)) (by kernel_rfl) (fun _ h => h.drew) ?_
 refine xld Z Z Z o83 (.s .z) Z <| xld Z Z Z o83 (.s .z) Z <| xmf Z Z Z Z <| xld Z Z Z o83 (.s .z) Z <| xmf Z Z Z Z <| xld Z Z Z o83 (.s .z) Z <| xmf Z Z Z Z <| xld Z Z Z o83 (.s .z) Z <| xmf Z Z Z Z <| xld Z Z Z o83 (.s .z) Z <| xmf Z Z Z Z ?_
 refine xld Z Z Z o83 (.s .z) Z <| xnc Z Z Z <| xfa Z Z Z f133_3 <| xfa Z Z Z f65_0 <| xld Z Z Z o3 (.s (.s .z)) Z ?_
 refine xmm 0 Z Z (fun _ => (pxld Z Z o3 (.s (.s .z)) Z (pxfa Z Z f65_0 (pxfa Z Z f133_3 (pxnc Z Z (pxld Z Z o83 (.s .z) Z (pxmf Z Z Z (pxld Z Z o83 (.s .z) Z (pxmf Z Z Z (pxld Z Z o83 (.s .z) Z (pxmf Z Z Z (pxld Z Z o83 (.s .z) Z (pxmf Z Z Z (pxld Z Z o83 (.s .z) Z (pxmf Z Z Z (pxld Z Z o83 (.s .z) Z (pxld Z Z o83 (.s .z) Z pend0))))))))))))))))) (fun mp => ?_)
 refine xmo (kt := 3) loc_BfR Z Z Z Z Z mp169 (by decide) <| xmo (kt := 3) loc_BfR Z Z Z Z Z mp169 (by decide) <| xmo (kt := 3) loc_BfR Z Z Z Z Z mp169 (by decide) <| xmo (kt := 3) loc_BfR Z Z Z Z Z mp169 (by decide) ?_
 refine xmi (kt := 3) loc_BfR Z Z Z Z Z mp169 (pxmo (kt := 3) loc_BfR Z Z Z Z mp169 (by decide) (pxmo (kt := 3) loc_BfR Z Z Z Z mp169 (by decide) (pxmo (kt := 3) loc_BfR Z Z Z Z mp169 (by decide) (pxmo (kt := 3) loc_BfR Z Z Z Z mp169 (by decide) (pxld Z Z o3 (.s (.s .z)) Z (pxfa Z Z f65_0 (pxfa Z Z f133_3 (pxnc Z Z (pxld Z Z o83 (.s .z) Z (pxmf Z Z Z (pxld Z Z o83 (.s .z) Z (pxmf Z Z Z (pxld Z Z o83 (.s .z) Z (pxmf Z Z Z (pxld Z Z o83 (.s .z) Z (pxmf Z Z Z (pxld Z Z o83 (.s .z) Z (pendsk (by kernel_rfl) (pendsk (by kernel_rfl) (pxld Z Z o83 (.s .z) Z pend0)))))))))))))))))))) ?_
 refine xmv Z Z Z <| xlu (kt := 3) Z Z Z Z mp169 <| xnc Z Z Z <| xfa Z Z Z f133_14 ?_
 refine xst Z Z Z Z o131 Z (.s (.s .z)) Z (.s (.s .z)) (pendsk (by kernel_rfl) (pendsk (by kernel_rfl) (pendsk (by kernel_rfl) (pendsk (by kernel_rfl) (pendsk (by kernel_rfl) (pendsk (by kernel_rfl) (pendsk (by kernel_rfl) (pendsk (by kernel_rfl) (pendsk (by kernel_rfl) (pendsk (by kernel_rfl) (pendsk (by kernel_rfl) (pendsk (by kernel_rfl) (pendsk (by kernel_rfl) (pendsk (by kernel_rfl) (pendsk (by kernel_rfl) (pendsk (by kernel_rfl) (pendsk (by kernel_rfl) (pendsk (by kernel_rfl) (pendsk (by kernel_rfl) (pendsk (by kernel_rfl) pend0)))))))))))))))))))) ?_
 refine X.nil <| T.seq <| T.reb (H' := [_, _, _, _, _]) loc_BfR (Wk.blks Wk.mapA _) <| tx [0,1,2,3,4,5] nf Z Z <| xld Z Z Z o83 (.s .z) Z <| xnc Z Z Z <| xfa Z Z Z f133_3 <| xfa Z Z Z f65_0 <| xld Z Z Z o3 (.s (.s .z)) Z <| xcm (c := true) Z Z Z Z Z (Z) ?_
 refine X.nil <| T.yes Z <| T.any (ord := [0, 1, 2, 3, 4, 5, 6, 7, 8, 9, 10, 11, 12, 13, 14, 15, 16, 17]) (lo := (fun i => [0].contains i)) (ef := (fun i => [14, 17].contains i)) (by kernel_rfl) (fun _ h => h.drew) <| xld Z Z Z o83 (.s .z) Z ?_
 refine xld Z Z Z o83 (.s .z) Z <| xnc Z Z Z <| xfa Z Z Z f133_0 <| xld Z Z Z o39 (.s (.s .z)) Z <| xld Z Z Z o83 (.s .z) Z <| xnc Z Z Z <| xfa Z Z Z f133_3 <| xfa Z Z Z f65_1 <| xld Z Z Z o3 (.s (.s .z)) Z <| xld Z Z Z o83 (.s .z) Z <| xnc Z Z Z ?_
 refine xfa Z Z Z f133_8 <| xld Z Z Z o90 (.s (.s .z)) Z <| xcnw Z Z Z Z g98 (Cn.fr ct_hpNew loc_BfR) (fun _ => loc_sep loc_HpR loc_BfR) (fun _ => (pxld Z Z o83 (.s .z) Z pend0)) (fun q2 => ?_)
 refine xnc Z Z Z <| xfa Z Z Z f133_11 <| xst Z Z Z Z o128 Z (.s (.s .z)) Z (.s (.s .z)) (pendsk (by kernel_rfl) pend0) <| X.nil <| T.end0 Z (fun W D h => ?_)
 obtain ⟨D0, g1, g2⟩ := Wk.pick [2, 3, 4] (by decide) D W h
 obtain ⟨D1, h1, g3⟩ := Wk.blks (ops_next hoc) [_, _] D0 W g1
 have h2 : ∀ k, D1 k → D k := fun k hk => g2 k (g3 k hk)
 rw [sep_assoc] at h1
 exact ⟨D1, ⟨rfl, rfl, _, _, _, _, _, _, _, ⟨rb, rest, m, rfl, hrm, rfl, _, rfl, rfl⟩, h1⟩, h2⟩
set_option maxHeartbeats 1000000 in
theorem ct_begin_pop {C : Cx} {l : Wds} {d : Nat} {x : Mu} {ov : Value} {rb : Nat} {rest : List Value} {m bf : Nat} {alv lgv nv : Value} {pa pb pc : Int} {r : List MOp} (ho : x.ops = ⟨3, pa, pb, pc⟩ :: r) (he : (if x.roots.length = 0 then 1 else 0 : Int) = 0) (hrm : x.roots.length + rest.length = m) : Cv C 62 [ptr d] l (MuPre C d x ov rb rest m bf alv lgv nv []) (.tuple #[]) l (MuR C d { x with op := ⟨3, pa, pb, pc⟩, ops := r, next := .pop }) := by
 obtain ⟨i, os, ⟨k0, k1, k2, k3⟩, roots, tasks, armed, still, tint, cycle, k, alloc, log, event, nx⟩ := x
 obtain rfl : os = ⟨3, pa, pb, pc⟩ :: r := ho
 simp only at he
 refine Ct.of (vs := [ptr d]) Tryz.func62 rfl Tryz.ntmps62 (by simp) (loc_blks (loc_sep loc_BfR loc_OpsR) _) ?_
 intro w0 D0
 refine T.conv (fun w h => Sy.opens (H2 := [_, _]) h (loc_sep loc_BfR loc_OpsR)) <| T.reb (H' := [_, _]) (loc_ex fun _ => loc_ex fun _ => loc_ex fun _ => loc_ex fun _ => loc_and (loc_blks loc_BfR _)) (Wk.blks ops_open _) ?_
 refine T.ex (fun _ => loc_ex fun _ => loc_ex fun _ => loc_ex fun _ => loc_and (loc_blks loc_BfR _)) ?_
 intro ob
 refine T.ex (fun _ => loc_ex fun _ => loc_ex fun _ => loc_and (loc_blks loc_BfR _)) ?_
 intro pre
 refine T.ex (fun _ => loc_ex fun _ => loc_and (loc_blks loc_BfR _)) ?_
 intro orest
 refine T.ex (fun _ => loc_and (loc_blks loc_BfR _)) ?_
 intro oc
 refine T.and (fun _ => loc_blks loc_BfR _) ?_
 rintro ⟨rfl, hoc⟩
 refine T.bks loc_BfR <| T.seq <| tx [0] (ct [0]) Z Z <| xbx Z Z Z Z (fun _ => pend0) (fun b0 => ?_)
 refine X.nil <| T.seq <| tx [0,1,2,3,4,5] (ct [5]) Z Z <| xld Z Z Z o83 .z Z <| xld Z Z Z o83 .z Z <| xmf Z Z Z Z <| xnc Z Z Z <| xfa Z Z Z f133_14 <| xst Z Z Z Z o131 Z (.s .z) Z (.s .z) pend0 <| X.nil <| T.seq <| T.seq <| tx [0,1,2,3,4,5] nf Z Z ?_
 refine xld Z Z Z o83 .z Z <| xnc Z Z Z <| xfa Z Z Z f133_2 <| xld Z Z Z o66 (.s .z) Z <| xlen Z Z Z u66_dSlice <| xcm (c := false) Z Z Z Z Z (beq_eq_false_iff_ne.2 (by simp only [List.length_cons]; omega)) <| X.nil <| T.no Z <| T.skip <| T.seq ?_
 refine T.any (ord := [0, 1, 2, 3, 4, 5, 6, 7, 8, 9, 10, 11, 12, 13, 14, 15, 16, 17, 18]) (lo := (fun i => [1, 12].contains i)) (ef := (fun i => [15, 18].contains i)) (by kernel_rfl) (fun _ h => h.drew) <| xld Z Z Z o83 .z Z <| xld Z Z Z o83 .z Z ?_
 refine xld Z Z Z o83 .z Z <| xnc Z Z Z <| xfa Z Z Z f133_2 <| xld Z Z Z o66 (.s .z) Z <| xix Z Z Z Z s66 ⟨Int.le_refl 0, by simp only [List.length_cons]; omega⟩ <| xldav Z Z Z m65 (.s (.s (.s .z))) slc_op Z <| xld Z Z Z o83 .z Z <| xnc Z Z Z ?_
 refine xfa Z Z Z f133_2 <| xld Z Z Z o66 (.s .z) Z <| xslo Z Z Z Z s66 (by simp) hoc <| xnc Z Z Z <| xfa Z Z Z f133_3 <| xsta Z Z Z Z m65 Z Z (.s .z) (Nat.le_of_ble_eq_true Z) (.s .z) (pxslo Z Z Z s66 (by simp) hoc (pxld Z Z o83 .z Z pend0)) <| xnc Z Z Z ?_
 refine xfa Z Z Z f133_2 <| xst Z Z Z Z o66 Z (.s .z) Z (.s .z) (pendsk (by kernel_rfl) (pendsk (by kernel_rfl) pend0)) <| X.nil <| T.seq <| T.seq <| tx [0,1,2,3] (ct [2,3]) Z Z <| xld Z Z Z o83 .z Z ?_
 refine xcr (H1 := [_]) (H2 := _ :: _) Z Z Z Z g91 Z (ct_may3 loc_BfR) loc_BfR <| xal Z Z z27 (fun _ => pend0) (fun b1 => ?_)
 refine xst Z Z Z Z o27 Z .z Z .z pend0 <| X.nil <| T.seq <| tx [0,1] nf Z Z <| xld Z Z Z o27 .z Z <| xcm (c := false) Z Z Z Z Z (by rw [he]; rfl) <| X.nil <| T.no Z <| T.skip <| T.seq ?_
 refine T.any (ord := [0, 2, 3, 5, 6, 8, 9, 11, 12, 14, 15, 18, 19, 20, 21, 22, 1, 4, 7, 10, 16, 13, 17, 23, 24, 25, 26]) (lo := (fun i => [0, 2, 3, 5, 6, 8, 9, 11, 12, 14, 15, 18, 19, 20, 21, 22, 4, 7, 10, 16].contains i)) (ef := (fun i => [1, 13, 26].contains i)) (by kernel_rfl) (fun _ h => h.drew) ?_
 refine xld Z Z Z o83 (.s .z) Z <| xld Z Z Z o83 (.s .z) Z <| xmf Z Z Z Z <| xld Z Z Z o83 (.s .z) Z <| xmf Z Z Z Z <| xld Z Z Z o83 (.s .z) Z <| xmf Z Z Z Z <| xld Z Z Z o83 (.s .z) Z <| xmf Z Z Z Z <| xld Z Z Z o83 (.s .z) Z <| xmf Z Z Z Z ?_
 refine xld Z Z Z o83 (.s .z) Z <| xnc Z Z Z <| xfa Z Z Z f133_3 <| xfa Z Z Z f65_0 <| xld Z Z Z o3 (.s (.s .z)) Z ?_
 refine xmm 3 Z Z (fun _ => (pxld Z Z o3 (.s (.s .z)) Z (pxfa Z Z f65_0 (pxfa Z Z f133_3 (pxnc Z Z (pxld Z Z o83 (.s .z) Z (pxmf Z Z Z (pxld Z Z o83 (.s .z) Z (pxmf Z Z Z (pxld Z Z o83 (.s .z) Z (pxmf Z Z Z (pxld Z Z o83 (.s .z) Z (pxmf Z Z Z (pxld Z Z o83 (.s .z) Z (pxmf Z Z Z (pxld Z Z o83 (.s .z) Z (pxld Z Z o83 (.s .z) Z pend0))))))))))))))))) (fun mp => ?_)
 refine xmo (kt := 3) loc_BfR Z Z Z Z Z mp169 (by decide) <| xmo (kt := 3) loc_BfR Z Z Z Z Z mp169 (by decide) <| xmo (kt := 3) loc_BfR Z Z Z Z Z mp169 (by decide) <| xmo (kt := 3) loc_BfR Z Z Z Z Z mp169 (by decide) ?_
 refine xmi (kt := 3) loc_BfR Z Z Z Z Z mp169 (pxmo (kt := 3) loc_BfR Z Z Z Z mp169 (by decide) (pxmo (kt := 3) loc_BfR Z Z Z Z mp169 (by decide) (pxmo (kt := 3) loc_BfR Z Z Z Z mp169 (by decide) (pxmo (kt := 3) loc_BfR Z Z Z Z mp169 (by decide) (pxld Z Z o3 (.s (.s .z)) Z (pxfa Z Z f65_0 (pxfa Z Z f133_3 (pxnc Z Z (pxld Z Z o83 (.s .z) Z (pxmf Z Z Z (pxld Z Z o83 (.s .z) Z (pendsk (by kernel_rfl) (pendsk (by kernel_rfl) (pxmf Z Z Z (pxld Z Z o83 (.s .z) Z (pxmf Z Z Z (pxld Z Z o83 (.s .z) Z (pxmf Z Z Z (pxld Z Z o83 (.s .z) Z (pxld Z Z o83 (.s .z) Z pend0)))))))))))))))))))) ?_
 refine xmv Z Z Z <| xlu (kt := 3) Z Z Z Z mp169 <| xnc Z Z Z <| xfa Z Z Z f133_14 ?_
 refine xst Z Z Z Z o131 Z (.s (.s .z)) Z (.s (.s .z)) (pendsk (by kernel_rfl) (pendsk (by kernel_rfl) (pendsk (by kernel_rfl) (pendsk (by kernel_rfl) (pendsk (by kernel_rfl) (pendsk (by kernel_rfl) (pendsk (by kernel_rfl) (pendsk (by kernel_rfl) (pendsk (by kernel_rfl) (pendsk (by kernel_rfl) (pendsk (by kernel_rfl) (pendsk (by kernel_rfl) (pendsk (by kernel_rfl) (pendsk (by kernel_rfl) (pendsk (by kernel_rfl) (pendsk (by kernel_rfl) (pendsk (by kernel_rfl) (pendsk (by kernel_rfl) (pendsk (by kernel_rfl) (pendsk (by kernel_rfl) pend0)))))))))))))))))))) ?_
 refine X.nil <| T.seq <| T.reb (H' := [_, _, _, _, _]) loc_BfR (Wk.blks Wk.mapA _) <| tx [0,1,2,3,4,5] nf Z Z <| xld Z Z Z o83 (.s .z) Z <| xnc Z Z Z <| xfa Z Z Z f133_3 <| xfa Z Z Z f65_0 <| xld Z Z Z o3 (.s (.s .z)) Z <| xcm (c := false) Z Z Z Z Z (Z) ?_
 refine X.nil <| T.no Z <| T.skip <| T.end0 Z (fun W D h => ?_)
 obtain ⟨D0, g1, g2⟩ := Wk.pick [2, 3, 4] (by decide) D W h
 obtain ⟨D1, h1, g3⟩ := Wk.blks (ops_next hoc) [_, _] D0 W g1
 have h2 : ∀ k, D1 k → D k := fun k hk => g2 k (g3 k hk)
 exact ⟨D1, ⟨rfl, rfl, _, _, _, _, _, _, _, ⟨rb, rest, m, rfl, hrm, rfl, rfl⟩, h1⟩, h2⟩
theorem f133_12 : fld 133 12 15 = true := by kernel_rfl
theorem f133_5 : fld 133 5 8 = true := by kernel_rfl
theorem f133_9 : fld 133 9 12 = true := by kernel_rfl
theorem g112 : fnB 112 = true := by kernel_rfl
theorem g113 : fnB 113 = true := by kernel_rfl
theorem g149 : fnB 149 = true := by kernel_rfl
theorem g151 : fnB 151 = true := by kernel_rfl
theorem g152 : fnB 152 = true := by kernel_rfl
theorem g153 : fnB 153 = true := by kernel_rfl
theorem g178 : fnB 178 = true := by kernel_rfl
theorem g52 : fnB 52 = true := by kernel_rfl
theorem g62 : fnB 62 = true := by kernel_rfl
theorem o129 : one 129 = true := by kernel_rfl
theorem Mu.may0 {M : MapM} {x : Mu} (h : x.op.kind = 0) : x.may M = if (x.roots.length : Int) ≥ M.roots then 13 else 0 := by unfold Mu.may; rw [if_pos h]
theorem Mu.may3 {M : MapM} {x : Mu} (h : x.op.kind = 3) : x.may M = if x.roots.length = 0 then 1 else 0 := by
 unfold Mu.may
 rw [if_neg (by omega), if_neg (by omega), if_neg (by omega), if_pos h]
theorem ct_begin {C : Cx} {l : Wds} {d : Nat} {x : Mu} {ov : Value} {rb : Nat} {rest : List Value} {m bf : Nat} {alv lgv nv : Value} (hx : ∀ o ∈ x.ops, o.kind = 0 ∨ o.kind = 3) (hrm : x.roots.length + rest.length = m) : Cv C 62 [ptr d] l (MuPre C d x ov rb rest m bf alv lgv nv []) (.tuple #[]) l (MuR C d (x.begin_ C.M)) := by
 cases h : x.ops with
 | nil =>
  have e : x.begin_ C.M = { x with next := .safe } := by unfold Mu.begin_; rw [h]
  rw [e]
  exact ct_begin0 h hrm
 | cons o r =>
  obtain ⟨kd, pa, pb, pc⟩ := o
  have hb : x.begin_ C.M = if Mu.may C.M { x with op := ⟨kd, pa, pb, pc⟩, ops := r } ≠ 0 then { x with op := ⟨kd, pa, pb, pc⟩, ops := r, next := .fail (Mu.may C.M { x with op := ⟨kd, pa, pb, pc⟩, ops := r }) }
    else if kd = 0 then { x with op := ⟨kd, pa, pb, pc⟩, ops := r, alloc := .new pa x.tint, next := .made } else { x with op := ⟨kd, pa, pb, pc⟩, ops := r, next := Mu.first { x with op := ⟨kd, pa, pb, pc⟩, ops := r } } := by
   unfold Mu.begin_
   rw [h]
  rw [hb]
  rcases hx ⟨kd, pa, pb, pc⟩ (by rw [h]; simp) with hk | hk
  ·obtain rfl : kd = 0 := hk
   have hm0 := Mu.may0 (M := C.M) (x := { x with op := ⟨0, pa, pb, pc⟩, ops := r }) rfl
   by_cases he : (if (x.roots.length : Int) ≥ C.M.roots then 13 else 0 : Int) = 0
   ·rw [if_neg (by rw [hm0]; exact fun h => h he), if_pos rfl]
    exact ct_begin_made h he hrm
   ·rw [if_pos (by rw [hm0]; exact he), hm0]
    exact ct_begin0f h he hrm
  ·obtain rfl : kd = 3 := hk
   have hm3 := Mu.may3 (M := C.M) (x := { x with op := ⟨3, pa, pb, pc⟩, ops := r }) rfl
   by_cases he : (if x.roots.length = 0 then 1 else 0 : Int) = 0
   ·rw [if_neg (by rw [hm3]; exact fun h => h he), if_neg (by decide)]
    exact ct_begin_pop h he hrm
   ·rw [if_pos (by rw [hm3]; exact he), hm3]
    exact ct_begin3f h he hrm
set_option maxHeartbeats 1000000 in
theorem ct_Tasks0 {C : Cx} {l : Wds} {bf : Nat} {ts : List Int} (h0 : ts = []) : Ce (α := Option Addr × Nat) C 151 [ptr bf] l (BfR C bf ts) (fun a => .slice a.1 ts.length a.2) l (fun _ => True) (fun _ => BfR C bf ts) := by
 refine Ct.of (vs := [ptr bf]) Tryz.func151 rfl Tryz.ntmps151 (by simp) loc_BfR ?_
 intro w0 D0
 refine T.ex (fun _ => loc_ex fun _ => loc_and (loc_blks loc_emp _)) ?_
 intro tv
 refine T.ex (fun _ => loc_and (loc_blks loc_emp _)) ?_
 intro B
 refine T.and (fun _ => loc_blks loc_emp _) ?_
 intro hs
 have hs' := hs
 obtain ⟨rfl, -, rfl⟩ := hs.resolve_right (fun ⟨_, _, _, _, h, _⟩ => h h0)
 subst h0
 refine T.conv (fun w h => Sy.opens (H2 := [_]) h loc_emp) <| T.seq <| tx [0] nf Z Z <| xas Z Z Z <| X.nil <| T.seq <| T.seq <| tx [0,1] nf Z Z <| xmv Z Z Z <| xnp Z Z Z Z u126_dPtr <| X.nil <| T.no Z <| T.skip <| T.seq <| tx [0,1,2,3,4,5] nf Z Z ?_
 refine xmv Z Z Z <| xnc Z Z Z <| xfa Z Z Z f166_1 <| xld Z Z Z o43 .z Z <| xcq Z Z Z Z g52 (ct_clonez52) loc_emp <| xas Z Z Z <| X.nil <| T.ret1 Z (fun W D h => ?_)
 exact ⟨D, ⟨(none, 0), rfl, trivial, rfl, _, _, hs', h⟩, fun _ hk => hk⟩
set_option maxHeartbeats 1000000 in
theorem ct_Tasks1 {C : Cx} {l : Wds} {bf : Nat} {ts : List Int} (h0 : ts ≠ []) (hl : ts.length ≤ 4) : Ce (α := Option Addr × Nat) C 151 [ptr bf] l (BfR C bf ts) (fun a => .slice a.1 ts.length a.2) l (fun _ => True) (fun _ => BfR C bf ts) := by
 refine Ct.of (vs := [ptr bf]) Tryz.func151 rfl Tryz.ntmps151 (by simp) loc_BfR ?_
 intro w0 D0
 refine T.ex (fun _ => loc_ex fun _ => loc_and (loc_blks loc_emp _)) ?_
 intro tv
 refine T.ex (fun _ => loc_and (loc_blks loc_emp _)) ?_
 intro B
 refine T.and (fun _ => loc_blks loc_emp _) ?_
 intro hs
 have hs' := hs
 obtain ⟨tb, rs, cm, rfl, -, rfl, -, -⟩ := hs.resolve_left (fun h => h0 h.2.1)
 have hlen : 0 < ts.length ∧ ts.length ≤ 1000000 := ⟨List.length_pos_iff.2 h0, by omega⟩
 refine T.conv (fun w h => Sy.opens (H2 := [_, _]) h loc_emp) <| T.seq <| tx [0] nf Z Z <| xas Z Z Z <| X.nil <| T.seq <| T.seq <| tx [0,1] nf Z Z <| xmv Z Z Z <| xnp Z Z Z Z u126_dPtr <| X.nil <| T.no Z <| T.skip <| T.seq <| tx [0,1,2,3,4,5] (ct [4]) Z Z ?_
 refine xmv Z Z Z <| xnc Z Z Z <| xfa Z Z Z f166_1 <| xld Z Z Z o43 .z Z ?_
 refine xcx (H1 := [_]) (H2 := [_]) (B := fun (a : Nat × List Value × Nat) => [⟨a.1, 90, u64s ts ++ a.2.1⟩, ⟨tb, 90, u64s ts ++ rs⟩]) Z Z Z Z g52 Z (ct_clone52 (news := u64s ts) (rest := rs) hlen (by simp [u64s])) (fun _ => loc_emp) (fun a0 ha0 => pend0) (fun a0 ha0 => ?_)
 refine xas Z Z Z <| X.nil <| T.ret1 Z (fun W D h => ?_)
 obtain ⟨D1, h1, h2⟩ := blks_pick0 [0, 2] (by decide) h
 exact ⟨D1, ⟨(some _, _), rfl, trivial, rfl, _, _, hs', h1⟩, h2⟩
theorem ct_Tasks {C : Cx} {l : Wds} {bf : Nat} {ts : List Int} (hl : ts.length ≤ 4) : Ce (α := Option Addr × Nat) C 151 [ptr bf] l (BfR C bf ts) (fun a => .slice a.1 ts.length a.2) l (fun _ => True) (fun _ => BfR C bf ts) := by
 by_cases h0 : ts = []
 ·exact ct_Tasks0 h0
 ·exact ct_Tasks1 h0 hl
set_option maxHeartbeats 1000000 in
theorem ct_does_begin_ {C : Cx} {l : Wds} {d : Nat} {x : Mu} {ov : Value} {rb : Nat} {rest : List Value} {m bf : Nat} {alv lgv nv : Value} {lg : Bu} {q : Nat} (hrm : x.roots.length + rest.length = m) : Cv C 152 [ptr d, ptr q, fm 62 d] l (blks [⟨d, 133, x.cs C ov (slv rb x.roots.length m) bf alv lgv nv⟩, rtB rb x rest] (sep (BuR C q ⟨lg, bf, x.tasks⟩) (OpsR ov x.ops))) (.tuple #[]) l (MuR C d { x with log := lg, next := .does .begin_ }) := by
 obtain ⟨i, os, ⟨k0, k1, k2, k3⟩, roots, tasks, armed, still, tint, cycle, k, alloc, log, event, nx⟩ := x
 refine Ct.of (vs := [ptr d, ptr q, fm 62 d]) Tryz.func152 rfl Tryz.ntmps152 (by simp) (loc_blks (loc_sep loc_BuR loc_OpsR) _) ?_
 intro w0 D0
 refine T.conv (fun w h => Sy.opens (H2 := [_, _]) h (loc_sep loc_BuR loc_OpsR)) <| T.seq <| tx [0,1] (ct [0,1]) Z Z <| xbx Z Z Z Z (fun _ => pend0) (fun b0 => ?_)
 refine xbx Z Z Z Z (fun _ => pend0) (fun b1 => ?_)
 refine X.nil <| T.seq <| tx [0,1,2,3,4] (ct [4]) Z Z <| xld Z Z Z o83 (.s .z) Z <| xmv Z Z Z <| xnc Z Z Z <| xfa Z Z Z f133_12 <| xst Z Z Z Z o129 Z (.s (.s .z)) Z (.s (.s .z)) pend0 <| X.nil <| tx [0,1,2,3,4] (ct [4]) Z Z <| xld Z Z Z o83 (.s .z) Z ?_
 refine xmf Z Z Z Z <| xnc Z Z Z <| xfa Z Z Z f133_14 <| xst Z Z Z Z o131 Z (.s (.s .z)) Z (.s (.s .z)) pend0 <| X.nil <| T.end0 Z (fun W D h => ?_)
 obtain ⟨D1, h1, h2⟩ := blks_pick [2, 3, 1, 0] (by decide) h
 exact ⟨D1, ⟨rfl, rfl, _, _, _, _, _, _, _, ⟨rb, rest, m, rfl, hrm, b0, b1, _, q, _, rfl, rfl, ⟨rfl, rfl⟩, rfl⟩, h1⟩, h2⟩
set_option maxHeartbeats 1000000 in
theorem ct_does_look {C : Cx} {l : Wds} {d : Nat} {x : Mu} {ov : Value} {rb : Nat} {rest : List Value} {m bf : Nat} {alv lgv nv : Value} {lg : Bu} {q : Nat} (hrm : x.roots.length + rest.length = m) : Cv C 152 [ptr d, ptr q, fm 113 d] l (blks [⟨d, 133, x.cs C ov (slv rb x.roots.length m) bf alv lgv nv⟩, rtB rb x rest] (sep (BuR C q ⟨lg, bf, x.tasks⟩) (OpsR ov x.ops))) (.tuple #[]) l (MuR C d { x with log := lg, next := .does .look }) := by
 obtain ⟨i, os, ⟨k0, k1, k2, k3⟩, roots, tasks, armed, still, tint, cycle, k, alloc, log, event, nx⟩ := x
 refine Ct.of (vs := [ptr d, ptr q, fm 113 d]) Tryz.func152 rfl Tryz.ntmps152 (by simp) (loc_blks (loc_sep loc_BuR loc_OpsR) _) ?_
 intro w0 D0
 refine T.conv (fun w h => Sy.opens (H2 := [_, _]) h (loc_sep loc_BuR loc_OpsR)) <| T.seq <| tx [0,1] (ct [0,1]) Z Z <| xbx Z Z Z Z (fun _ => pend0) (fun b0 => ?_)
 refine xbx Z Z Z Z (fun _ => pend0) (fun b1 => ?_)
 refine X.nil <| T.seq <| tx [0,1,2,3,4] (ct [4]) Z Z <| xld Z Z Z o83 (.s .z) Z <| xmv Z Z Z <| xnc Z Z Z <| xfa Z Z Z f133_12 <| xst Z Z Z Z o129 Z (.s (.s .z)) Z (.s (.s .z)) pend0 <| X.nil <| tx [0,1,2,3,4] (ct [4]) Z Z <| xld Z Z Z o83 (.s .z) Z ?_
 refine xmf Z Z Z Z <| xnc Z Z Z <| xfa Z Z Z f133_14 <| xst Z Z Z Z o131 Z (.s (.s .z)) Z (.s (.s .z)) pend0 <| X.nil <| T.end0 Z (fun W D h => ?_)
 obtain ⟨D1, h1, h2⟩ := blks_pick [2, 3, 1, 0] (by decide) h
 exact ⟨D1, ⟨rfl, rfl, _, _, _, _, _, _, _, ⟨rb, rest, m, rfl, hrm, b0, b1, _, q, _, rfl, rfl, ⟨rfl, rfl⟩, rfl⟩, h1⟩, h2⟩
set_option maxHeartbeats 1000000 in
theorem ct_does_ackRoots {C : Cx} {l : Wds} {d : Nat} {x : Mu} {ov : Value} {rb : Nat} {rest : List Value} {m bf : Nat} {alv lgv nv : Value} {lg : Bu} {q bq : Nat} (hrm : x.roots.length + rest.length = m) : Cv C 152 [ptr d, ptr q, .func (.func 149) #[] #[ptr bq]] l (blks [⟨d, 133, x.cs C ov (slv rb x.roots.length m) bf alv lgv nv⟩, rtB rb x rest, ⟨bq, 83, [ptr d]⟩] (sep (BuR C q ⟨lg, bf, x.tasks⟩) (OpsR ov x.ops))) (.tuple #[]) l (MuR C d { x with log := lg, next := .does .ackRoots }) := by
 obtain ⟨i, os, ⟨k0, k1, k2, k3⟩, roots, tasks, armed, still, tint, cycle, k, alloc, log, event, nx⟩ := x
 refine Ct.of (vs := [ptr d, ptr q, .func (.func 149) #[] #[ptr bq]]) Tryz.func152 rfl Tryz.ntmps152 (by simp) (loc_blks (loc_sep loc_BuR loc_OpsR) _) ?_
 intro w0 D0
 refine T.conv (fun w h => Sy.opens (H2 := [_, _, _]) h (loc_sep loc_BuR loc_OpsR)) <| T.seq <| tx [0,1] (ct [0,1]) Z Z <| xbx Z Z Z Z (fun _ => pend0) (fun b0 => ?_)
 refine xbx Z Z Z Z (fun _ => pend0) (fun b1 => ?_)
 refine X.nil <| T.seq <| tx [0,1,2,3,4] (ct [4]) Z Z <| xld Z Z Z o83 (.s .z) Z <| xmv Z Z Z <| xnc Z Z Z <| xfa Z Z Z f133_12 <| xst Z Z Z Z o129 Z (.s (.s .z)) Z (.s (.s .z)) pend0 <| X.nil <| tx [0,1,2,3,4] (ct [4]) Z Z <| xld Z Z Z o83 (.s .z) Z ?_
 refine xmf Z Z Z Z <| xnc Z Z Z <| xfa Z Z Z f133_14 <| xst Z Z Z Z o131 Z (.s (.s .z)) Z (.s (.s .z)) pend0 <| X.nil <| T.end0 Z (fun W D h => ?_)
 obtain ⟨D1, h1, h2⟩ := blks_pick [2, 3, 1, 0, 4] (by decide) h
 exact ⟨D1, ⟨rfl, rfl, _, _, _, _, _, _, _, ⟨rb, rest, m, rfl, hrm, b0, b1, _, q, _, rfl, rfl, ⟨bq, rfl, rfl⟩, rfl⟩, h1⟩, h2⟩
set_option maxHeartbeats 1000000 in
theorem ct_logs1 {C : Cx} {l : Wds} {d : Nat} {x : Mu} {ov : Value} {rb : Nat} {rest : List Value} {m bf : Nat} {alv lgv nv : Value} {v c : Int} (hrm : x.roots.length + rest.length = m) (hv : C.M.Room v > 0) : Cv C 150 [ptr d, .int .i64 v, .int .u64 c, fm 113 d] l (MuPre C d x ov rb rest m bf alv lgv nv []) (.tuple #[]) l (MuR C d { x with log := .log v c, next := .does .look }) := by
 obtain ⟨i, os, ⟨k0, k1, k2, k3⟩, roots, tasks, armed, still, tint, cycle, k, alloc, log, event, nx⟩ := x
 refine Ct.of (vs := [ptr d, .int .i64 v, .int .u64 c, fm 113 d]) Tryz.func150 rfl Tryz.ntmps150 (by simp) (loc_blks (loc_sep loc_BfR loc_OpsR) _) ?_
 intro w0 D0
 refine T.conv (fun w h => Sy.opens (H2 := [_, _]) h (loc_sep loc_BfR loc_OpsR)) <| T.seq <| T.seq <| tx [0,1,2,3,4,5,6] nf Z Z <| xmv Z Z Z <| xnc Z Z Z <| xfa Z Z Z f133_0 <| xld Z Z Z o39 .z Z <| xmv Z Z Z ?_
 refine xcq Z Z Z Z g55 (ct_Room) (loc_sep loc_BfR loc_OpsR) <| xcm (c := false) Z Z Z Z Z (beq_eq_false_iff_ne.2 (by omega)) <| X.nil <| T.no Z <| T.skip <| tx [0,1,2,3,4,5,6,7,8,9] (ct [7,9]) Z Z <| xmv Z Z Z <| xmv Z Z Z <| xnc Z Z Z <| xfa Z Z Z f133_5 ?_
 refine xld Z Z Z o126 .z Z <| xmv Z Z Z <| xmv Z Z Z <| xcnw Z Z Z Z g178 (Cn.sepF (ct_buLog hv) loc_OpsR) (fun _ => loc_sep loc_BuR loc_OpsR) (fun _ => pend0) (fun q0 => ?_)
 refine xmv Z Z Z <| xcf (H1 := []) (H2 := [_, _]) Z Z Z Z g152 Z (ct_does_look hrm) loc_MuR pend0 <| X.nil <| T.end0 Z (fun W D h => ?_)
 exact ⟨D, ⟨rfl, rfl, h⟩, fun _ hk => hk⟩
set_option maxHeartbeats 1000000 in
theorem ct_logs0 {C : Cx} {l : Wds} {d : Nat} {x : Mu} {ov : Value} {rb : Nat} {rest : List Value} {m bf : Nat} {alv lgv nv : Value} {R' : Asr} {v c : Int} (hl : Loc R') (hv : C.M.Room v = 0) (hth : Cv C 113 [ptr d] l (MuPre C d x ov rb rest m bf alv lgv nv []) (.tuple #[]) l R') : Cv C 150 [ptr d, .int .i64 v, .int .u64 c, fm 113 d] l (MuPre C d x ov rb rest m bf alv lgv nv []) (.tuple #[]) l (R') := by
 refine Ct.of (vs := [ptr d, .int .i64 v, .int .u64 c, fm 113 d]) Tryz.func150 rfl Tryz.ntmps150 (by simp) (loc_blks (loc_sep loc_BfR loc_OpsR) _) ?_
 intro w0 D0
 refine T.conv (fun w h => Sy.opens (H2 := [_, _]) h (loc_sep loc_BfR loc_OpsR)) <| T.seq <| T.seq <| tx [0,1,2,3,4,5,6] nf Z Z <| xmv Z Z Z <| xnc Z Z Z <| xfa Z Z Z f133_0 <| xld Z Z Z o39 .z Z <| xmv Z Z Z ?_
 refine xcq Z Z Z Z g55 (ct_Room) (loc_sep loc_BfR loc_OpsR) <| xcm (c := true) Z Z Z Z Z (beq_iff_eq.2 hv) <| X.nil <| T.yes Z <| T.seq <| tx [0,1] (ct [1]) Z Z <| xmv Z Z Z <| xcf (H1 := []) (H2 := [_, _]) Z Z Z Z g113 Z (hth) hl pend0 <| X.nil ?_
 refine T.ret0 Z (fun W D h => ?_)
 exact ⟨D, ⟨rfl, rfl, h⟩, fun _ hk => hk⟩
set_option maxHeartbeats 1000000 in
theorem ct_flush0_begin_ {C : Cx} {l : Wds} {d : Nat} {x : Mu} {ov : Value} {rb : Nat} {rest : List Value} {m bf : Nat} {alv lgv nv : Value} {R' : Asr} (hl : Loc R') (h0 : x.tasks = []) (hth : Cv C 62 [ptr d] l (MuPre C d x ov rb rest m bf alv lgv nv []) (.tuple #[]) l R') : Cv C 114 [ptr d, fm 62 d] l (MuPre C d x ov rb rest m bf alv lgv nv []) (.tuple #[]) l (R') := by
 have hl4 : x.tasks.length ≤ 4 := by rw [h0]; decide
 refine Ct.of (vs := [ptr d, fm 62 d]) Tryz.func114 rfl Tryz.ntmps114 (by simp) (loc_blks (loc_sep loc_BfR loc_OpsR) _) ?_
 intro w0 D0
 refine T.conv (fun w h => Sy.opens (H2 := [_, _]) h (loc_sep loc_BfR loc_OpsR)) <| T.seq <| T.seq <| tx [0,1,2,3,4,5,6] (ct [4]) Z Z <| xmv Z Z Z <| xnc Z Z Z <| xfa Z Z Z f133_5 <| xld Z Z Z o126 .z Z ?_
 refine xcx (H1 := [_, _]) (H2 := []) (B := fun _ => []) Z Z Z Z g151 Z (Ce.sepF (ct_Tasks hl4) loc_OpsR) (fun _ => (loc_sep loc_BfR loc_OpsR)) (fun a0 ha0 => pend0) (fun a0 ha0 => ?_)
 refine xlen Z Z Z u43_dSlice <| xcm (c := true) Z Z Z Z Z (by rw [h0]; rfl) <| X.nil <| T.yes Z <| T.seq <| tx [0,1] (ct [1]) Z Z <| xmv Z Z Z <| xcf (H1 := []) (H2 := [_, _]) Z Z Z Z g62 Z (hth) hl pend0 <| X.nil <| T.ret0 Z (fun W D h => ?_)
 exact ⟨D, ⟨rfl, rfl, h⟩, fun _ hk => hk⟩
set_option maxHeartbeats 1000000 in
theorem ct_flush1_begin_ {C : Cx} {l : Wds} {d : Nat} {x : Mu} {ov : Value} {rb : Nat} {rest : List Value} {m bf : Nat} {alv lgv nv : Value} (hrm : x.roots.length + rest.length = m) (hl4 : x.tasks.length ≤ 4) (h0 : x.tasks ≠ []) : Cv C 114 [ptr d, fm 62 d] l (MuPre C d x ov rb rest m bf alv lgv nv []) (.tuple #[]) l (MuR C d { x with log := .flush x.tasks, next := .does .begin_ }) := by
 obtain ⟨i, os, ⟨k0, k1, k2, k3⟩, roots, tasks, armed, still, tint, cycle, k, alloc, log, event, nx⟩ := x
 refine Ct.of (vs := [ptr d, fm 62 d]) Tryz.func114 rfl Tryz.ntmps114 (by simp) (loc_blks (loc_sep loc_BfR loc_OpsR) _) ?_
 intro w0 D0
 refine T.conv (fun w h => Sy.opens (H2 := [_, _]) h (loc_sep loc_BfR loc_OpsR)) <| T.seq <| T.seq <| tx [0,1,2,3,4,5,6] (ct [4]) Z Z <| xmv Z Z Z <| xnc Z Z Z <| xfa Z Z Z f133_5 <| xld Z Z Z o126 .z Z ?_
 refine xcx (H1 := [_, _]) (H2 := []) (B := fun _ => []) Z Z Z Z g151 Z (Ce.sepF (ct_Tasks hl4) loc_OpsR) (fun _ => (loc_sep loc_BfR loc_OpsR)) (fun a0 ha0 => pend0) (fun a0 ha0 => ?_)
 refine xlen Z Z Z u43_dSlice <| xcm (c := false) Z Z Z Z Z (beq_eq_false_iff_ne.2 (by have := List.length_pos_iff.2 h0; omega)) <| X.nil <| T.no Z <| T.skip <| tx [0,1,2,3,4,5,6,7] (ct [5,7]) Z Z <| xmv Z Z Z <| xmv Z Z Z <| xnc Z Z Z <| xfa Z Z Z f133_5 ?_
 refine xld Z Z Z o126 .z Z <| xcnw Z Z Z Z g153 (Cn.sepF (ct_buFlushNew h0 hl4) loc_OpsR) (fun _ => loc_sep loc_BuR loc_OpsR) (fun _ => pend0) (fun q1 => ?_)
 refine xmv Z Z Z <| xcf (H1 := []) (H2 := [_, _]) Z Z Z Z g152 Z (ct_does_begin_ hrm) loc_MuR pend0 <| X.nil <| T.end0 Z (fun W D h => ?_)
 exact ⟨D, ⟨rfl, rfl, h⟩, fun _ hk => hk⟩
set_option maxHeartbeats 1000000 in
theorem ct_flush0_ackRoots {C : Cx} {l : Wds} {d : Nat} {x : Mu} {ov : Value} {rb : Nat} {rest : List Value} {m bf : Nat} {alv lgv nv : Value} {R' : Asr} {bq : Nat} (hl : Loc R') (h0 : x.tasks = []) (hth : Cv C 149 [ptr bq] l (MuPre C d x ov rb rest m bf alv lgv nv [⟨bq, 83, [ptr d]⟩]) (.tuple #[]) l R') : Cv C 114 [ptr d, .func (.func 149) #[] #[ptr bq]] l (MuPre C d x ov rb rest m bf alv lgv nv [⟨bq, 83, [ptr d]⟩]) (.tuple #[]) l (R') := by
 have hl4 : x.tasks.length ≤ 4 := by rw [h0]; decide
 refine Ct.of (vs := [ptr d, .func (.func 149) #[] #[ptr bq]]) Tryz.func114 rfl Tryz.ntmps114 (by simp) (loc_blks (loc_sep loc_BfR loc_OpsR) _) ?_
 intro w0 D0
 refine T.conv (fun w h => Sy.opens (H2 := [_, _, _]) h (loc_sep loc_BfR loc_OpsR)) <| T.seq <| T.seq <| tx [0,1,2,3,4,5,6] (ct [4]) Z Z <| xmv Z Z Z <| xnc Z Z Z <| xfa Z Z Z f133_5 <| xld Z Z Z o126 .z Z ?_
 refine xcx (H1 := [_, _, _]) (H2 := []) (B := fun _ => []) Z Z Z Z g151 Z (Ce.sepF (ct_Tasks hl4) loc_OpsR) (fun _ => (loc_sep loc_BfR loc_OpsR)) (fun a0 ha0 => pend0) (fun a0 ha0 => ?_)
 refine xlen Z Z Z u43_dSlice <| xcm (c := true) Z Z Z Z Z (by rw [h0]; rfl) <| X.nil <| T.yes Z <| T.seq <| tx [0,1] (ct [1]) Z Z <| xmv Z Z Z <| xcf (H1 := []) (H2 := [_, _, _]) Z Z Z Z g149 Z (hth) hl pend0 <| X.nil <| T.ret0 Z (fun W D h => ?_)
 exact ⟨D, ⟨rfl, rfl, h⟩, fun _ hk => hk⟩
set_option maxHeartbeats 1000000 in
theorem ct_flush1_ackRoots {C : Cx} {l : Wds} {d : Nat} {x : Mu} {ov : Value} {rb : Nat} {rest : List Value} {m bf : Nat} {alv lgv nv : Value} {bq : Nat} (hrm : x.roots.length + rest.length = m) (hl4 : x.tasks.length ≤ 4) (h0 : x.tasks ≠ []) : Cv C 114 [ptr d, .func (.func 149) #[] #[ptr bq]] l (MuPre C d x ov rb rest m bf alv lgv nv [⟨bq, 83, [ptr d]⟩]) (.tuple #[]) l (MuR C d { x with log := .flush x.tasks, next := .does .ackRoots }) := by
 obtain ⟨i, os, ⟨k0, k1, k2, k3⟩, roots, tasks, armed, still, tint, cycle, k, alloc, log, event, nx⟩ := x
 refine Ct.of (vs := [ptr d, .func (.func 149) #[] #[ptr bq]]) Tryz.func114 rfl Tryz.ntmps114 (by simp) (loc_blks (loc_sep loc_BfR loc_OpsR) _) ?_
 intro w0 D0
 refine T.conv (fun w h => Sy.opens (H2 := [_, _, _]) h (loc_sep loc_BfR loc_OpsR)) <| T.seq <| T.seq <| tx [0,1,2,3,4,5,6] (ct [4]) Z Z <| xmv Z Z Z <| xnc Z Z Z <| xfa Z Z Z f133_5 <| xld Z Z Z o126 .z Z ?_
 refine xcx (H1 := [_, _, _]) (H2 := []) (B := fun _ => []) Z Z Z Z g151 Z (Ce.sepF (ct_Tasks hl4) loc_OpsR) (fun _ => (loc_sep loc_BfR loc_OpsR)) (fun a0 ha0 => pend0) (fun a0 ha0 => ?_)
 refine xlen Z Z Z u43_dSlice <| xcm (c := false) Z Z Z Z Z (beq_eq_false_iff_ne.2 (by have := List.length_pos_iff.2 h0; omega)) <| X.nil <| T.no Z <| T.skip <| tx [0,1,2,3,4,5,6,7] (ct [5,7]) Z Z <| xmv Z Z Z <| xmv Z Z Z <| xnc Z Z Z <| xfa Z Z Z f133_5 ?_
 refine xld Z Z Z o126 .z Z <| xcnw Z Z Z Z g153 (Cn.sepF (ct_buFlushNew h0 hl4) loc_OpsR) (fun _ => loc_sep loc_BuR loc_OpsR) (fun _ => pend0) (fun q1 => ?_)
 refine xmv Z Z Z <| xcf (H1 := []) (H2 := [_, _, _]) Z Z Z Z g152 Z (ct_does_ackRoots hrm) loc_MuR pend0 <| X.nil <| T.end0 Z (fun W D h => ?_)
 exact ⟨D, ⟨rfl, rfl, h⟩, fun _ hk => hk⟩
set_option maxHeartbeats 1000000 in
theorem ct_ackRoots {C : Cx} {l : Wds} {d : Nat} {x : Mu} {ov : Value} {rb : Nat} {rest : List Value} {m bf : Nat} {alv lgv nv : Value} {bq : Nat} (hrm : x.roots.length + rest.length = m) : Cv C 149 [ptr bq] l (MuPre C d x ov rb rest m bf alv lgv nv [⟨bq, 83, [ptr d]⟩]) (.tuple #[]) l (MuR C d { x with next := .ack (w64 (3 * x.cycle)) }) := by
 obtain ⟨i, os, ⟨k0, k1, k2, k3⟩, roots, tasks, armed, still, tint, cycle, k, alloc, log, event, nx⟩ := x
 refine Ct.of (vs := [ptr bq]) Tryz.func149 rfl Tryz.ntmps149 (by simp) (loc_blks (loc_sep loc_BfR loc_OpsR) _) ?_
 intro w0 D0
 refine T.conv (fun w h => Sy.opens (H2 := [_, _, _]) h (loc_sep loc_BfR loc_OpsR)) <| T.any (ord := [0, 1, 2, 3, 4, 5, 6, 7, 8, 9, 10]) (lo := (fun i => [0].contains i)) (ef := (fun i => [7, 10].contains i)) (by kernel_rfl) (fun _ h => h.drew) ?_
 refine xld Z Z Z o83 (.s (.s .z)) Z <| xld Z Z Z o83 (.s (.s .z)) Z <| xld Z Z Z o83 (.s (.s .z)) Z <| xnc Z Z Z <| xfa Z Z Z f133_9 <| xld Z Z Z o90 .z Z <| xarc Z Z Z Z Z (wrap64u _) ?_
 refine xcc (H := [_, _, _]) Z Z Z Z g112 (ct_muack) (fun _ _ => (pxld Z Z o83 (.s (.s .z)) Z pend0)) (fun c0a c0b => ?_)
 refine xnc Z Z Z <| xfa Z Z Z f133_14 <| xst Z Z Z Z o131 Z .z Z .z (pendsk (by kernel_rfl) pend0) <| X.nil <| T.end0 Z (fun W D h => ?_)
 obtain ⟨D1, h1, h2⟩ := blks_pick [0, 1, 3, 4] (by decide) h
 exact ⟨D1, ⟨rfl, rfl, _, _, _, _, _, _, _, ⟨rb, rest, m, rfl, hrm, c0a, c0b, rfl, rfl⟩, h1⟩, h2⟩
theorem f133_10 : fld 133 10 13 = true := by kernel_rfl
theorem f133_6 : fld 133 6 9 = true := by kernel_rfl
theorem f133_7 : fld 133 7 10 = true := by kernel_rfl
theorem g114 : fnB 114 = true := by kernel_rfl
theorem g150 : fnB 150 = true := by kernel_rfl
theorem g90 : fnB 90 = true := by kernel_rfl
theorem s41 : slcB 41 3 1 = true := by kernel_rfl
theorem ct_flushB {C : Cx} {l : Wds} {d : Nat} {x : Mu} {ov : Value} {rb : Nat} {rest : List Value} {m bf : Nat} {alv lgv nv : Value} (hx : ∀ o ∈ x.ops, o.kind = 0 ∨ o.kind = 3) (hl4 : x.tasks.length ≤ 4) (hrm : x.roots.length + rest.length = m) : Cv C 114 [ptr d, fm 62 d] l (MuPre C d x ov rb rest m bf alv lgv nv []) (.tuple #[]) l (MuR C d (if x.tasks = [] then x.begin_ C.M else { x with log := .flush x.tasks, next := .does .begin_ })) := by
 by_cases h0 : x.tasks = []
 ·rw [if_pos h0]
  exact ct_flush0_begin_ loc_MuR h0 (ct_begin hx hrm)
 ·rw [if_neg h0]
  exact ct_flush1_begin_ hrm hl4 h0
theorem ct_flushA {C : Cx} {l : Wds} {d : Nat} {x : Mu} {ov : Value} {rb : Nat} {rest : List Value} {m bf : Nat} {alv lgv nv : Value} {bq : Nat} (hl4 : x.tasks.length ≤ 4) (hrm : x.roots.length + rest.length = m) : Cv C 114 [ptr d, .func (.func 149) #[] #[ptr bq]] l (MuPre C d x ov rb rest m bf alv lgv nv [⟨bq, 83, [ptr d]⟩]) (.tuple #[]) l (MuR C d x.flushRoots) := by
 unfold Mu.flushRoots
 by_cases h0 : x.tasks = []
 ·rw [if_pos h0]
  exact ct_flush0_ackRoots loc_MuR h0 (ct_ackRoots hrm)
 ·rw [if_neg h0]
  exact ct_flush1_ackRoots hrm hl4 h0
set_option maxHeartbeats 1000000 in
theorem ct_look_end {C : Cx} {l : Wds} {d : Nat} {x : Mu} {ov : Value} {rb : Nat} {rest : List Value} {m bf : Nat} {alv lgv nv : Value} (hl4 : x.tasks.length ≤ 4) (hk : x.k = x.roots.length) (hrm : x.roots.length + rest.length = m) : Cv C 113 [ptr d] l (MuPre C d x ov rb rest m bf alv lgv nv []) (.tuple #[]) l (MuR C d x.flushRoots) := by
 obtain ⟨i, os, ⟨k0, k1, k2, k3⟩, roots, tasks, armed, still, tint, cycle, k, alloc, log, event, nx⟩ := x
 refine Ct.of (vs := [ptr d]) Tryz.func113 rfl Tryz.ntmps113 (by simp) (loc_blks (loc_sep loc_BfR loc_OpsR) _) ?_
 intro w0 D0
 refine T.conv (fun w h => Sy.opens (H2 := [_, _]) h (loc_sep loc_BfR loc_OpsR)) <| T.seq <| tx [0] (ct [0]) Z Z <| xbx Z Z Z Z (fun _ => pend0) (fun b0 => ?_)
 refine X.nil <| T.seq <| T.seq <| T.any (ord := [0, 1, 2, 3, 4, 5, 6, 7, 8, 9]) (lo := (fun _ => false)) (ef := (fun _ => false)) (by kernel_rfl) (fun _ h => h.drew) <| xld Z Z Z o83 .z Z <| xnc Z Z Z <| xfa Z Z Z f133_10 <| xld Z Z Z o3 (.s .z) Z ?_
 refine xld Z Z Z o83 .z Z <| xnc Z Z Z <| xfa Z Z Z f133_4 <| xld Z Z Z o41 (.s .z) Z <| xlen Z Z Z u41_dSlice <| xcm (c := true) Z Z Z Z Z (beq_iff_eq.2 (by show ((k : Nat) : Int) = (roots.length : Int); simp only at hk; omega)) <| X.nil <| T.yes Z ?_
 refine T.seq <| tx [0,1,2] (ct [2]) Z Z <| xld Z Z Z o83 .z Z <| xmf Z Z Z Z <| xcfp (H2 := [_, _, _]) (is := [1, 2, 0]) (by decide) Z Z Z Z g114 Z (ct_flushA hl4 hrm) loc_MuR pend0 <| X.nil <| T.ret0 Z (fun W D h => ?_)
 exact ⟨D, ⟨rfl, rfl, h⟩, fun _ hk => hk⟩
set_option maxHeartbeats 1000000 in
theorem ct_look_on {C : Cx} {l : Wds} {d : Nat} {x : Mu} {ov : Value} {rb : Nat} {rest : List Value} {m bf : Nat} {alv lgv nv : Value} (hlt : x.k < x.roots.length) (hl8 : x.roots.length ≤ 8) (hv : C.M.Room (x.roots.getD x.k 0) > 0) (hrm : x.roots.length + rest.length = m) : Cv C 113 [ptr d] l (MuPre C d x ov rb rest m bf alv lgv nv []) (.tuple #[]) l (MuR C d { x with k := x.k + 1, log := .log (x.roots.getD x.k 0) x.cycle, next := .does .look }) := by
 obtain ⟨i, os, ⟨k0, k1, k2, k3⟩, roots, tasks, armed, still, tint, cycle, k, alloc, log, event, nx⟩ := x
 simp only at hlt hl8 hv
 refine Ct.of (vs := [ptr d]) Tryz.func113 rfl Tryz.ntmps113 (by simp) (loc_blks (loc_sep loc_BfR loc_OpsR) _) ?_
 intro w0 D0
 refine T.conv (fun w h => Sy.opens (H2 := [_, _]) h (loc_sep loc_BfR loc_OpsR)) <| T.seq <| tx [0] (ct [0]) Z Z <| xbx Z Z Z Z (fun _ => pend0) (fun b0 => ?_)
 refine X.nil <| T.seq <| T.seq <| T.any (ord := [0, 1, 2, 3, 4, 5, 6, 7, 8, 9]) (lo := (fun _ => false)) (ef := (fun _ => false)) (by kernel_rfl) (fun _ h => h.drew) <| xld Z Z Z o83 .z Z <| xnc Z Z Z <| xfa Z Z Z f133_10 <| xld Z Z Z o3 (.s .z) Z ?_
 refine xld Z Z Z o83 .z Z <| xnc Z Z Z <| xfa Z Z Z f133_4 <| xld Z Z Z o41 (.s .z) Z <| xlen Z Z Z u41_dSlice <| xcm (c := false) Z Z Z Z Z (beq_eq_false_iff_ne.2 (by show ((k : Nat) : Int) ≠ (roots.length : Int); omega)) <| X.nil <| T.no Z <| T.skip ?_
 refine T.seq <| T.any (ord := [0, 1, 2, 3, 4, 5, 6, 7, 8, 9, 10]) (lo := (fun _ => false)) (ef := (fun _ => false)) (by kernel_rfl) (fun _ h => h.drew) <| xld Z Z Z o83 .z Z <| xnc Z Z Z <| xfa Z Z Z f133_4 <| xld Z Z Z o41 (.s .z) Z <| xld Z Z Z o83 .z Z ?_
 refine xnc Z Z Z <| xfa Z Z Z f133_10 <| xld Z Z Z o3 (.s .z) Z <| xix Z Z Z Z s41 ⟨Int.natCast_nonneg _, Int.ofNat_lt.2 hlt⟩ <| xld Z Z Z o3 (.s (.s .z)) (nth_i64s hlt) <| xas Z Z Z <| X.nil <| T.seq <| tx [0,1,2,3,4,5,6,7] (ct [7]) Z Z ?_
 refine xld Z Z Z o83 .z Z <| xnc Z Z Z <| xfa Z Z Z f133_10 <| xld Z Z Z o3 (.s .z) Z <| xarc (c := ((k + 1 : Nat) : Int)) Z Z Z Z Z (by simp only [ari]; rw [IntWalk.i64_in _ (by omega)]; omega) <| xnc Z Z Z <| xfa Z Z Z f133_10 ?_
 refine xst Z Z Z Z o3 Z (.s .z) Z (.s .z) pend0 <| X.nil <| T.any (ord := [0, 1, 2, 3, 4, 5, 6, 7, 8]) (lo := (fun _ => false)) (ef := (fun i => [8].contains i)) (by kernel_rfl) (fun _ h => h.drew) <| xld Z Z Z o83 .z Z <| xmv Z Z Z <| xld Z Z Z o83 .z Z ?_
 refine xnc Z Z Z <| xfa Z Z Z f133_9 <| xld Z Z Z o90 (.s .z) Z <| xld Z Z Z o83 .z Z <| xmf Z Z Z Z ?_
 refine xcfp (H2 := [_, _]) (is := [1, 2]) (by decide) Z Z Z Z g150 Z (ct_logs1 (x := ⟨i, os, ⟨k0, k1, k2, k3⟩, roots, tasks, armed, still, tint, cycle, k + 1, alloc, log, event, nx⟩) hrm hv) loc_MuR pend0 <| X.nil <| T.end0 Z (fun W D h => ?_)
 exact ⟨D, ⟨rfl, rfl, h⟩, fun _ hk => hk⟩
set_option maxHeartbeats 1000000 in
theorem ct_look_skip {C : Cx} {l : Wds} {d : Nat} {x : Mu} {ov : Value} {rb : Nat} {rest : List Value} {m bf : Nat} {alv lgv nv : Value} (hlt : x.k < x.roots.length) (hl8 : x.roots.length ≤ 8) {R' : Asr} (hl : Loc R') (hv : C.M.Room (x.roots.getD x.k 0) = 0) (hth : ∀ nv, Cv C 113 [ptr d] l (MuPre C d { x with k := x.k + 1 } ov rb rest m bf alv lgv nv []) (.tuple #[]) l R') (hrm : x.roots.length + rest.length = m) : Cv C 113 [ptr d] l (MuPre C d x ov rb rest m bf alv lgv nv []) (.tuple #[]) l (R') := by
 obtain ⟨i, os, ⟨k0, k1, k2, k3⟩, roots, tasks, armed, still, tint, cycle, k, alloc, log, event, nx⟩ := x
 simp only at hlt hl8 hv
 refine Ct.of (vs := [ptr d]) Tryz.func113 rfl Tryz.ntmps113 (by simp) (loc_blks (loc_sep loc_BfR loc_OpsR) _) ?_
 intro w0 D0
 refine T.conv (fun w h => Sy.opens (H2 := [_, _]) h (loc_sep loc_BfR loc_OpsR)) <| T.seq <| tx [0] (ct [0]) Z Z <| xbx Z Z Z Z (fun _ => pend0) (fun b0 => ?_)
 refine X.nil <| T.seq <| T.seq <| T.any (ord := [0, 1, 2, 3, 4, 5, 6, 7, 8, 9]) (lo := (fun _ => false)) (ef := (fun _ => false)) (by kernel_rfl) (fun _ h => h.drew) <| xld Z Z Z o83 .z Z <| xnc Z Z Z <| xfa Z Z Z f133_10 <| xld Z Z Z o3 (.s .z) Z ?_
 refine xld Z Z Z o83 .z Z <| xnc Z Z Z <| xfa Z Z Z f133_4 <| xld Z Z Z o41 (.s .z) Z <| xlen Z Z Z u41_dSlice <| xcm (c := false) Z Z Z Z Z (beq_eq_false_iff_ne.2 (by show ((k : Nat) : Int) ≠ (roots.length : Int); omega)) <| X.nil <| T.no Z <| T.skip ?_
 refine T.seq <| T.any (ord := [0, 1, 2, 3, 4, 5, 6, 7, 8, 9, 10]) (lo := (fun _ => false)) (ef := (fun _ => false)) (by kernel_rfl) (fun _ h => h.drew) <| xld Z Z Z o83 .z Z <| xnc Z Z Z <| xfa Z Z Z f133_4 <| xld Z Z Z o41 (.s .z) Z <| xld Z Z Z o83 .z Z ?_
 refine xnc Z Z Z <| xfa Z Z Z f133_10 <| xld Z Z Z o3 (.s .z) Z <| xix Z Z Z Z s41 ⟨Int.natCast_nonneg _, Int.ofNat_lt.2 hlt⟩ <| xld Z Z Z o3 (.s (.s .z)) (nth_i64s hlt) <| xas Z Z Z <| X.nil <| T.seq <| tx [0,1,2,3,4,5,6,7] (ct [7]) Z Z ?_
 refine xld Z Z Z o83 .z Z <| xnc Z Z Z <| xfa Z Z Z f133_10 <| xld Z Z Z o3 (.s .z) Z <| xarc (c := ((k + 1 : Nat) : Int)) Z Z Z Z Z (by simp only [ari]; rw [IntWalk.i64_in _ (by omega)]; omega) <| xnc Z Z Z <| xfa Z Z Z f133_10 ?_
 refine xst Z Z Z Z o3 Z (.s .z) Z (.s .z) pend0 <| X.nil <| T.any (ord := [0, 1, 2, 3, 4, 5, 6, 7, 8]) (lo := (fun _ => false)) (ef := (fun i => [8].contains i)) (by kernel_rfl) (fun _ h => h.drew) <| xld Z Z Z o83 .z Z <| xmv Z Z Z <| xld Z Z Z o83 .z Z ?_
 refine xnc Z Z Z <| xfa Z Z Z f133_9 <| xld Z Z Z o90 (.s .z) Z <| xld Z Z Z o83 .z Z <| xmf Z Z Z Z ?_
 refine xcfp (H2 := [_, _]) (is := [1, 2]) (by decide) Z Z Z Z g150 Z (ct_logs0 (x := ⟨i, os, ⟨k0, k1, k2, k3⟩, roots, tasks, armed, still, tint, cycle, k + 1, alloc, log, event, nx⟩) hl hv (hth _)) hl pend0 <| X.nil <| T.end0 Z (fun W D h => ?_)
 exact ⟨D, ⟨rfl, rfl, h⟩, fun _ hk => hk⟩
theorem ct_lookN {C : Cx} {l : Wds} {d : Nat} (hrm0 : ∀ v, C.M.Room v ≥ 0) : ∀ (n : Nat) {x : Mu} {ov : Value} {rb : Nat} {rest : List Value} {m bf : Nat} {alv lgv nv : Value} (hl4 : x.tasks.length ≤ 4) (hk : x.k + n = x.roots.length) (hl8 : x.roots.length ≤ 8) (hrm : x.roots.length + rest.length = m), Cv C 113 [ptr d] l (MuPre C d x ov rb rest m bf alv lgv nv []) (.tuple #[]) l (MuR C d (x.lookN C.M n))
 | 0, x, _, _, _, _, _, _, _, _, hl4, hk, hl8, hrm => ct_look_end hl4 (by omega) hrm
 | n + 1, x, _, _, _, _, _, _, _, _, hl4, hk, hl8, hrm => by
  unfold Mu.lookN
  by_cases hv : C.M.Room (x.roots.getD x.k 0) = 0
  ·rw [if_pos hv]
   exact ct_look_skip (by omega) hl8 loc_MuR hv (fun nv => ct_lookN hrm0 n (x := { x with k := x.k + 1 }) hl4 (by simp only; omega) hl8 hrm) hrm
  ·rw [if_neg hv]
   exact ct_look_on (by omega) hl8 (by have := hrm0 (x.roots.getD x.k 0); omega) hrm
theorem ct_look {C : Cx} {l : Wds} {d : Nat} {x : Mu} {ov : Value} {rb : Nat} {rest : List Value} {m bf : Nat} {alv lgv nv : Value} (hrm0 : ∀ v, C.M.Room v ≥ 0) (hl4 : x.tasks.length ≤ 4) (hk : x.k ≤ x.roots.length) (hl8 : x.roots.length ≤ 8) (hrm : x.roots.length + rest.length = m) : Cv C 113 [ptr d] l (MuPre C d x ov rb rest m bf alv lgv nv []) (.tuple #[]) l (MuR C d (x.look C.M)) :=
 ct_lookN hrm0 _ hl4 (by omega) hl8 hrm
theorem neqT {a b : Int} (h : cmpI .neq a b = true) : a ≠ b := by simpa [cmpI] using h
theorem neqF {a b : Int} (h : cmpI .neq a b = false) : a = b := by simpa [cmpI] using h
theorem safe_last {M : MapM} {i : Int} {os : List MOp} {op : MOp} {roots tasks : List Int} {armed still tint cycle : Int} {k : Nat} {alloc : Hp} {log : Bu} {event : Ev} {l : Wds} (n1 : ¬ (ld l 0 % 8 = 1 ∧ armed ≠ ld l 0 / 8)) (n2 : ¬ (ld l 0 % 8 = 2 ∧ still ≠ ld l 0 / 8)) (n3 : ¬ (ld l 0 % 8 = 3 ∧ tint ≠ ld l 0 / 8)) :
  (⟨i, os, op, roots, tasks, armed, still, tint, cycle, k, alloc, log, event, .safe⟩ : Mu).step0 M l = ((if tasks = [] then (⟨i, os, op, roots, tasks, armed, still, tint, ld l 0 / 8, k, alloc, log, event, .safe⟩ : Mu).begin_ M else ⟨i, os, op, roots, tasks, armed, still, tint, ld l 0 / 8, k, alloc, .flush tasks, event, .does .begin_⟩), l) := by
 unfold Mu.step0
 simp only
 rw [if_neg n1, if_neg n2, if_neg n3]
 split
 ·rfl
 ·rfl
theorem w3m {c k : Int} (h : 0 ≤ k ∧ k ≤ 2) : IntKind.u64.wrap (w64 (3 * c) - k) = w64 (3 * c - k) := by rw [wrap64u]; unfold w64; omega
set_option maxHeartbeats 1000000 in
theorem mu_safe {C : Cx} {d : Nat} {x : Mu} {l : Wds} (hM : C.M.Ok) (hm : x.Ok C.M) (hr : ∀ a, u64R (ld l a)) (hn : x.next = .safe) : MuRun C d x l (x.step0 C.M l).1 (x.step0 C.M l).2 := by
 obtain ⟨i, os, ⟨k0, k1, k2, k3⟩, roots, tasks, armed, still, tint, cycle, k, alloc, log, event, nx⟩ := x
 obtain rfl : nx = .safe := hn
 have hrm0 : ∀ v, C.M.Room v ≥ 0 := fun v => (room_rng hM v).1
 have hB := hM.buffer
 have hle := hm.le
 have hl4 : tasks.length ≤ 4 := by simp only at hle; omega
 have hops := hm.ops
 rintro ov rv bf alv lgv nv RN ⟨rb, rest, m, rfl, hrm, rfl, rfl⟩
 refine ⟨90, [ptr d], [], rfl, g90, ?_⟩
 refine Ct.of (vs := [ptr d, ptr C.s]) Tryz.func90 rfl Tryz.ntmps90 (by simp) (loc_blks (loc_blks (loc_sep loc_BfR loc_OpsR) _) _) ?_
 intro w0 D0
 refine T.conv (fun w h => Sy.opens (H2 := [_]) h (loc_blks (loc_sep loc_BfR loc_OpsR) _)) <| T.bks (loc_sep loc_BfR loc_OpsR) <| T.seq <| tx [0,1,2,3,4,5,6,7,8,9,10,11,12] nf Z Z <| xmv Z Z Z <| xmv Z Z Z <| xnc Z Z Z <| xfa Z Z Z f133_0 ?_
 refine xld Z Z Z o39 .z Z <| xcq Z Z Z Z g83 (ct_Phase) (loc_sep loc_BfR loc_OpsR) <| xcq Z Z Z Z g32 (ct_Load (loc_sep loc_BfR loc_OpsR)) (loc_sep loc_BfR loc_OpsR) ?_
 refine xcq Z Z Z Z g82 (ct_Cycle (loc_sep loc_BfR loc_OpsR) (hr _)) (loc_sep loc_BfR loc_OpsR) <| xmv Z Z Z <| xex Z Z Z Z <| xex Z Z Z Z <| xas Z Z Z <| xas Z Z Z <| X.nil <| T.seq <| tx [0,1,2,3,4] (ct [4]) Z Z <| xmv Z Z Z <| xmv Z Z Z <| xnc Z Z Z ?_
 refine xfa Z Z Z f133_9 <| xst Z Z Z Z o90 Z .z Z .z pend0 <| X.nil <| T.block <| T.seq ?_
 by_cases p1 : ld l 0 % 8 = 1
 ·skip
  refine tx [0,1,2,3,4,5,6,7,8,9,10] nf Z Z <| xmv Z Z Z <| xcm (c := true) Z Z Z Z Z (beq_iff_eq.2 p1) <| xmv Z Z Z <| xmv Z Z Z <| xnc Z Z Z <| xfa Z Z Z f133_6 <| xld Z Z Z o90 .z Z <| xmv Z Z Z <| xcm Z Z Z Z Z Z <| xpk Z Z Z Z <| xas Z Z Z <| X.nil ?_
  refine T.cond Z ?_ ?_
  ·intro hb1
   have c1 : ld l 0 % 8 = 1 ∧ armed ≠ ld l 0 / 8 := ⟨p1, neqT hb1⟩
   refine T.seq <| tx [0,1,2,3,4] (ct [4]) Z Z <| xmv Z Z Z <| xmv Z Z Z <| xnc Z Z Z <| xfa Z Z Z f133_6 <| xst Z Z Z Z o90 Z .z Z .z pend0 <| X.nil <| tx [0,1,2,3,4,5,6,7,8] (ct [5,8]) Z Z <| xmv Z Z Z <| xmv Z Z Z <| xmv Z Z Z ?_
   refine xarc Z Z Z Z Z (wrap64u _) <| xarc (c := w64 (3 * (ld l 0 / 8) - 2)) Z Z Z Z Z (w3m (by omega)) <| xcc (H := [_, _]) Z Z Z Z g112 (ct_muack) (fun _ _ => pend0) (fun c0a c0b => ?_)
   refine xnc Z Z Z <| xfa Z Z Z f133_14 <| xst Z Z Z Z o131 Z .z Z .z pend0 <| X.nil <| T.blk_end <| T.end0 Z (fun W D h => ?_)
   rw [show (⟨i, os, ⟨k0, k1, k2, k3⟩, roots, tasks, armed, still, tint, cycle, k, alloc, log, event, .safe⟩ : Mu).step0 C.M l = _ from if_pos c1]
   exact ⟨D, ⟨rfl, rfl, _, _, _, _, _, _, _, ⟨rb, rest, m, rfl, hrm, _, _, rfl, rfl⟩, h⟩, fun _ hk => hk⟩
  ·intro hb1
   have n1 : ¬ (ld l 0 % 8 = 1 ∧ armed ≠ ld l 0 / 8) := fun h => h.2 (neqF hb1)
   have n2 : ¬ (ld l 0 % 8 = 2 ∧ still ≠ ld l 0 / 8) := fun h => by omega
   have n3 : ¬ (ld l 0 % 8 = 3 ∧ tint ≠ ld l 0 / 8) := fun h => by omega
   refine T.seq <| tx [0,1,2,3,4,5,6,7,8,9,10] nf Z Z <| xmv Z Z Z <| xcm (c := false) Z Z Z Z Z (beq_eq_false_iff_ne.2 (by omega)) <| xmv Z Z Z <| x_skip Z Z Z <| x_skip Z Z Z <| x_skip Z Z Z <| x_skip Z Z Z <| x_skip Z Z Z <| x_skip Z Z Z ?_
   refine xpk Z Z Z Z <| xas Z Z Z <| X.nil <| T.no Z <| T.seq <| tx [0,1,2,3,4,5,6,7,8,9,10] nf Z Z <| xmv Z Z Z <| xcm (c := false) Z Z Z Z Z (beq_eq_false_iff_ne.2 (by omega)) <| xmv Z Z Z <| x_skip Z Z Z <| x_skip Z Z Z <| x_skip Z Z Z ?_
   refine x_skip Z Z Z <| x_skip Z Z Z <| x_skip Z Z Z <| xpk Z Z Z Z <| xas Z Z Z <| X.nil <| T.no Z <| tx [0,1,2,3] (ct [3]) Z Z <| xmv Z Z Z <| xmv Z Z Z <| xmf Z Z Z Z ?_
   refine xcf (H1 := []) (H2 := [_, _]) Z Z Z Z g114 Z (ct_flushB (x := ⟨i, os, ⟨k0, k1, k2, k3⟩, roots, tasks, armed, still, tint, ld l 0 / 8, k, alloc, log, event, .safe⟩) hops hl4 hrm) loc_MuR pend0 <| X.nil <| T.blk_end <| T.end0 Z (fun W D h => ?_)
   rw [safe_last n1 n2 n3]
   exact ⟨D, ⟨rfl, rfl, h⟩, fun _ hk => hk⟩
 ·have n1 : ¬ (ld l 0 % 8 = 1 ∧ armed ≠ ld l 0 / 8) := fun h => p1 h.1
  refine tx [0,1,2,3,4,5,6,7,8,9,10] nf Z Z <| xmv Z Z Z <| xcm (c := false) Z Z Z Z Z (beq_eq_false_iff_ne.2 p1) <| xmv Z Z Z <| x_skip Z Z Z <| x_skip Z Z Z <| x_skip Z Z Z <| x_skip Z Z Z <| x_skip Z Z Z <| x_skip Z Z Z <| xpk Z Z Z Z <| xas Z Z Z ?_
  refine X.nil <| T.no Z <| T.seq ?_
  by_cases p2 : ld l 0 % 8 = 2
  ·skip
   refine tx [0,1,2,3,4,5,6,7,8,9,10] nf Z Z <| xmv Z Z Z <| xcm (c := true) Z Z Z Z Z (beq_iff_eq.2 p2) <| xmv Z Z Z <| xmv Z Z Z <| xnc Z Z Z <| xfa Z Z Z f133_7 <| xld Z Z Z o90 .z Z <| xmv Z Z Z <| xcm Z Z Z Z Z Z <| xpk Z Z Z Z <| xas Z Z Z <| X.nil ?_
   refine T.cond Z ?_ ?_
   ·intro hb2
    have c2 : ld l 0 % 8 = 2 ∧ still ≠ ld l 0 / 8 := ⟨p2, neqT hb2⟩
    refine T.seq <| tx [0,1,2,3,4] (ct [4]) Z Z <| xmv Z Z Z <| xmv Z Z Z <| xnc Z Z Z <| xfa Z Z Z f133_7 <| xst Z Z Z Z o90 Z .z Z .z pend0 <| X.nil <| tx [0,1,2,3,4,5,6,7,8] (ct [5,8]) Z Z <| xmv Z Z Z <| xmv Z Z Z <| xmv Z Z Z ?_
    refine xarc Z Z Z Z Z (wrap64u _) <| xarc (c := w64 (3 * (ld l 0 / 8) - 1)) Z Z Z Z Z (w3m (by omega)) <| xcc (H := [_, _]) Z Z Z Z g112 (ct_muack) (fun _ _ => pend0) (fun c1a c1b => ?_)
    refine xnc Z Z Z <| xfa Z Z Z f133_14 <| xst Z Z Z Z o131 Z .z Z .z pend0 <| X.nil <| T.blk_end <| T.end0 Z (fun W D h => ?_)
    rw [show (⟨i, os, ⟨k0, k1, k2, k3⟩, roots, tasks, armed, still, tint, cycle, k, alloc, log, event, .safe⟩ : Mu).step0 C.M l = _ from (if_neg n1).trans (if_pos c2)]
    exact ⟨D, ⟨rfl, rfl, _, _, _, _, _, _, _, ⟨rb, rest, m, rfl, hrm, _, _, rfl, rfl⟩, h⟩, fun _ hk => hk⟩
   ·intro hb2
    have n2 : ¬ (ld l 0 % 8 = 2 ∧ still ≠ ld l 0 / 8) := fun h => h.2 (neqF hb2)
    have n3 : ¬ (ld l 0 % 8 = 3 ∧ tint ≠ ld l 0 / 8) := fun h => by omega
    refine T.seq <| tx [0,1,2,3,4,5,6,7,8,9,10] nf Z Z <| xmv Z Z Z <| xcm (c := false) Z Z Z Z Z (beq_eq_false_iff_ne.2 (by omega)) <| xmv Z Z Z <| x_skip Z Z Z <| x_skip Z Z Z <| x_skip Z Z Z <| x_skip Z Z Z <| x_skip Z Z Z <| x_skip Z Z Z ?_
    refine xpk Z Z Z Z <| xas Z Z Z <| X.nil <| T.no Z <| tx [0,1,2,3] (ct [3]) Z Z <| xmv Z Z Z <| xmv Z Z Z <| xmf Z Z Z Z ?_
    refine xcf (H1 := []) (H2 := [_, _]) Z Z Z Z g114 Z (ct_flushB (x := ⟨i, os, ⟨k0, k1, k2, k3⟩, roots, tasks, armed, still, tint, ld l 0 / 8, k, alloc, log, event, .safe⟩) hops hl4 hrm) loc_MuR pend0 <| X.nil <| T.blk_end <| T.end0 Z (fun W D h => ?_)
    rw [safe_last n1 n2 n3]
    exact ⟨D, ⟨rfl, rfl, h⟩, fun _ hk => hk⟩
  ·have n2 : ¬ (ld l 0 % 8 = 2 ∧ still ≠ ld l 0 / 8) := fun h => p2 h.1
   refine tx [0,1,2,3,4,5,6,7,8,9,10] nf Z Z <| xmv Z Z Z <| xcm (c := false) Z Z Z Z Z (beq_eq_false_iff_ne.2 p2) <| xmv Z Z Z <| x_skip Z Z Z <| x_skip Z Z Z <| x_skip Z Z Z <| x_skip Z Z Z <| x_skip Z Z Z <| x_skip Z Z Z <| xpk Z Z Z Z <| xas Z Z Z ?_
   refine X.nil <| T.no Z <| T.seq ?_
   by_cases p3 : ld l 0 % 8 = 3
   ·skip
    refine tx [0,1,2,3,4,5,6,7,8,9,10] nf Z Z <| xmv Z Z Z <| xcm (c := true) Z Z Z Z Z (beq_iff_eq.2 p3) <| xmv Z Z Z <| xmv Z Z Z <| xnc Z Z Z <| xfa Z Z Z f133_8 <| xld Z Z Z o90 .z Z <| xmv Z Z Z <| xcm Z Z Z Z Z Z <| xpk Z Z Z Z <| xas Z Z Z ?_
    refine X.nil <| T.cond Z ?_ ?_
    ·intro hb3
     have c3 : ld l 0 % 8 = 3 ∧ tint ≠ ld l 0 / 8 := ⟨p3, neqT hb3⟩
     refine T.seq <| tx [0,1,2,3] (ct [3]) Z Z <| xmv Z Z Z <| xnc Z Z Z <| xfa Z Z Z f133_10 <| xst Z Z Z Z o3 Z .z Z .z pend0 <| X.nil <| tx [0,1] (ct [1]) Z Z <| xmv Z Z Z ?_
     refine xcf (H1 := []) (H2 := [_, _]) Z Z Z Z g113 Z (ct_look (x := ⟨i, os, ⟨k0, k1, k2, k3⟩, roots, tasks, armed, still, tint, ld l 0 / 8, 0, alloc, log, event, .safe⟩) hrm0 hl4 (Nat.zero_le _) hm.len hrm) loc_MuR pend0 <| X.nil <| T.blk_end ?_
     refine T.end0 Z (fun W D h => ?_)
     rw [show (⟨i, os, ⟨k0, k1, k2, k3⟩, roots, tasks, armed, still, tint, cycle, k, alloc, log, event, .safe⟩ : Mu).step0 C.M l = _ from (if_neg n1).trans ((if_neg n2).trans (if_pos c3))]
     exact ⟨D, ⟨rfl, rfl, h⟩, fun _ hk => hk⟩
    ·intro hb3
     have n3 : ¬ (ld l 0 % 8 = 3 ∧ tint ≠ ld l 0 / 8) := fun h => h.2 (neqF hb3)
     refine tx [0,1,2,3] (ct [3]) Z Z <| xmv Z Z Z <| xmv Z Z Z <| xmf Z Z Z Z ?_
     refine xcf (H1 := []) (H2 := [_, _]) Z Z Z Z g114 Z (ct_flushB (x := ⟨i, os, ⟨k0, k1, k2, k3⟩, roots, tasks, armed, still, tint, ld l 0 / 8, k, alloc, log, event, .safe⟩) hops hl4 hrm) loc_MuR pend0 <| X.nil <| T.blk_end <| T.end0 Z (fun W D h => ?_)
     rw [safe_last n1 n2 n3]
     exact ⟨D, ⟨rfl, rfl, h⟩, fun _ hk => hk⟩
   ·have n3 : ¬ (ld l 0 % 8 = 3 ∧ tint ≠ ld l 0 / 8) := fun h => p3 h.1
    refine tx [0,1,2,3,4,5,6,7,8,9,10] nf Z Z <| xmv Z Z Z <| xcm (c := false) Z Z Z Z Z (beq_eq_false_iff_ne.2 p3) <| xmv Z Z Z <| x_skip Z Z Z <| x_skip Z Z Z <| x_skip Z Z Z <| x_skip Z Z Z <| x_skip Z Z Z <| x_skip Z Z Z <| xpk Z Z Z Z <| xas Z Z Z ?_
    refine X.nil <| T.no Z <| tx [0,1,2,3] (ct [3]) Z Z <| xmv Z Z Z <| xmv Z Z Z <| xmf Z Z Z Z ?_
    refine xcf (H1 := []) (H2 := [_, _]) Z Z Z Z g114 Z (ct_flushB (x := ⟨i, os, ⟨k0, k1, k2, k3⟩, roots, tasks, armed, still, tint, ld l 0 / 8, k, alloc, log, event, .safe⟩) hops hl4 hrm) loc_MuR pend0 <| X.nil <| T.blk_end <| T.end0 Z (fun W D h => ?_)
    rw [safe_last n1 n2 n3]
    exact ⟨D, ⟨rfl, rfl, h⟩, fun _ hk => hk⟩
end Go.Proofs.YtmpcfamcbaineaaGreat.Mo
