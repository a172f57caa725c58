/- Part 11 of the proof: contracts of the functions that the law reaches, and the plain law. No condition. -/
import Derived.Test.YtmpcfamcbaineaaGreatU10
namespace Go.Proofs.YtmpcfamcbaineaaGreat.Mo.Iv
open Go.RowKit Go.Proofs.YtmpcfamcbaineaaGreat.Mo
set_option linter.unusedVariables false
set_option linter.unusedSimpArgs false
open Go.Proofs.YtmpcfamcbaineaaGreat.Mo
section
variable {M : MapM} {l l' : Wds} {n c bo ao i : Int}
theorem Rl.weak (h : Rl M c (-1) ao l l') : Rl M c bo ao l l' := ⟨h.task, h.entry, h.mark, fun j hj => by
  by_cases e : j = -1
  · subst e
    have : ∀ l : Wds, Iv.bot M l (-1) = 0 := fun l => by
      unfold Iv.bot MapM.Bottom MapM.end_
      rw [if_pos (.inl (by omega))]
      exact ld_neg (by omega)
    rw [this, this]
  · exact h.bot j e, h.ack⟩
theorem Ef.weak (h : Ef M n c (-1) ao l l') : Ef M n c bo ao l l' := ⟨h.rl.weak, h.ph, h.wd⟩
theorem Ef.rest (h : Ef M n c (-1) ao l l') (hi : 0 ≤ i) (hr : rest M n l i) : rest M (n + 1) l' i := rest_mono h.rl (by omega) hr
def pushOk (M : MapM) (n : Int) (l : Wds) (i : Int) (m : Dq) : Prop :=
  m.e = M.ends i ∧ rest M n l i ∧ match m.next with
  | .pushFirst => CT M m.w
  | .pushTop | .pushEntry => CT M m.w ∧ m.b = bot M l i
  | .pushEnd => m.b = bot M l i ∧ CT M (ld l (M.Entry i (m.b % M.deque)))
  | .nil => True
  | _ => False
theorem entry_in (hL : La M) (hi : 0 ≤ i) (hi' : i < M.markers) {b : Int} : 0 ≤ ad M (.entry i (b % M.deque)) := by
  have := hL.dq
  have h0 : 0 ≤ b % M.deque ∧ b % M.deque < M.deque := ⟨Int.emod_nonneg _ (by omega), Int.emod_lt_of_pos _ (by omega)⟩
  show 0 ≤ M.Entry i (b % M.deque)
  unfold MapM.Entry
  rw [if_neg (by omega), end_in hi hi']
  have := Int.mul_nonneg hi (show 0 ≤ 2 + M.deque by have := hL.dq; omega)
  have := hL.deqs; have := hL.head; have := hL.mu
  omega
theorem push_step (hL : La M) (hw : Wd M n l) (hi : 0 ≤ i) (hi' : i < M.markers) (hn : n < 900000) {m : Dq} (h : pushOk M n l i m) :
    Ef M n c i ao l (m.step l).2 ∧ pushOk M (n + 1) (m.step l).2 i (m.step l).1 := by
  obtain ⟨h1, h3, h2⟩ := h
  have hr := Rl.refl (M := M) (l := l) (c := c) (bo := i) (ao := ao)
  have h3' : rest M (n + 1) l i := rest_same hr rfl h3
  unfold Dq.step
  split <;> rename_i hx <;> rw [hx] at h2 <;> simp only at h2
  · exact ⟨.refl hw, h1, h3', by simp [hx]⟩
  · exact ⟨.refl hw, h1, h3', h2, by show ld l m.e.bottom = _; rw [h1]; rfl⟩
  · split
    · exact ⟨.refl hw, h1, h3', trivial⟩
    · exact ⟨.refl hw, h1, h3', h2⟩
  · have e : m.e.at_ m.b = M.Entry i (m.b % M.deque) := by rw [h1, ends_at hL hi hi']
    rw [e]
    have he : Ef M n c (-1) ao l (put l (M.Entry i (m.b % M.deque)) m.w) := ef_entry hL hw h2.1
    refine ⟨he.weak, h1, he.rest hi h3, ?_, ?_⟩
    · exact h2.2.trans (he.rl.bot i (by omega)).symm
    · have := hw.eq hL (p := .entry i (m.b % M.deque)) (entry_in hL hi hi') (v := m.w)
      simp only [ad] at this
      show CT M (ld (put l _ _) _)
      rw [this]; exact h2.1
  · have e : m.e.bottom = M.Bottom i := by rw [h1]; rfl
    rw [e]
    obtain ⟨h4, h5⟩ := h2
    have e1 : w64 (m.b + 1) = bot M l i + 1 := by rw [h4]; exact w64_id (by have := h3.1; have := h3.2.1; omega)
    rw [e1]
    have hwr : wr M l i (bot M l i + 1) := fun k k0 k1 => by
      by_cases ek : k = bot M l i
      · rw [ek, ← h4]; exact h5
      · exact h3.2.2 k k0 (by omega)
    have he : Ef M n c i ao l (put l (M.Bottom i) (bot M l i + 1)) := ef_bottom hL hw ⟨by have := h3.1; omega, by have := h3.2.1; omega, hwr, .inl rfl⟩
    refine ⟨he, h1, ?_, trivial⟩
    have hb : bot M (put l (M.Bottom i) (bot M l i + 1)) i = bot M l i + 1 := hw.eq hL (p := .bottom i) (bot_in hL hi hi')
    unfold Iv.rest
    rw [hb]
    exact ⟨by have := h3.1; omega, by have := h3.2.1; omega, he.rl.wr hwr⟩
def stealOk (M : MapM) (n : Int) (l : Wds) (v : Int) (m : Dq) : Prop :=
  m.e = M.ends v ∧ match m.next with
  | .stealFirst => True
  | .stealBottom => 0 ≤ m.t ∧ m.t ≤ n
  | .stealEntry => CT M (ld l (M.Entry v (m.t % M.deque)))
  | .stealSwap => CT M m.w
  | .nil => m.out = 1 → CT M m.w
  | _ => False
theorem steal_step (hL : La M) (hw : Wd M n l) {v : Int} (hi : 0 ≤ v) (hi' : v < M.markers) (hn : n < 900000) {m : Dq} (h : stealOk M n l v m) :
    Ef M n c bo ao l (m.step l).2 ∧ stealOk M (n + 1) (m.step l).2 v (m.step l).1 := by
  obtain ⟨h1, h2⟩ := h
  unfold Dq.step
  split <;> rename_i hx <;> rw [hx] at h2 <;> simp only at h2
  · exact ⟨.refl hw, h1, by simp only [hx]; exact h2⟩
  · refine ⟨.refl hw, h1, ?_⟩
    have := hw.top v
    show 0 ≤ ld l m.e.top ∧ ld l m.e.top ≤ n + 1
    rw [h1]
    show 0 ≤ ld l (M.Top v) ∧ ld l (M.Top v) ≤ n + 1
    omega
  · split
    · exact ⟨.refl hw, h1, fun g => by cases g⟩
    · rename_i hd
      refine ⟨.refl hw, h1, ?_⟩
      obtain ⟨b, b0, b1, b2, b3⟩ := hw.dq v hi hi'
      rw [h1] at hd
      have := dist_bot (b := b) (by omega) (by omega) b3 hd
      exact b2 _ h2.1 this
  · refine ⟨.refl hw, h1, ?_⟩
    show CT M (ld l (m.e.at_ m.t))
    rw [h1, ends_at hL hi hi']
    exact h2
  · have he := popTop_ef (c := c) (bo := bo) (ao := ao) hL hw hn h1
    split
    · exact ⟨he, h1, fun _ => h2⟩
    · exact ⟨he, h1, fun g => by cases g⟩
theorem steal_mono (hr : Rl M c bo ao l l') {v : Int} {m : Dq} (h : stealOk M n l v m) : stealOk M (n + 1) l' v m := by
  obtain ⟨h1, h2⟩ := h
  refine ⟨h1, ?_⟩
  cases hx : m.next <;> rw [hx] at h2 <;> simp only at h2 ⊢
  · exact h2
  · omega
  · exact hr.entry _ _ h2
  · exact h2
theorem pop_mono (hr : Rl M c bo ao l l') (hi : i ≠ bo) {m : Dq} (h : popOk M n l i m) : popOk M (n + 1) l' i m := by
  obtain ⟨h1, h2⟩ := h
  have hb := hr.bot i hi
  refine ⟨h1, ?_⟩
  cases hx : m.next <;> rw [hx] at h2 <;> simp only at h2 ⊢
  · exact ⟨rest_mono hr hi h2.1, h2.2⟩
  · exact ⟨rest_mono hr hi h2.1, h2.2⟩
  · exact ⟨rest_mono hr hi h2.1, by rw [hb]; exact h2.2⟩
  · obtain ⟨b, g1, g2⟩ := h2; exact ⟨b, half_mono hr hb rfl g1, g2⟩
  · obtain ⟨b, g1, g2⟩ := h2; exact ⟨b, half_mono hr hb rfl g1, g2⟩
  · obtain ⟨b, g1, g2⟩ := h2; exact ⟨b, half_mono hr hb rfl g1, g2⟩
  · obtain ⟨b, g1, g2⟩ := h2; exact ⟨b, half_mono hr hb rfl g1, g2⟩
theorem push_mono (hr : Rl M c bo ao l l') (hi : i ≠ bo) {m : Dq} (h : pushOk M n l i m) : pushOk M (n + 1) l' i m := by
  obtain ⟨h1, h3, h2⟩ := h
  have hb := hr.bot i hi
  refine ⟨h1, rest_mono hr hi h3, ?_⟩
  cases hx : m.next <;> rw [hx] at h2 <;> simp only at h2 ⊢
  · exact h2
  · rw [hb]; exact h2
  · rw [hb]; exact h2
  · rw [hb]; exact ⟨h2.1, hr.entry _ _ h2.2⟩
def adOk (M : MapM) (n : Int) (l : Wds) (i : Int) (x : Ad) : Prop :=
  CT M x.task ∧ match x.next with
  | .own => pushOk M n l i x.push
  | .pool => rest M n l i ∧ pkOk M l x.put
  | .nil => rest M n l i
theorem ad_new {t : Int} (hr : rest M n l i) (h : CT M t) : adOk M n l i (.new M i t) := ⟨h, rfl, hr, h⟩
theorem ad_mono (hr : Rl M c bo ao l l') (hi : i ≠ bo) {x : Ad} (h : adOk M n l i x) : adOk M (n + 1) l' i x := by
  obtain ⟨h1, h2⟩ := h
  refine ⟨h1, ?_⟩
  cases hx : x.next <;> rw [hx] at h2 <;> simp only at h2 ⊢
  · exact rest_mono hr hi h2
  · exact push_mono hr hi h2
  · exact ⟨rest_mono hr hi h2.1, pk_mono hr h2.2⟩
theorem ad_step (hL : La M) (hw : Wd M n l) (hi : 0 ≤ i) (hi' : i < M.markers) (hn : n < 900000) {x : Ad} (h : adOk M n l i x) :
    Ef M n c i ao l (x.step M l).2 ∧ adOk M (n + 1) (x.step M l).2 i (x.step M l).1 := by
  obtain ⟨h1, h2⟩ := h
  unfold Mo.Ad.step
  split <;> rename_i hx <;> rw [hx] at h2 <;> simp only at h2
  · exact ⟨.refl hw, h1, by simp only [hx]; exact rest_same (.refl (c := c) (bo := i) (ao := ao)) rfl h2⟩
  · have hs := push_step (c := c) (ao := ao) hL hw hi hi' hn h2
    repeat' split
    · exact ⟨hs.1, h1, hs.2.2.1, pk_put ⟨by simpa using h1, by simp⟩⟩
    · exact ⟨hs.1, h1, hs.2.2.1⟩
    · refine ⟨hs.1, h1, ?_⟩
      simp only [hx]
      exact hs.2
  · have hs := pk_step (c := c) (bo := -1) (ao := ao) hL hw h2.2
    split
    · exact ⟨hs.1.weak, h1, hs.1.rest hi h2.1⟩
    · refine ⟨hs.1.weak, h1, ?_⟩
      simp only [hx]
      exact ⟨hs.1.rest hi h2.1, hs.2⟩
def goodEv (M : MapM) (e : Ev) : Prop := e.kind = 0 ∨ ((1 ≤ e.kind ∧ e.kind ≤ 4) ∧ e.a = M.nodes) ∨ e.kind = 6 ∨ e.kind = 7 ∨ e.kind = 14
theorem good_ev0 : goodEv M ev0 := .inl rfl
theorem good_of {k b d w : Int} (h : 1 ≤ k ∧ k ≤ 4) : goodEv M ⟨k, w, M.nodes, b, d⟩ := .inr (.inl ⟨h, rfl⟩)
def scOk (M : MapM) (n : Int) (l : Wds) (i : Int) (x : Sc) : Prop :=
  x.i = i ∧ x.v = M.nodes ∧ match x.next with
  | .adds => adOk M n l i x.add
  | .count => rest M n l i ∧ (0 ≤ x.pb ∧ x.pb ≤ 1000)
  | .claims => False
  | _ => rest M n l i
theorem sc_mono (hr : Rl M c bo ao l l') (hi : i ≠ bo) {x : Sc} (h : scOk M n l i x) : scOk M (n + 1) l' i x := by
  obtain ⟨h1, h3, h2⟩ := h
  refine ⟨h1, h3, ?_⟩
  cases hx : x.next <;> rw [hx] at h2 <;> simp only at h2 ⊢
  · exact rest_mono hr hi h2
  · exact rest_mono hr hi h2
  · exact ⟨rest_mono hr hi h2.1, h2.2⟩
  · exact ad_mono hr hi h2
  · exact rest_mono hr hi h2
  · exact rest_mono hr hi h2
theorem bound_rng (a b : Int) : 0 ≤ bound 0 a (bound 0 b 1000) ∧ bound 0 a (bound 0 b 1000) ≤ 1000 := by unfold bound; omega
theorem scOk_two {x : Sc} (h1 : x.i = i) (h3 : x.v = M.nodes) (hn : x.next = .slot ∨ x.next = .last) (hr : rest M n l i) : scOk M n l i x := ⟨h1, h3, by rcases hn with e | e <;> rw [e] <;> exact hr⟩
structure Fst (M : MapM) : Prop where
  slot : ∀ v j, ld M.first (M.Slot v j) = 0
  state : ∀ v, ld M.first (M.State v) = 1 → v = M.nodes
theorem sc_step0 (hL : La M) (hF : Fst M) (hw : Wd M n l) (hi : 0 ≤ i) (hi' : i < M.markers) (hn : n < 900000) {x : Sc} (h : scOk M n l i x) (hev : x.event = ev0) :
    Ef M n c i ao l (x.step0 M l).2 ∧ scOk M (n + 1) (x.step0 M l).2 i (x.step0 M l).1 ∧ goodEv M (x.step0 M l).1.event := by
  obtain ⟨h1, h3, h2⟩ := h
  have hlow : ∀ {v : Int}, Ef M n c (-1) ao l (fad l 1 v) := fun {v} => ef_low hL hw (by omega)
  have hsame : ∀ {i : Int}, rest M n l i → rest M (n + 1) l i := fun h => rest_same (.refl (c := c) (bo := i) (ao := ao)) rfl h
  have hgood : goodEv M x.event := by rw [hev]; exact good_ev0
  unfold Mo.Sc.step0
  split <;> rename_i hx <;> rw [hx] at h2 <;> simp only at h2
  · exact ⟨.refl hw, ⟨h1, h3, by simp only [hx]; exact hsame h2⟩, hgood⟩
  · split
    · exact ⟨.refl hw, ⟨h1, h3, hsame h2, bound_rng _ _⟩, hgood⟩
    · exact ⟨.refl hw, scOk_two h1 h3 (by simp only; split <;> simp) (hsame h2), hgood⟩
  · refine ⟨hlow.weak, ⟨h1, h3, ?_⟩, by rw [h3]; exact good_of (by omega)⟩
    show adOk M (n + 1) _ i (.new M x.i (pair x.v x.pb))
    rw [h1, h3]
    exact ad_new (hlow.rest hi h2.1) (CT_pair (by omega))
  · have hs := ad_step (c := c) (ao := ao) hL hw hi hi' hn h2
    split
    · rename_i hnil
      have hr : rest M (n + 1) (x.add.step M l).2 i := by have := hs.2.2; rw [hnil] at this; exact this
      exact ⟨hs.1, scOk_two h1 h3 (by simp only [Mo.Sc.slots]; split <;> simp) hr, hgood⟩
    · refine ⟨hs.1, ⟨h1, h3, ?_⟩, hgood⟩
      simp only [hx]
      exact hs.2
  · have hz : ld l (M.Slot x.v x.at_) = 0 := by rw [show M.Slot x.v x.at_ = ad M (.slot x.v x.at_) from rfl, hw.frz (.slot x.v x.at_) trivial]; exact hF.slot _ _
    rw [hz]
    split
    · rename_i g; omega
    · exact ⟨.refl hw, scOk_two h1 h3 (by simp only; split <;> simp) (hsame h2), by rw [h3]; exact good_of (by omega)⟩
  · exact ⟨hlow.weak, ⟨h1, h3, hlow.rest hi h2⟩, by rw [h3]; exact good_of (by omega)⟩
theorem sc_step (hL : La M) (hF : Fst M) (hw : Wd M n l) (hi : 0 ≤ i) (hi' : i < M.markers) (hn : n < 900000) {x : Sc} (h : scOk M n l i x) :
    Ef M n c i ao l (x.step M l).2 ∧ scOk M (n + 1) (x.step M l).2 i (x.step M l).1 ∧ goodEv M (x.step M l).1.event := sc_step0 hL hF hw hi hi' hn (x := { x with event := ev0 }) h rfl
end
end Go.Proofs.YtmpcfamcbaineaaGreat.Mo.Iv
namespace Go.Proofs.YtmpcfamcbaineaaGreat.Mo.Iv
open Go.RowKit Go.Proofs.YtmpcfamcbaineaaGreat.Mo
set_option linter.unusedVariables false
set_option linter.unusedSimpArgs false
open Go.Proofs.YtmpcfamcbaineaaGreat.Mo
section
variable {M : MapM} {l l' : Wds} {n c bo ao i : Int}
def bagOk (M : MapM) (l : Wds) (b : Bag) : Prop := ∀ j, 0 ≤ j → j < b.many → j < 4 → CT M (ld l (M.Task b.packet j))
theorem bag_mono (hr : Rl M c bo ao l l') {b : Bag} (h : bagOk M l b) : bagOk M l' b := fun j j0 j1 j4 => hr.task _ _ (h j j0 j1 j4)
def skOk (M : MapM) (n : Int) (l : Wds) (i : Int) (x : Sk) : Prop :=
  x.i = i ∧ bagOk M l x.bag ∧ (0 ≤ x.bag.at_ ∧ x.bag.many ≤ 4) ∧ match x.next with
  | .own => x.found = false ∧ popOk M n l i x.ends
  | .first => x.found = false ∧ rest M n l i ∧ x.bag.at_ < x.bag.many
  | .back | .take => x.found = false ∧ rest M n l i ∧ pkOk M l x.pack
  | .many => x.found = false ∧ rest M n l i
  | .steal => x.found = false ∧ rest M n l i ∧ ∃ v, 0 ≤ v ∧ v < M.markers ∧ stealOk M n l v x.ends
  | .nil => rest M n l i ∧ (x.found = true → CT M x.task)
theorem sk_mono (hr : Rl M c bo ao l l') (hi : i ≠ bo) {x : Sk} (h : skOk M n l i x) : skOk M (n + 1) l' i x := by
  obtain ⟨h1, h3, h4, h2⟩ := h
  refine ⟨h1, bag_mono hr h3, h4, ?_⟩
  cases hx : x.next <;> rw [hx] at h2 <;> simp only at h2 ⊢
  · exact ⟨rest_mono hr hi h2.1, h2.2⟩
  · exact ⟨h2.1, pop_mono hr hi h2.2⟩
  · exact ⟨h2.1, rest_mono hr hi h2.2.1, h2.2.2⟩
  · exact ⟨h2.1, rest_mono hr hi h2.2.1, pk_mono hr h2.2.2⟩
  · exact ⟨h2.1, rest_mono hr hi h2.2.1, pk_mono hr h2.2.2⟩
  · exact ⟨h2.1, rest_mono hr hi h2.2⟩
  · obtain ⟨g1, g2, v, v0, v1, g3⟩ := h2
    exact ⟨g1, rest_mono hr hi g2, v, v0, v1, steal_mono hr g3⟩
theorem sk_new {b : Bag} {dr : Int} (hr : rest M n l i) (h : bagOk M l b) : skOk M n l i (.new M i b dr) := by
  refine ⟨rfl, fun j j0 j1 j4 => h j j0 ?_ j4, ?_, rfl, rfl, hr, rfl⟩
  · simp only [Mo.Sk.new] at j1; omega
  · simp only [Mo.Sk.new]; omega
theorem bag0_ok : bagOk M l bag0 := fun j j0 j1 => by simp [bag0] at j1; omega
theorem sk_unpack {x : Sk} (h1 : x.i = i) (h3 : bagOk M l x.bag) (h4 : 0 ≤ x.bag.at_ ∧ x.bag.many ≤ 4) (hf : x.found = false) (hr : rest M n l i) : skOk M n l i (x.unpack M) := by
  unfold Mo.Sk.unpack
  repeat' split
  · rename_i g
    exact ⟨h1, h3, h4, hf, hr, g.2⟩
  · exact ⟨h1, bag0_ok, by simp [bag0], hf, hr, pk_take⟩
  · exact ⟨h1, bag0_ok, by simp [bag0], hf, hr, pk_back⟩
theorem victim_rng (hL : La M) {i dr : Int} (h : victim M.markers i dr ≥ 0) : 0 ≤ victim M.markers i dr ∧ victim M.markers i dr < M.markers := by
  unfold victim at h ⊢
  split
  · rename_i g; rw [if_pos g] at h; omega
  · have h0 : 0 < M.markers := by have := hL.mks; omega
    have a1 := Int.emod_nonneg dr (show M.markers ≠ 0 by omega)
    have a2 := Int.emod_lt_of_pos dr h0
    have a3 := Int.emod_nonneg (dr % M.markers + 1) (show M.markers ≠ 0 by omega)
    have a4 := Int.emod_lt_of_pos (dr % M.markers + 1) h0
    split <;> omega
theorem sk_step (hL : La M) (hw : Wd M n l) (hi : 0 ≤ i) (hi' : i < M.markers) (hn : n < 900000) {x : Sk} (h : skOk M n l i x) :
    Ef M n c i ao l (x.step M l).2 ∧ skOk M (n + 1) (x.step M l).2 i (x.step M l).1 := by
  obtain ⟨h1, h3, h4, h2⟩ := h
  have hsame : rest M n l i → rest M (n + 1) l i := fun h => rest_same (.refl (c := c) (bo := i) (ao := ao)) rfl h
  unfold Mo.Sk.step
  split <;> rename_i hx <;> rw [hx] at h2 <;> simp only at h2
  · exact ⟨.refl hw, h1, h3, h4, by simp only [hx]; exact ⟨hsame h2.1, h2.2⟩⟩
  · have hs := pop_step (c := c) (ao := ao) hL hw hi hi' hn h2.2
    have hb := bag_mono hs.1.rl h3
    split
    · rename_i hnil
      have hq : rest M (n + 1) (x.ends.step l).2 i ∧ ((x.ends.step l).1.out = 1 → CT M (x.ends.step l).1.w) := by have := hs.2.2; rw [hnil] at this; exact this
      split
      · rename_i ho
        exact ⟨hs.1, h1, hb, h4, hq.1, fun _ => hq.2 ho⟩
      · exact ⟨hs.1, sk_unpack h1 hb h4 h2.1 hq.1⟩
    · refine ⟨hs.1, h1, hb, h4, ?_⟩
      simp only [hx]
      exact ⟨h2.1, hs.2⟩
  · refine ⟨.refl hw, h1, h3, ⟨by have := h4.1; simp only [Mo.Sk.done]; omega, h4.2⟩, hsame h2.2.1, fun _ => ?_⟩
    exact h3 _ h4.1 h2.2.2 (by have := h2.2.2; omega)
  · have hs := pk_step (c := c) (bo := -1) (ao := ao) hL hw h2.2.2
    have hb := bag_mono hs.1.rl h3
    split
    · exact ⟨hs.1.weak, h1, hb, h4, h2.1, hs.1.rest hi h2.2.1, pk_take⟩
    · refine ⟨hs.1.weak, h1, hb, h4, ?_⟩
      simp only [hx]
      exact ⟨h2.1, hs.1.rest hi h2.2.1, hs.2⟩
  · have hs := pk_step (c := c) (bo := -1) (ao := ao) hL hw h2.2.2
    have hb := bag_mono hs.1.rl h3
    have hr' := hs.1.rest hi h2.2.1
    repeat' split
    · exact ⟨hs.1.weak, h1, hb, h4, h2.1, hr'⟩
    · rename_i hv
      obtain ⟨v0, v1⟩ := victim_rng hL hv
      exact ⟨hs.1.weak, h1, hb, h4, h2.1, hr', _, v0, v1, rfl, trivial⟩
    · exact ⟨hs.1.weak, h1, hb, h4, hr', fun g => by rw [show x.found = true from g] at h2; exact absurd h2.1 (by simp)⟩
    · refine ⟨hs.1.weak, h1, hb, h4, ?_⟩
      simp only [hx]
      exact ⟨h2.1, hr', hs.2⟩
  · refine ⟨.refl hw, sk_unpack h1 ?_ ?_ h2.1 (hsame h2.2)⟩
    · intro j j0 j1 j4
      simp only at j1
      exact hw.many x.pack.p j j0 j4 (by omega)
    · simp only; omega
  · obtain ⟨g1, g2, v, v0, v1, g3⟩ := h2
    have hs := steal_step (c := c) (bo := -1) (ao := ao) hL hw v0 v1 hn g3
    have hb := bag_mono hs.1.rl h3
    have hr' := hs.1.rest hi g2
    repeat' split
    · rename_i hnil ho
      have hq : (x.ends.step l).1.out = 1 → CT M (x.ends.step l).1.w := by have := hs.2.2; rw [hnil] at this; exact this
      exact ⟨hs.1.weak, h1, hb, h4, hr', fun _ => hq ho⟩
    · exact ⟨hs.1.weak, h1, hb, h4, hr', fun g => by rw [show x.found = true from g] at g1; cases g1⟩
    · refine ⟨hs.1.weak, h1, hb, h4, ?_⟩
      simp only [hx]
      exact ⟨g1, hr', v, v0, v1, hs.2⟩
def swOk (M : MapM) (l : Wds) (x : Sw) : Prop :=
  x.cycle ≤ mrk M l ∧ match x.next with
  | .mark => x.v = M.nodes
  | .free | .list => False
  | _ => True
theorem sw_mono (hr : Rl M c bo ao l l') {x : Sw} (h : swOk M l x) : swOk M l' x := ⟨by have := hr.le; have := h.1; omega, h.2⟩
theorem sw_two {x : Sw} (h : x.cycle ≤ mrk M l) (hn : x.next = .state ∨ x.next = .done) : swOk M l x := ⟨h, by rcases hn with e | e <;> rw [e] <;> trivial⟩
theorem sw_on {x : Sw} (h : x.cycle ≤ mrk M l) : swOk M l x.on := sw_two h (by simp only [Mo.Sw.on]; split <;> simp)
theorem sw_step0 (hL : La M) (hF : Fst M) (hw : Wd M n l) {x : Sw} (h : swOk M l x) (hev : x.event = ev0) :
    Ef M n c (-1) ao l (x.step0 M l).2 ∧ swOk M (x.step0 M l).2 (x.step0 M l).1 ∧ goodEv M (x.step0 M l).1.event := by
  obtain ⟨h1, h2⟩ := h
  have hgood : goodEv M x.event := by rw [hev]; exact good_ev0
  have h2c : ∀ {o v : Int}, Ef M n c (-1) ao l (cas l 2 o v) := fun {o v} => ef_cas hw (ef_low hL hw (by omega))
  have hle : ∀ {o v : Int}, x.cycle ≤ mrk M (cas l 2 o v) := fun {o v} => by
    have : mrk M l ≤ mrk M (cas l 2 o v) := (h2c (o := o) (v := v)).rl.le
    omega
  unfold Mo.Sw.step0
  split <;> rename_i hx <;> rw [hx] at h2 <;> simp only at h2
  · exact ⟨.refl hw, ⟨h1, by simp only [hx]⟩, hgood⟩
  · split
    · exact ⟨.refl hw, ⟨h1, trivial⟩, hgood⟩
    · exact ⟨.refl hw, ⟨h1, trivial⟩, hgood⟩
  · split
    · exact ⟨h2c, sw_two hle (by simp only; split <;> simp), hgood⟩
    · exact ⟨h2c, ⟨hle, trivial⟩, hgood⟩
  · split
    · rename_i hst
      refine ⟨.refl hw, ⟨h1, ?_⟩, hgood⟩
      rw [show M.State x.v = ad M (.state x.v) from rfl, hw.frz (.state x.v) trivial] at hst
      exact hF.state _ hst
    · exact ⟨.refl hw, sw_on h1, hgood⟩
  · split
    · rename_i hlt
      rw [h2] at hlt
      unfold mrk at h1
      omega
    · exact ⟨.refl hw, sw_on h1, hgood⟩
  · have he : Ef M n c (-1) ao l (fad l 3 1) := ef_low hL hw (by omega)
    exact ⟨he, ⟨Int.le_trans h1 he.rl.le, trivial⟩, .inr (.inr (.inl rfl))⟩
theorem sw_step (hL : La M) (hF : Fst M) (hw : Wd M n l) {x : Sw} (h : swOk M l x) :
    Ef M n c (-1) ao l (x.step M l).2 ∧ swOk M (x.step M l).2 (x.step M l).1 ∧ goodEv M (x.step M l).1.event := sw_step0 hL hF hw (x := { x with event := ev0 }) h rfl
def mkOk (M : MapM) (n : Int) (l : Wds) (i : Int) (x : Mk) : Prop :=
  x.i = i ∧ bagOk M l x.bag ∧ match x.next with
  | .look => rest M n l i
  | .seeks => skOk M n l i x.seek
  | .wait => rest M n l i ∧ CT M x.task
  | .scans => scOk M n l i x.scan
  | .sweeps => rest M n l i ∧ swOk M l x.sweep
theorem mk_mono (hr : Rl M c bo ao l l') (hi : i ≠ bo) {x : Mk} (h : mkOk M n l i x) : mkOk M (n + 1) l' i x := by
  obtain ⟨h1, h3, h2⟩ := h
  refine ⟨h1, bag_mono hr h3, ?_⟩
  cases hx : x.next <;> rw [hx] at h2 <;> simp only at h2 ⊢
  · exact rest_mono hr hi h2
  · exact sk_mono hr hi h2
  · exact ⟨rest_mono hr hi h2.1, h2.2⟩
  · exact sc_mono hr hi h2
  · exact ⟨rest_mono hr hi h2.1, sw_mono hr h2.2⟩
theorem mk_step (hL : La M) (hF : Fst M) (hw : Wd M n l) (hi : 0 ≤ i) (hi' : i < M.markers) (hn : n < 900000) (hph : ld l 0 % 8 = 5 → ld l 0 / 8 ≤ mrk M l) {x : Mk} (h : mkOk M n l i x) {dr : Int} :
    Ef M n c i ao l (x.step M l dr).2 ∧ mkOk M (n + 1) (x.step M l dr).2 i (x.step M l dr).1 ∧ goodEv M (x.step M l dr).1.event := by
  obtain ⟨h1, h3, h2⟩ := h
  have hsame : rest M n l i → rest M (n + 1) l i := fun h => rest_same (.refl (c := c) (bo := i) (ao := ao)) rfl h
  unfold Mo.Mk.step
  split <;> rename_i hx <;> rw [hx] at h2 <;> simp only at h2
  · repeat' split
    · refine ⟨.refl hw, ⟨h1, h3, ?_⟩, good_ev0⟩
      rw [h1]
      exact sk_new (hsame h2) h3
    · rename_i g
      exact ⟨.refl hw, ⟨h1, h3, hsame h2, hph g, trivial⟩, good_ev0⟩
    · refine ⟨.refl hw, ⟨h1, h3, ?_⟩, good_ev0⟩
      simp only [hx]
      exact hsame h2
  · have hs := sk_step (c := c) (ao := ao) hL hw hi hi' hn h2
    split
    · rename_i hnil
      have hq : rest M (n + 1) (x.seek.step M l).2 i ∧ ((x.seek.step M l).1.found = true → CT M (x.seek.step M l).1.task) := by have := hs.2.2.2.2; rw [hnil] at this; exact this
      refine ⟨hs.1, ⟨h1, hs.2.2.1, ?_⟩, good_ev0⟩
      cases hf : (x.seek.step M l).1.found
      · exact hq.1
      · exact ⟨hq.1, hq.2 hf⟩
    · refine ⟨hs.1, ⟨h1, bag_mono hs.1.rl h3, ?_⟩, good_ev0⟩
      simp only [hx]
      exact hs.2
  · split
    · exact ⟨.refl hw, ⟨h1, h3, h1, h2.2, hsame h2.1⟩, good_ev0⟩
    · refine ⟨.refl hw, ⟨h1, h3, ?_⟩, good_ev0⟩
      simp only [hx]
      exact ⟨hsame h2.1, h2.2⟩
  · have hs := sc_step (c := c) (ao := ao) hL hF hw hi hi' hn h2
    have hb := bag_mono hs.1.rl h3
    split
    · rename_i hnil
      have hq : rest M (n + 1) (x.scan.step M l).2 i := by have := hs.2.1.2.2; rw [hnil] at this; exact this
      exact ⟨hs.1, ⟨h1, hb, hq⟩, hs.2.2⟩
    · refine ⟨hs.1, ⟨h1, hb, ?_⟩, hs.2.2⟩
      simp only [hx]
      exact hs.2.1
  · have hs := sw_step (c := c) (ao := ao) hL hF hw h2.2
    have hb := bag_mono hs.1.rl h3
    have hr' := hs.1.rest hi h2.1
    split
    · exact ⟨hs.1.weak, ⟨h1, hb, hr'⟩, hs.2.2⟩
    · refine ⟨hs.1.weak, ⟨h1, hb, ?_⟩, hs.2.2⟩
      simp only [hx]
      exact ⟨hr', hs.2.1⟩
end
end Go.Proofs.YtmpcfamcbaineaaGreat.Mo.Iv
namespace Go.Proofs.YtmpcfamcbaineaaGreat.Mo.Iv
open Go.RowKit Go.Proofs.YtmpcfamcbaineaaGreat.Mo
set_option linter.unusedVariables false
set_option linter.unusedSimpArgs false
open Go.Proofs.YtmpcfamcbaineaaGreat.Mo
section
variable {M : MapM} {l l' : Wds} {n c bo ao i : Int}
def clOk (M : MapM) (l : Wds) (c : Int) (x : Cl) : Prop :=
  x.v = M.nodes ∧ x.cycle = c ∧ match x.next with
  | .look => True
  | .count | .swap => x.k < c ∧ (mrk M l = x.k ∨ c ≤ mrk M l)
  | .back | .nil => c ≤ mrk M l
theorem cl_mono (hr : Rl M c bo ao l l') {x : Cl} (h : clOk M l c x) : clOk M l' c x := by
  obtain ⟨h1, h3, h2⟩ := h
  have := hr.mark
  have := hr.le
  refine ⟨h1, h3, ?_⟩
  cases hx : x.next <;> rw [hx] at h2 <;> simp only at h2 ⊢
  · omega
  · omega
  · omega
  · omega
theorem mark_in (hL : La M) : 0 ≤ ad M (.mark M.nodes) := by
  have h := hL.room M.nodes hL.nn.1 (Int.le_refl _)
  have := (hL.node M.nodes 2 hL.nn.1 (Int.le_refl _) (by omega) (by omega)).1
  have := hL.node0; have := hL.pks; have := hL.dqn; have := hL.deqs; have := hL.head; have := hL.mu; have := hL.many
  show 0 ≤ M.node M.nodes 2
  omega
theorem cl_step (hL : La M) (hw : Wd M n l) {x : Cl} (h : clOk M l c x) : Ef M n c bo ao l (x.step M l).2 ∧ clOk M (x.step M l).2 c (x.step M l).1 := by
  obtain ⟨h1, h3, h2⟩ := h
  have hlow : ∀ {v : Int}, Ef M n c bo ao l (fad l 1 v) := fun {v} => ef_low hL hw (by omega)
  unfold Mo.Cl.step
  split <;> rename_i hx <;> rw [hx] at h2 <;> simp only at h2
  · exact ⟨.refl hw, h1, h3, by simp only [hx]; exact h2⟩
  · split
    · rename_i g
      rw [h1, h3] at g
      exact ⟨.refl hw, h1, h3, g⟩
    · rename_i g
      refine ⟨.refl hw, h1, h3, ?_⟩
      rw [h1, h3] at g
      simp only [h1]
      exact ⟨by omega, .inl rfl⟩
  · have := (hlow (v := 1)).rl.mark
    have := (hlow (v := 1)).rl.le
    exact ⟨hlow, h1, h3, h2.1, by simp only; omega⟩
  · rw [h1, h3]
    split
    · rename_i hc
      obtain ⟨g1, g2⟩ := casB_eq hc
      have hm : mrk M l = x.k := g2
      rw [show cas l (M.Mark M.nodes) x.k c = put l (M.Mark M.nodes) c from if_pos hc]
      refine ⟨ef_mark hL hw (by omega), rfl, rfl, ?_⟩
      have : mrk M (put l (M.Mark M.nodes) c) = c := hw.eq hL (p := .mark M.nodes) (mark_in hL)
      exact Int.le_of_eq this.symm
    · rename_i hc
      rw [show cas l (M.Mark M.nodes) x.k c = l from if_neg hc]
      refine ⟨.refl hw, rfl, rfl, ?_⟩
      have hin := hw.inM hL (mark_in hL)
      have hne : ¬ mrk M l = x.k := fun g => hc (decide_eq_true ⟨hin, g⟩)
      show c ≤ mrk M l
      omega
  · have := (hlow (v := less)).rl.le
    exact ⟨hlow, h1, h3, Int.le_trans h2 this⟩
def tl (M : MapM) (ts : List Int) : Prop := (∀ w ∈ ts, CT M w) ∧ (ts.length : Int) < M.buffer
theorem tl_ts (hL : La M) {ts : List Int} (h : tl M ts) : tsOk M ts := ⟨h.1, by have := h.2; have := hL.bu; omega⟩
theorem tl_nil (hL : La M) : tl M [] := ⟨by simp, by have := hL.bu; simp; omega⟩
theorem bu_claims (hL : La M) (hw : Wd M n l) {b : Bu} {ts : List Int} (hx : b.next = .claims) (hv : b.v = M.nodes) (hc : clOk M l c b.claim) (ht : tl M ts) :
    Ef M n c bo ao l (b.step M ts l).2.2 ∧ goodEv M (b.step M ts l).1.event ∧
      ((b.step M ts l).1.next = .claims ∧ (b.step M ts l).1.v = M.nodes ∧ clOk M (b.step M ts l).2.2 c (b.step M ts l).1.claim ∧ (b.step M ts l).2.1 = ts ∨
       c ≤ mrk M (b.step M ts l).2.2 ∧ ((b.step M ts l).1.next = .puts ∧ pkOk M (b.step M ts l).2.2 (b.step M ts l).1.put ∨ (b.step M ts l).1.next = .nil ∧ tl M (b.step M ts l).2.1)) := by
  have hs := cl_step (bo := bo) (ao := ao) hL hw hc
  unfold Mo.Bu.step Mo.Bu.step0
  simp only [hx]
  have hct : CT M (pair b.v 0) := by rw [hv]; exact CT_pair (by omega)
  have hall : ∀ w ∈ ts ++ [pair b.v 0], CT M w := fun w hm => by
    rcases List.mem_append.1 hm with h | h
    · exact ht.1 w h
    · rw [List.mem_singleton.1 h]; exact hct
  have hg1 : goodEv M ⟨1, 0, b.v, 0, 0⟩ := by rw [hv]; exact good_of (by omega)
  split
  · rename_i hnil
    have hm : c ≤ mrk M (b.claim.step M l).2 := by have := hs.2.2.2; rw [hnil] at this; exact this
    split
    · split
      · refine ⟨hs.1, hg1, .inr ⟨hm, .inl ⟨rfl, pk_put ⟨hall, ?_⟩⟩⟩⟩
        have := ht.2; have := hL.bu
        simp only [List.length_append, List.length_singleton]
        omega
      · rename_i g
        exact ⟨hs.1, hg1, .inr ⟨hm, .inr ⟨rfl, hall, by simp only; omega⟩⟩⟩
    · exact ⟨hs.1, good_ev0, .inr ⟨hm, .inr ⟨rfl, ht⟩⟩⟩
  · exact ⟨hs.1, good_ev0, .inl ⟨rfl, hv, hs.2, rfl⟩⟩
theorem bu_puts (hL : La M) (hw : Wd M n l) {b : Bu} {ts : List Int} (hx : b.next = .puts) (hp : pkOk M l b.put) :
    Ef M n c bo ao l (b.step M ts l).2.2 ∧ goodEv M (b.step M ts l).1.event ∧
      ((b.step M ts l).1.next = .puts ∧ pkOk M (b.step M ts l).2.2 (b.step M ts l).1.put ∨ (b.step M ts l).1.next = .nil ∧ (b.step M ts l).2.1 = []) := by
  have hs := pk_step (c := c) (bo := bo) (ao := ao) hL hw hp
  unfold Mo.Bu.step Mo.Bu.step0
  simp only [hx]
  split
  · exact ⟨hs.1, good_ev0, .inr ⟨rfl, rfl⟩⟩
  · exact ⟨hs.1, good_ev0, .inl ⟨rfl, hs.2⟩⟩
def work (M : MapM) (l : Wds) (c : Int) (d : Nat) (t i : Int) (x : Mu) : Prop := x.cycle = c ∧ d = 5 ∧ ld l (M.Ack i) < 3 * c ∧ t ≤ i
def muNx (M : MapM) (l : Wds) (c : Int) (d : Nat) (t i : Int) (x : Mu) : Prop :=
  match x.next with
  | .safe => tl M x.tasks
  | .ack w => tl M x.tasks ∧ ((w = 3 * x.cycle - 2 ∨ w = 3 * x.cycle - 1) ∧ 1 ≤ x.cycle ∧ x.cycle ≤ c ∨ w = 3 * x.cycle ∧ work M l c d t i x ∧ c ≤ mrk M l)
  | .does .look => work M l c d t i x ∧ x.k = 1 ∧ (x.log.next = .claims ∧ tl M x.tasks ∧ x.log.v = M.nodes ∧ clOk M l c x.log.claim ∨ x.log.next = .puts ∧ c ≤ mrk M l ∧ pkOk M l x.log.put)
  | .does .ackRoots => work M l c d t i x ∧ c ≤ mrk M l ∧ x.log.next = .puts ∧ pkOk M l x.log.put
  | .does .begin_ => x.log.next = .puts ∧ pkOk M l x.log.put
  | _ => False
structure muOk (M : MapM) (l : Wds) (c : Int) (d : Nat) (t i : Int) (x : Mu) : Prop where
  ii : x.i = i
  ops : x.ops = []
  roots : x.roots = [M.nodes]
  a0 : 0 ≤ ld l (M.Ack i)
  a1 : ld l (M.Ack i) ≤ 3 * c
  a3 : 3 * c ≤ ld l (M.Ack i) → x.tint = c ∧ c ≤ mrk M l
  tn : (d = 6 ∨ d = 5 ∧ i < t) → x.tint = c
  nx : muNx M l c d t i x
theorem mu_phase {c' : Int} {d d' : Nat} {t t' : Int} {x : Mu} (h : muOk M l c d t i x) (hr : Rl M c bo ao l l') (hA : ld l' (M.Ack i) = ld l (M.Ack i)) (hc : c ≤ c') (h3 : 3 * c' ≤ ld l (M.Ack i) → c' = c)
    (hn : (d' = 6 ∨ d' = 5 ∧ i < t') → x.tint = c') (hwk : work M l c d t i x → c' = c ∧ d' = 5 ∧ t' ≤ i) : muOk M l' c' d' t' i x := by
  have hle := hr.le
  have wk : work M l c d t i x → work M l' c' d' t' i x := fun g => by
    obtain ⟨g1, g2, g3⟩ := hwk g
    exact ⟨by rw [g1]; exact g.1, g2, by rw [hA, g1]; exact g.2.2.1, g3⟩
  refine ⟨h.ii, h.ops, h.roots, by rw [hA]; exact h.a0, by rw [hA]; have := h.a1; omega, fun g => ?_, hn, ?_⟩
  · rw [hA] at g
    have := h3 g
    subst this
    have := h.a3 g
    exact ⟨this.1, by omega⟩
  · have h2 := h.nx
    unfold muNx at h2 ⊢
    cases hx : x.next with
    | safe => rw [hx] at h2; exact h2
    | ack w =>
      rw [hx] at h2
      refine ⟨h2.1, ?_⟩
      rcases h2.2 with g | g
      · exact .inl ⟨g.1, g.2.1, by omega⟩
      · have := (hwk g.2.1).1
        exact .inr ⟨g.1, wk g.2.1, by omega⟩
    | does u =>
      rw [hx] at h2
      cases u with
      | look =>
        obtain ⟨g1, g2, g3⟩ := h2
        have e := (hwk g1).1
        subst e
        refine ⟨wk g1, g2, ?_⟩
        rcases g3 with g | g
        · exact .inl ⟨g.1, g.2.1, g.2.2.1, cl_mono hr g.2.2.2⟩
        · exact .inr ⟨g.1, by omega, pk_mono hr g.2.2⟩
      | ackRoots =>
        obtain ⟨g1, g2, g3, g4⟩ := h2
        have e := (hwk g1).1
        exact ⟨wk g1, by omega, g3, pk_mono hr g4⟩
      | begin_ => exact ⟨h2.1, pk_mono hr h2.2⟩
      | _ => exact h2.elim
    | _ => rw [hx] at h2; exact h2.elim
theorem mu_mono {d : Nat} {t : Int} {x : Mu} (h : muOk M l c d t i x) (hr : Rl M c bo ao l l') (hi : i ≠ ao) : muOk M l' c d t i x :=
  mu_phase h hr (hr.ack i hi) (Int.le_refl _) (fun _ => rfl) h.tn (fun g => ⟨rfl, g.2.1, g.2.2.2⟩)
def ph (d : Nat) : Int := [0,1,1,2,2,3,3,4,4,4,4,4,5,5].getD d 0
structure deOk (M : MapM) (n : Int) (l : Wds) (x : De) : Prop where
  c0 : 0 ≤ x.cycle ∧ x.cycle ≤ n
  dn : x.doing ≤ 13
  p0 : ld l 0 = 8 * x.cycle + ph x.doing
  m : (6 ≤ x.doing ∨ x.doing = 0) → x.cycle ≤ mrk M l
  tr : 0 ≤ x.turn
  c1 : 1 ≤ x.doing → 1 ≤ x.cycle
theorem ph_rng (d : Nat) : 0 ≤ ph d ∧ ph d ≤ 5 := by
  rcases (show d < 14 ∨ 14 ≤ d by omega) with h | h
  · have : d = 0 ∨ d = 1 ∨ d = 2 ∨ d = 3 ∨ d = 4 ∨ d = 5 ∨ d = 6 ∨ d = 7 ∨ d = 8 ∨ d = 9 ∨ d = 10 ∨ d = 11 ∨ d = 12 ∨ d = 13 := by omega
    rcases this with rfl | rfl | rfl | rfl | rfl | rfl | rfl | rfl | rfl | rfl | rfl | rfl | rfl | rfl <;> decide
  · unfold ph
    rw [List.getD_eq_getElem?_getD, List.getElem?_eq_none (by simpa using h)]
    decide
theorem ph_inv {d : Nat} (hd : d ≤ 13) : (ph d = 1 → d = 1 ∨ d = 2) ∧ (ph d = 2 → d = 3 ∨ d = 4) ∧ (ph d = 3 → d = 5 ∨ d = 6) ∧ (ph d = 5 → d = 12 ∨ d = 13) := by
  have : d = 0 ∨ d = 1 ∨ d = 2 ∨ d = 3 ∨ d = 4 ∨ d = 5 ∨ d = 6 ∨ d = 7 ∨ d = 8 ∨ d = 9 ∨ d = 10 ∨ d = 11 ∨ d = 12 ∨ d = 13 := by omega
  rcases this with rfl | rfl | rfl | rfl | rfl | rfl | rfl | rfl | rfl | rfl | rfl | rfl | rfl | rfl <;> decide
theorem begin_nil {x : Mu} (h : x.ops = []) : x.begin_ M = { x with next := .safe } := by unfold Mo.Mu.begin_; rw [h]
theorem room_node (hL : La M) : M.Room M.nodes ≠ 0 := by have := hL.room M.nodes hL.nn.1 (Int.le_refl _); omega
theorem look_0 (hL : La M) {x : Mu} (h : x.roots = [M.nodes]) (hk : x.k = 0) : x.look M = { x with k := 1, log := .log M.nodes x.cycle, next := .does .look } := by
  unfold Mo.Mu.look
  rw [h, hk]
  show Mu.lookN M 1 x = _
  unfold Mo.Mu.lookN
  rw [h, hk]
  exact if_neg (room_node hL)
theorem look_1 {x : Mu} (h : x.roots = [M.nodes]) (hk : x.k = 1) : x.look M = x.flushRoots := by
  unfold Mo.Mu.look
  rw [h, hk]
  rfl
theorem flush_nx {d : Nat} {t : Int} {x : Mu} (hL : La M) (hc : 0 ≤ c ∧ c < 1000000) (ht : tl M x.tasks) (hwk : work M l c d t i x) (hm : c ≤ mrk M l) : muNx M l c d t i x.flushRoots := by
  unfold Mo.Mu.flushRoots
  split
  · refine ⟨ht, .inr ⟨?_, hwk, hm⟩⟩
    simp only
    have := hwk.1
    exact w64_id (by omega)
  · rename_i hne
    refine ⟨hwk, hm, ?_, ?_⟩
    · show (if x.tasks = [] then BuN.nil else BuN.puts) = _
      exact if_neg hne
    · exact pk_put (tl_ts hL ht)
end
end Go.Proofs.YtmpcfamcbaineaaGreat.Mo.Iv
namespace Go.Proofs.YtmpcfamcbaineaaGreat.Mo.Iv
open Go.RowKit Go.Proofs.YtmpcfamcbaineaaGreat.Mo
set_option linter.unusedVariables false
set_option linter.unusedSimpArgs false
open Go.Proofs.YtmpcfamcbaineaaGreat.Mo
section
variable {M : MapM} {l l' : Wds} {n c bo ao i : Int}
theorem Rl.weakA (h : Rl M c bo (-1) l l') : Rl M c bo ao l l' := ⟨h.task, h.entry, h.mark, h.bot, fun j hj => by
  by_cases e : j = -1
  · subst e
    have : ∀ l : Wds, ld l (M.Ack (-1)) = 0 := fun l => by
      unfold MapM.Ack
      rw [if_pos (.inl (by omega))]
      exact ld_neg (by omega)
    rw [this, this]
  · exact h.ack j e⟩
theorem Ef.weakA (h : Ef M n c bo (-1) l l') : Ef M n c bo ao l l' := ⟨h.rl.weakA, h.ph, h.wd⟩
theorem work_same {d : Nat} {t : Int} {x x' : Mu} (hA : ld l' (M.Ack i) = ld l (M.Ack i)) (hx : x'.cycle = x.cycle) (h : work M l c d t i x) : work M l' c d t i x' := ⟨by rw [hx]; exact h.1, h.2.1, by rw [hA]; exact h.2.2.1, h.2.2.2⟩
theorem mu_same {d : Nat} {t : Int} {x x' : Mu} (h : muOk M l c d t i x) (hr : Rl M c bo (-1) l l') (hi : 0 ≤ i) (e1 : x'.i = x.i) (e2 : x'.ops = x.ops) (e3 : x'.roots = x.roots) (e4 : x'.tint = x.tint) (hn : muNx M l' c d t i x') : muOk M l' c d t i x' := by
  have hA : ld l' (M.Ack i) = ld l (M.Ack i) := hr.ack i (by omega)
  have hle := hr.le
  refine ⟨e1.trans h.ii, e2.trans h.ops, e3.trans h.roots, by rw [hA]; exact h.a0, by rw [hA]; exact h.a1, fun g => ?_, fun g => e4.trans (h.tn g), hn⟩
  rw [hA] at g
  have := h.a3 g
  exact ⟨e4.trans this.1, by omega⟩
theorem ack_in (hL : La M) (hi : 0 ≤ i) (hi' : i < M.mutators) : 0 ≤ ad M (.ack i) := by
  show 0 ≤ M.Ack i
  unfold MapM.Ack
  rw [if_neg (by omega)]
  have := hL.ack
  omega
theorem mu_step0 (hL : La M) (hw : Wd M n l) (hn : n < 900000) (hi : 0 ≤ i) (hi' : i < M.mutators) {D : De} (hD : deOk M n l D) {x : Mu} (h : muOk M l D.cycle D.doing D.turn i x) (hev : x.event = ev0) :
    Ef M n D.cycle (-1) i l (x.step0 M l).2 ∧ muOk M (x.step0 M l).2 D.cycle D.doing D.turn i (x.step0 M l).1 ∧ goodEv M (x.step0 M l).1.event := by
  have hc := hD.c0
  have hgood : goodEv M x.event := by rw [hev]; exact good_ev0
  have hnx := h.nx
  have hr0 := Rl.refl (M := M) (l := l) (c := D.cycle) (bo := -1) (ao := -1)
  unfold muNx at hnx
  unfold Mo.Mu.step0
  cases hx : x.next with
  | safe =>
    rw [hx] at hnx
    have ht : tl M x.tasks := hnx
    simp only
    have hp0 := ph_rng D.doing
    have hpi := ph_inv hD.dn
    have hmod : ld l 0 % 8 = ph D.doing := by rw [hD.p0]; omega
    have hdiv : ld l 0 / 8 = D.cycle := by rw [hD.p0]; omega
    rw [hmod, hdiv]
    repeat' split
    · rename_i g
      have hd := hpi.1 g.1
      have hc1 := hD.c1 (by omega)
      refine ⟨.refl hw, mu_same h hr0 hi rfl rfl rfl rfl ?_, hgood⟩
      exact ⟨ht, .inl ⟨.inl (by simp only; exact w64_id (by omega)), hc1, Int.le_refl _⟩⟩
    · rename_i g
      have hd := hpi.2.1 g.1
      have hc1 := hD.c1 (by omega)
      refine ⟨.refl hw, mu_same h hr0 hi rfl rfl rfl rfl ?_, hgood⟩
      exact ⟨ht, .inl ⟨.inr (by simp only; exact w64_id (by omega)), hc1, Int.le_refl _⟩⟩
    · rename_i g
      have hd := hpi.2.2.1 g.1
      have htn := h.tn
      have hwk : work M l D.cycle D.doing D.turn i { x with cycle := D.cycle, k := 0 } := by
        refine ⟨rfl, ?_, ?_, ?_⟩
        · rcases hd with hd | hd
          · exact hd
          · exact absurd (htn (.inl hd)) g.2
        · rcases (show ld l (M.Ack i) < 3 * D.cycle ∨ 3 * D.cycle ≤ ld l (M.Ack i) by omega) with k | k
          · exact k
          · exact absurd (h.a3 k).1 g.2
        · rcases (show D.turn ≤ i ∨ i < D.turn by omega) with k | k
          · exact k
          · rcases hd with hd | hd
            · exact absurd (htn (.inr ⟨hd, k⟩)) g.2
            · exact absurd (htn (.inl hd)) g.2
      rw [look_0 hL (by exact h.roots) (by rfl)]
      refine ⟨.refl hw, mu_same h hr0 hi rfl rfl rfl rfl ?_, hgood⟩
      exact ⟨hwk, rfl, .inl ⟨rfl, ht, rfl, rfl, rfl, trivial⟩⟩
    · rw [begin_nil (by exact h.ops)]
      exact ⟨.refl hw, mu_same h hr0 hi rfl rfl rfl rfl ht, hgood⟩
    · rename_i g
      refine ⟨.refl hw, mu_same h hr0 hi rfl rfl rfl rfl ?_, hgood⟩
      exact ⟨if_neg g, pk_put (tl_ts hL ht)⟩
  | ack w =>
    rw [hx] at hnx
    obtain ⟨ht, hk⟩ := hnx
    simp only
    rw [begin_nil (by exact h.ops), h.ii]
    have he : Ef M n D.cycle (-1) i l (put l (M.Ack i) w) := ef_ack hL hw
    have hA : ld (put l (M.Ack i) w) (M.Ack i) = w := hw.eq hL (p := .ack i) (ack_in hL hi hi')
    have hle := he.rl.le
    refine ⟨he, ?_, .inr (.inr (.inr (.inr rfl)))⟩
    have ha1 := h.a1
    rcases hk with ⟨k1, k2, k3⟩ | ⟨k1, k2, k3⟩
    · have hne : ¬ w = w64 (3 * x.cycle) := by rw [w64_id (by omega)]; omega
      refine ⟨rfl, h.ops, h.roots, by rw [hA]; omega, by rw [hA]; omega, fun g => ?_, fun g => ?_, ht⟩
      · rw [hA] at g; omega
      · simp only [if_neg hne]; exact h.tn g
    · have e : w = w64 (3 * x.cycle) := by rw [w64_id (by have := k2.1; omega)]; exact k1
      have e2 := k2.1
      refine ⟨rfl, h.ops, h.roots, by rw [hA]; omega, by rw [hA]; omega, fun g => ⟨?_, by omega⟩, fun g => ?_, ht⟩
      · simp only [if_pos e]; exact e2
      · simp only [if_pos e]; exact e2
  | does u =>
    rw [hx] at hnx
    cases u with
    | look =>
      obtain ⟨g1, g2, g3⟩ := hnx
      simp only
      rcases g3 with ⟨b1, b2, b3, b4⟩ | ⟨b1, b2, b3⟩
      · have hs := bu_claims (bo := -1) (ao := -1) hL hw b1 b3 b4 b2
        have hA : ld (x.log.step M x.tasks l).2.2 (M.Ack i) = ld l (M.Ack i) := hs.1.rl.ack i (by omega)
        rcases hs.2.2 with ⟨k1, k2, k3, k4⟩ | ⟨k0, ⟨k1, k2⟩ | ⟨k1, k2⟩⟩
        · rw [if_neg (by rw [k1]; simp)]
          refine ⟨hs.1.weakA, mu_same h hs.1.rl hi rfl rfl rfl rfl ?_, hs.2.1⟩
          unfold muNx; simp only [hx]
          exact ⟨work_same hA rfl g1, g2, .inl ⟨k1, by rw [k4]; exact b2, k2, k3⟩⟩
        · rw [if_neg (by rw [k1]; simp)]
          refine ⟨hs.1.weakA, mu_same h hs.1.rl hi rfl rfl rfl rfl ?_, hs.2.1⟩
          unfold muNx; simp only [hx]
          exact ⟨work_same hA rfl g1, g2, .inr ⟨k1, k0, k2⟩⟩
        · rw [if_pos k1]
          simp only [Mo.Mu.thn]
          rw [look_1 (by exact h.roots) (by exact g2)]
          have hf := flush_nx (M := M) (l := (x.log.step M x.tasks l).2.2) (c := D.cycle) (i := i) (d := D.doing) (t := D.turn) (x := { x with log := (x.log.step M x.tasks l).1, tasks := (x.log.step M x.tasks l).2.1, event := (x.log.step M x.tasks l).1.event }) hL (by omega) k2 (work_same hA rfl g1) k0
          have hfl : ∀ y : Mu, y.flushRoots.i = y.i ∧ y.flushRoots.ops = y.ops ∧ y.flushRoots.roots = y.roots ∧ y.flushRoots.tint = y.tint ∧ y.flushRoots.event = y.event := fun y => by unfold Mo.Mu.flushRoots; split <;> exact ⟨rfl, rfl, rfl, rfl, rfl⟩
          refine ⟨hs.1.weakA, mu_same h hs.1.rl hi (hfl _).1 (hfl _).2.1 (hfl _).2.2.1 (hfl _).2.2.2.1 hf, ?_⟩
          rw [(hfl _).2.2.2.2]; exact hs.2.1
      · have hs := bu_puts (c := D.cycle) (bo := -1) (ao := -1) (ts := x.tasks) hL hw b1 b3
        have hA : ld (x.log.step M x.tasks l).2.2 (M.Ack i) = ld l (M.Ack i) := hs.1.rl.ack i (by omega)
        have hle := hs.1.rl.le
        rcases hs.2.2 with ⟨k1, k2⟩ | ⟨k1, k2⟩
        · rw [if_neg (by rw [k1]; simp)]
          refine ⟨hs.1.weakA, mu_same h hs.1.rl hi rfl rfl rfl rfl ?_, hs.2.1⟩
          unfold muNx; simp only [hx]
          exact ⟨work_same hA rfl g1, g2, .inr ⟨k1, by omega, k2⟩⟩
        · rw [if_pos k1]
          simp only [Mo.Mu.thn]
          rw [look_1 (by exact h.roots) (by exact g2)]
          have hf := flush_nx (M := M) (l := (x.log.step M x.tasks l).2.2) (c := D.cycle) (i := i) (d := D.doing) (t := D.turn) (x := { x with log := (x.log.step M x.tasks l).1, tasks := (x.log.step M x.tasks l).2.1, event := (x.log.step M x.tasks l).1.event }) hL (by omega) (by show tl M (x.log.step M x.tasks l).2.1; rw [k2]; exact tl_nil hL) (work_same hA rfl g1) (by omega)
          have hfl : ∀ y : Mu, y.flushRoots.i = y.i ∧ y.flushRoots.ops = y.ops ∧ y.flushRoots.roots = y.roots ∧ y.flushRoots.tint = y.tint ∧ y.flushRoots.event = y.event := fun y => by unfold Mo.Mu.flushRoots; split <;> exact ⟨rfl, rfl, rfl, rfl, rfl⟩
          refine ⟨hs.1.weakA, mu_same h hs.1.rl hi (hfl _).1 (hfl _).2.1 (hfl _).2.2.1 (hfl _).2.2.2.1 hf, ?_⟩
          rw [(hfl _).2.2.2.2]; exact hs.2.1
    | ackRoots =>
      obtain ⟨g1, g2, b1, b3⟩ := hnx
      simp only
      have hs := bu_puts (c := D.cycle) (bo := -1) (ao := -1) (ts := x.tasks) hL hw b1 b3
      have hA : ld (x.log.step M x.tasks l).2.2 (M.Ack i) = ld l (M.Ack i) := hs.1.rl.ack i (by omega)
      have hle := hs.1.rl.le
      rcases hs.2.2 with ⟨k1, k2⟩ | ⟨k1, k2⟩
      · rw [if_neg (by rw [k1]; simp)]
        refine ⟨hs.1.weakA, mu_same h hs.1.rl hi rfl rfl rfl rfl ?_, hs.2.1⟩
        unfold muNx; simp only [hx]
        exact ⟨work_same hA rfl g1, by omega, k1, k2⟩
      · rw [if_pos k1]
        simp only [Mo.Mu.thn]
        refine ⟨hs.1.weakA, mu_same h hs.1.rl hi rfl rfl rfl rfl ?_, hs.2.1⟩
        refine ⟨by show tl M (x.log.step M x.tasks l).2.1; rw [k2]; exact tl_nil hL, .inr ⟨?_, work_same hA rfl g1, by omega⟩⟩
        simp only
        have := g1.1
        exact w64_id (by omega)
    | begin_ =>
      obtain ⟨b1, b3⟩ := hnx
      simp only
      have hs := bu_puts (c := D.cycle) (bo := -1) (ao := -1) (ts := x.tasks) hL hw b1 b3
      rcases hs.2.2 with ⟨k1, k2⟩ | ⟨k1, k2⟩
      · rw [if_neg (by rw [k1]; simp)]
        refine ⟨hs.1.weakA, mu_same h hs.1.rl hi rfl rfl rfl rfl ?_, hs.2.1⟩
        unfold muNx; simp only [hx]
        exact ⟨k1, k2⟩
      · rw [if_pos k1]
        simp only [Mo.Mu.thn]
        rw [begin_nil (by exact h.ops)]
        refine ⟨hs.1.weakA, mu_same h hs.1.rl hi rfl rfl rfl rfl ?_, hs.2.1⟩
        show tl M (x.log.step M x.tasks l).2.1
        rw [k2]; exact tl_nil hL
    | _ => exact hnx.elim
  | _ => rw [hx] at hnx; exact hnx.elim
theorem mu_ev {d : Nat} {t : Int} {x : Mu} {e : Ev} (h : muOk M l c d t i x) : muOk M l c d t i { x with event := e } := ⟨h.ii, h.ops, h.roots, h.a0, h.a1, h.a3, h.tn, by
  have := h.nx
  unfold muNx at this ⊢
  exact this⟩
theorem mu_step (hL : La M) (hw : Wd M n l) (hn : n < 900000) (hi : 0 ≤ i) (hi' : i < M.mutators) {D : De} (hD : deOk M n l D) {x : Mu} (h : muOk M l D.cycle D.doing D.turn i x) :
    Ef M n D.cycle (-1) i l (x.step M l).2 ∧ muOk M (x.step M l).2 D.cycle D.doing D.turn i (x.step M l).1 ∧ goodEv M (x.step M l).1.event :=
  mu_step0 hL hw hn hi hi' hD (x := { x with event := ev0 }) (mu_ev h) rfl
end
end Go.Proofs.YtmpcfamcbaineaaGreat.Mo.Iv
namespace Go.Proofs.YtmpcfamcbaineaaGreat.Mo.Iv
open Go.RowKit Go.Proofs.YtmpcfamcbaineaaGreat.Mo
set_option linter.unusedVariables false
set_option linter.unusedSimpArgs false
open Go.Proofs.YtmpcfamcbaineaaGreat.Mo
section
variable {M : MapM} {l l' : Wds} {n c bo ao i : Int}
theorem low0 : ad M (.low 0) = 0 := rfl
theorem low2 : ad M (.low 2) = 2 := rfl
theorem low3 : ad M (.low 3) = 3 := rfl
theorem rl_low (hL : La M) (hw : Wd M n l) {a v : Int} : Rl M c bo ao l (put l (ad M (.low a)) v) ∧ Wd M (n + 1) (put l (ad M (.low a)) v) := by
  refine rl_put hL hw id ?_ ?_ ?_ ?_ ?_ ?_ ?_ <;> intros <;> contradiction
theorem mu_A {x : Mu} {c : Int} {d d' : Nat} {t t' : Int} (h : muOk M l c d t i x) (hr : Rl M c (-1) (-1) l l') (hi : 0 ≤ i) (hd : d ≠ 5) (hd' : d' ≠ 6) (ht : d' = 5 → t' = 0) : muOk M l' c d' t' i x :=
  mu_phase h hr (hr.ack i (by omega)) (Int.le_refl _) (fun _ => rfl) (fun g => by
    rcases g with g | ⟨g1, g2⟩
    · exact absurd g hd'
    · have := ht g1; omega) (fun g => absurd g.2.1 hd)
theorem mu_B {x : Mu} {c : Int} {d d' : Nat} {t t' : Int} (h : muOk M l c d t i x) (hr : Rl M c (-1) (-1) l l') (hi : 0 ≤ i) (hd : d ≠ 5) (hd' : d' ≠ 6) (hd5 : d' ≠ 5) : muOk M l' (c + 1) d' t' i x :=
  mu_phase h hr (hr.ack i (by omega)) (by omega) (fun g => by have := h.a1; omega) (fun g => by
    rcases g with g | ⟨g1, g2⟩
    · exact absurd g hd'
    · exact absurd g1 hd5) (fun g => absurd g.2.1 hd)
theorem mu_C {x : Mu} {c : Int} {d' : Nat} {t : Int} (h : muOk M l c 5 t i x) (hr : Rl M c (-1) (-1) l l') (hi : 0 ≤ i) (hA : 3 * c ≤ ld l (M.Ack t)) (hd : d' = 5 ∨ d' = 6 ∧ i ≤ t) : muOk M l' c d' (t + 1) i x := by
  have key : i ≤ t → x.tint = c := fun g => by
    by_cases e : i = t
    · subst e; exact (h.a3 hA).1
    · exact h.tn (.inr ⟨rfl, by omega⟩)
  refine mu_phase h hr (hr.ack i (by omega)) (Int.le_refl _) (fun _ => rfl) (fun g => ?_) (fun g => ?_)
  · rcases g with g | ⟨g1, g2⟩
    · rcases hd with hd | hd
      · omega
      · exact key hd.2
    · exact key (by omega)
  · obtain ⟨g1, -, g3, g4⟩ := g
    have hne : i ≠ t := fun e => by subst e; omega
    rcases hd with hd | hd
    · exact ⟨rfl, hd, by omega⟩
    · omega
structure DeS (M : MapM) (n : Int) (l l' : Wds) (x x' : De) (mus : Int → Mu) : Prop where
  wd : Wd M (n + 1) l'
  rl : ∀ C, Rl M C (-1) (-1) l l'
  de : deOk M (n + 1) l' x'
  mu : ∀ i, 0 ≤ i → i < M.mutators → muOk M l' x'.cycle x'.doing x'.turn i (mus i)
  ev : goodEv M x'.event
theorem de_idle {x : De} {mus : Int → Mu} (hw : Wd M n l) (hD : deOk M n l x) (hmu : ∀ i, 0 ≤ i → i < M.mutators → muOk M l x.cycle x.doing x.turn i (mus i)) (hev : goodEv M x.event) : DeS M n l l x x mus :=
  ⟨hw.more, fun _ => .refl, ⟨by have := hD.c0; omega, hD.dn, hD.p0, hD.m, hD.tr, hD.c1⟩, hmu, hev⟩
theorem de_said (hL : La M) {x : De} {mus : Int → Mu} (hw : Wd M n l) (hD : deOk M n l x) (hmu : ∀ i, 0 ≤ i → i < M.mutators → muOk M l x.cycle x.doing x.turn i (mus i)) (hev : goodEv M x.event)
    {least : Int} (h1 : 1 ≤ x.doing) (hl : x.doing = 5 → least = 3 * x.cycle) (hd : x.doing = 1 ∨ x.doing = 3 ∨ x.doing = 5) : DeS M n l (x.said M least l).2 x (x.said M least l).1 mus := by
  have hc := hD.c0
  have hc1 := hD.c1 h1
  have hph : ph (x.doing + 1) = ph x.doing := by rcases hd with e | e | e <;> rw [e] <;> rfl
  have htr := hD.tr
  have hA0 : x.doing = 5 → ¬ ld l (M.Ack x.turn) < least → 3 * x.cycle ≤ ld l (M.Ack x.turn) ∧ x.turn < M.mutators := fun e g => by
    have := hl e
    refine ⟨by omega, ?_⟩
    rcases (show x.turn < M.mutators ∨ M.mutators ≤ x.turn by omega) with k | k
    · exact k
    · have : ld l (M.Ack x.turn) = 0 := by
        unfold MapM.Ack
        rw [if_pos (.inr k)]
        exact ld_neg (by omega)
      omega
  unfold Mo.De.said
  repeat' split
  · exact de_idle hw hD hmu hev
  · rename_i g1 g2
    refine ⟨hw.more, fun _ => .refl, ⟨by show 0 ≤ x.cycle ∧ x.cycle ≤ n + 1; omega, hD.dn, hD.p0, hD.m, by show 0 ≤ x.turn + 1; omega, hD.c1⟩, fun i i0 i1 => ?_, hev⟩
    by_cases e : x.doing = 5
    · have := hmu i i0 i1
      rw [e] at this
      show muOk M l x.cycle x.doing (x.turn + 1) i (mus i)
      rw [e]
      exact mu_C this .refl i0 (hA0 e g1).1 (.inl rfl)
    · exact mu_A (hmu i i0 i1) .refl i0 e (by show x.doing ≠ 6; omega) (fun g => absurd g e)
  · rename_i g1 g2
    refine ⟨hw.more, fun _ => .refl, ⟨by show 0 ≤ x.cycle ∧ x.cycle ≤ n + 1; omega, by show x.doing + 1 ≤ 13; omega, by show ld l 0 = 8 * x.cycle + ph (x.doing + 1); rw [hph]; exact hD.p0, fun g => ?_, by show 0 ≤ x.turn + 1; omega, fun _ => hc1⟩, fun i i0 i1 => ?_, hev⟩
    · have g : 6 ≤ x.doing + 1 ∨ x.doing + 1 = 0 := g
      have e : x.doing = 5 := by omega
      obtain ⟨k1, k2⟩ := hA0 e g1
      exact ((hmu x.turn hD.tr k2).a3 k1).2
    · by_cases e : x.doing = 5
      · have := hmu i i0 i1
        rw [e] at this
        show muOk M l x.cycle (x.doing + 1) (x.turn + 1) i (mus i)
        rw [e]
        exact mu_C this .refl i0 (hA0 e g1).1 (.inr ⟨rfl, by omega⟩)
      · exact mu_A (hmu i i0 i1) .refl i0 e (by show x.doing + 1 ≠ 6; omega) (fun g => by have : x.doing + 1 = 5 := g; omega)
theorem de_tell (hL : La M) {x : De} {mus : Int → Mu} (hw : Wd M n l) (hn : n < 900000) (hD : deOk M n l x) (hmu : ∀ i, 0 ≤ i → i < M.mutators → muOk M l x.cycle x.doing x.turn i (mus i)) {k p : Nat} (hd : x.doing = k)
    (hk : k = 2 ∨ k = 4 ∨ k = 6 ∨ k = 11 ∨ k = 13) (hp : ph ((k + 1) % 14) = (p : Int)) : DeS M n l (x.tell p l).2 x (x.tell p l).1 mus := by
  subst hd
  have hc := hD.c0
  have hc1 := hD.c1 (by omega)
  have h0 := rl_low (M := M) (n := n) (a := 0) (v := phaseW x.cycle p) (c := x.cycle) (bo := -1) (ao := -1) hL hw
  have hr : ∀ C, Rl M C (-1) (-1) l (put l (ad M (.low 0)) (phaseW x.cycle p)) := fun C => (rl_low (M := M) (n := n) (c := C) hL hw).1
  have h00 : ld (put l (ad M (.low 0)) (phaseW x.cycle p)) (ad M (.low 0)) = phaseW x.cycle p := hw.eq hL (by rw [low0]; omega)
  have hm : mrk M (put l (ad M (.low 0)) (phaseW x.cycle p)) = mrk M l := ld_pl hL (q := .mark M.nodes) (by simp)
  rw [low0] at h0 hr h00 hm
  have hw0 : phaseW x.cycle p = 8 * x.cycle + p := by unfold phaseW; rw [w64_id (by omega)]; omega
  unfold Mo.De.tell
  refine ⟨h0.2, hr, ⟨by show 0 ≤ x.cycle ∧ x.cycle ≤ n + 1; omega, by show (x.doing + 1) % 14 ≤ 13; omega, ?_, fun g => ?_, Int.le_refl _, fun _ => hc1⟩, fun i i0 i1 => ?_, .inr (.inr (.inr (.inl rfl)))⟩
  · show ld (put l 0 (phaseW x.cycle p)) 0 = 8 * x.cycle + ph ((x.doing + 1) % 14)
    rw [h00, hp, hw0]
  · have g : 6 ≤ (x.doing + 1) % 14 ∨ (x.doing + 1) % 14 = 0 := g
    show x.cycle ≤ mrk M (put l 0 _)
    rw [hm]
    exact hD.m (by omega)
  · exact mu_A (hmu i i0 i1) (hr _) i0 (by omega) (by show (x.doing + 1) % 14 ≠ 6; omega) (fun _ => rfl)
theorem de_begin (hL : La M) {x : De} {mus : Int → Mu} (hw : Wd M n l) (hn : n < 900000) (hD : deOk M n l x) (hmu : ∀ i, 0 ≤ i → i < M.mutators → muOk M l x.cycle x.doing x.turn i (mus i)) (hd : x.doing = 0) :
    DeS M n l (De.tell { x with cycle := w64 (x.cycle + 1) } 1 l).2 x (De.tell { x with cycle := w64 (x.cycle + 1) } 1 l).1 mus := by
  have hc := hD.c0
  have e : w64 (x.cycle + 1) = x.cycle + 1 := w64_id (by omega)
  rw [e]
  have h0 := rl_low (M := M) (n := n) (a := 0) (v := phaseW (x.cycle + 1) 1) (c := x.cycle) (bo := -1) (ao := -1) hL hw
  have hr : ∀ C, Rl M C (-1) (-1) l (put l (ad M (.low 0)) (phaseW (x.cycle + 1) 1)) := fun C => (rl_low (M := M) (n := n) (c := C) hL hw).1
  have h00 : ld (put l (ad M (.low 0)) (phaseW (x.cycle + 1) 1)) (ad M (.low 0)) = phaseW (x.cycle + 1) 1 := hw.eq hL (by rw [low0]; omega)
  rw [low0] at h0 hr h00
  have hw0 : phaseW (x.cycle + 1) 1 = 8 * (x.cycle + 1) + 1 := by unfold phaseW; rw [w64_id (by omega)]; omega
  have hdo : (x.doing + 1) % 14 = 1 := by rw [hd]
  unfold Mo.De.tell
  refine ⟨h0.2, hr, ⟨by show 0 ≤ x.cycle + 1 ∧ x.cycle + 1 ≤ n + 1; omega, by show (x.doing + 1) % 14 ≤ 13; omega, ?_, fun g => ?_, Int.le_refl _, fun _ => by show 1 ≤ x.cycle + 1; omega⟩, fun i i0 i1 => ?_, .inr (.inr (.inr (.inl rfl)))⟩
  · show ld (put l 0 (phaseW (x.cycle + 1) 1)) 0 = 8 * (x.cycle + 1) + ph ((x.doing + 1) % 14)
    rw [h00, hw0, hdo]; rfl
  · have g : 6 ≤ (x.doing + 1) % 14 ∨ (x.doing + 1) % 14 = 0 := g
    omega
  · exact mu_B (hmu i i0 i1) (hr _) i0 (by omega) (by show (x.doing + 1) % 14 ≠ 6; omega) (by show (x.doing + 1) % 14 ≠ 5; omega)
theorem de_low (hL : La M) {x x' : De} {mus : Int → Mu} (hw : Wd M n l) (hD : deOk M n l x) (hmu : ∀ i, 0 ≤ i → i < M.mutators → muOk M l x.cycle x.doing x.turn i (mus i)) (hev : goodEv M x'.event)
    (h7 : 7 ≤ x.doing) (h7' : 7 ≤ x'.doing) (h13 : x'.doing ≤ 13) (hp : ph x'.doing = ph x.doing) (e1 : x'.cycle = x.cycle) (e2 : x'.turn = x.turn) (hl : l' = l ∨ ∃ v, l' = put l 2 v ∨ l' = put l 3 v) : DeS M n l l' x x' mus := by
  have hc := hD.c0
  have key : Wd M (n + 1) l' ∧ (∀ C, Rl M C (-1) (-1) l l') ∧ ld l' 0 = ld l 0 := by
    rcases hl with rfl | ⟨v, rfl | rfl⟩
    · exact ⟨hw.more, fun _ => .refl, rfl⟩
    · rw [← low2 (M := M)]
      exact ⟨(rl_low (M := M) (n := n) (c := 0) (bo := -1) (ao := -1) hL hw).2, fun C => (rl_low hL hw).1, ld_pl hL (q := .low 0) (by simp)⟩
    · rw [← low3 (M := M)]
      exact ⟨(rl_low (M := M) (n := n) (c := 0) (bo := -1) (ao := -1) hL hw).2, fun C => (rl_low hL hw).1, ld_pl hL (q := .low 0) (by simp)⟩
  obtain ⟨k1, k2, k3⟩ := key
  have hle := (k2 0).le
  refine ⟨k1, k2, ⟨by rw [e1]; omega, h13, by rw [k3, hp, e1]; exact hD.p0, fun _ => by rw [e1]; have := hD.m (.inl (by omega)); omega, by rw [e2]; exact hD.tr, fun _ => by rw [e1]; exact hD.c1 (by omega)⟩, fun i i0 i1 => ?_, hev⟩
  rw [e1]
  exact mu_A (hmu i i0 i1) (k2 _) i0 (by omega) (by omega) (by omega)
theorem de_step0 (hL : La M) {x : De} {mus : Int → Mu} (hw : Wd M n l) (hn : n < 900000) (hD : deOk M n l x) (hmu : ∀ i, 0 ≤ i → i < M.mutators → muOk M l x.cycle x.doing x.turn i (mus i)) (hev : x.event = ev0) {dr : Int} :
    DeS M n l (x.step0 M l dr).2 x (x.step0 M l dr).1 mus := by
  have hgood : goodEv M x.event := by rw [hev]; exact good_ev0
  have hc := hD.c0
  unfold Mo.De.step0
  split <;> rename_i hx
  · split
    · exact de_idle hw hD hmu hgood
    · exact de_begin hL hw hn hD hmu hx
  · exact de_said hL hw hD hmu hgood (by omega) (by omega) (by omega)
  · exact de_tell hL hw hn hD hmu (p := 2) hx (by omega) rfl
  · exact de_said hL hw hD hmu hgood (by omega) (by omega) (by omega)
  · exact de_tell hL hw hn hD hmu (p := 3) hx (by omega) rfl
  · exact de_said hL hw hD hmu hgood (by omega) (fun _ => w64_id (by omega)) (by omega)
  · exact de_tell hL hw hn hD hmu (p := 4) hx (by omega) rfl
  · refine de_low hL hw hD hmu hgood (by omega) ?_ ?_ ?_ rfl rfl (.inl rfl) <;> simp only [Mo.De.count] <;> split <;> simp [hx] <;> rfl
  · refine de_low hL hw hD hmu hgood (by omega) ?_ ?_ ?_ rfl rfl (.inl rfl) <;> simp only [Mo.De.count] <;> split <;> simp [hx] <;> rfl
  · exact de_low hL hw hD hmu hgood (by omega) (by simp) (by simp) (by rw [hx]; rfl) rfl rfl (.inr ⟨_, .inl rfl⟩)
  · exact de_low hL hw hD hmu hgood (by omega) (by simp) (by simp) (by rw [hx]; rfl) rfl rfl (.inr ⟨_, .inr rfl⟩)
  · exact de_tell hL hw hn hD hmu (p := 5) hx (by omega) rfl
  · split
    · exact de_idle hw hD hmu hgood
    · exact de_low hL hw hD hmu hgood (by omega) (by simp) (by simp) (by rw [hx]; rfl) rfl rfl (.inl rfl)
  · exact de_tell hL hw hn hD hmu (p := 0) hx (by omega) rfl
  · exact de_idle hw hD hmu hgood
theorem de_step (hL : La M) {x : De} {mus : Int → Mu} (hw : Wd M n l) (hn : n < 900000) (hD : deOk M n l x) (hmu : ∀ i, 0 ≤ i → i < M.mutators → muOk M l x.cycle x.doing x.turn i (mus i)) {dr : Int} :
    DeS M n l (x.step M l dr).2 x (x.step M l dr).1 mus := by
  have := de_step0 (x := { x with event := ev0 }) hL hw hn ⟨hD.c0, hD.dn, hD.p0, hD.m, hD.tr, hD.c1⟩ hmu rfl (dr := dr)
  exact ⟨this.wd, this.rl, this.de, this.mu, this.ev⟩
end
end Go.Proofs.YtmpcfamcbaineaaGreat.Mo.Iv
namespace Go.Proofs.YtmpcfamcbaineaaGreat.Mo.Iv
open Go.RowKit Go.Proofs.YtmpcfamcbaineaaGreat.Mo
set_option linter.unusedVariables false
set_option linter.unusedSimpArgs false
open Go.Proofs.YtmpcfamcbaineaaGreat.Mo
section
variable {M : MapM} {l l' : Wds} {n c bo ao i : Int}
structure WOk (M : MapM) (n : Int) (W : Wo) : Prop where
  wd : Wd M n W.l
  de : deOk M n W.l W.det
  mkl : (W.markers.length : Int) = M.markers
  mul : (W.mutators.length : Int) = M.mutators
  mko : ∀ i : Nat, i < W.markers.length → mkOk M n W.l i (W.markers.getD i mk0)
  muo : ∀ i : Nat, i < W.mutators.length → muOk M W.l W.det.cycle W.det.doing W.det.turn i (W.mutators.getD i mu0)
theorem de_mono {x : De} (h : deOk M n l x) (he : Ef M n c bo ao l l') : deOk M (n + 1) l' x :=
  ⟨by have := h.c0; omega, h.dn, by rw [he.ph]; exact h.p0, fun g => Int.le_trans (h.m g) he.rl.le, h.tr, h.c1⟩
theorem getD_set {α : Type} {xs : List α} {k i : Nat} {y d : α} (hk : k < xs.length) : (xs.set k y).getD i d = if i = k then y else xs.getD i d := by
  by_cases e : i = k
  · subst e
    rw [if_pos rfl, List.getD_eq_getElem?_getD, List.getElem?_set_self hk]
    rfl
  · rw [if_neg e, List.getD_eq_getElem?_getD, List.getElem?_set_ne (fun h => e h.symm), ← List.getD_eq_getElem?_getD]
theorem wo_steps (hL : La M) (hF : Fst M) (hn : n < 900000) {W : Wo} (h : WOk M n W) {who : Nat} {dr : Int} : WOk M (n + 1) (W.steps M who dr).1 ∧ goodEv M (W.steps M who dr).2 := by
  have hmk := h.mkl
  have hmu := h.mul
  unfold Mo.Wo.steps
  repeat' split
  · rename_i hk
    have hph : ld W.l 0 % 8 = 5 → ld W.l 0 / 8 ≤ mrk M W.l := fun g => by
      have hp := h.de.p0
      have hr := ph_rng W.det.doing
      have hi := (ph_inv h.de.dn).2.2.2 (by omega)
      have hm := h.de.m (by omega)
      omega
    have hs := mk_step (c := W.det.cycle) (ao := -1) hL hF h.wd (by omega) (by omega) hn hph (h.mko who hk) (dr := dr)
    refine ⟨⟨hs.1.wd, de_mono h.de hs.1, by simp only [List.length_set]; exact hmk, hmu, fun i hi => ?_, fun i hi => ?_⟩, hs.2.2⟩
    · simp only [List.length_set] at hi
      simp only
      rw [getD_set hk]
      split
      · rename_i e; subst e; exact hs.2.1
      · rename_i e; exact mk_mono hs.1.rl (by omega) (h.mko i hi)
    · exact mu_mono (h.muo i hi) hs.1.rl (by omega)
  · rename_i hk hk2
    have hk3 : who - W.markers.length < W.mutators.length := by omega
    have hs := mu_step hL h.wd hn (by omega) (by omega) h.de (h.muo _ hk3)
    refine ⟨⟨hs.1.wd, de_mono h.de hs.1, hmk, by simp only [List.length_set]; exact hmu, fun i hi => ?_, fun i hi => ?_⟩, hs.2.2⟩
    · exact mk_mono hs.1.rl (by omega) (h.mko i hi)
    · simp only [List.length_set] at hi
      simp only
      rw [getD_set hk3]
      split
      · rename_i e; subst e; exact hs.2.1
      · rename_i e; exact mu_mono (h.muo i hi) hs.1.rl (by omega)
  · have hs := de_step (mus := fun i => W.mutators.getD i.toNat mu0) hL h.wd hn h.de (fun i i0 i1 => by
      have := h.muo i.toNat (by omega)
      rw [Int.toNat_of_nonneg i0] at this
      exact this) (dr := dr)
    refine ⟨⟨hs.wd, hs.de, hmk, hmu, fun i hi => mk_mono (hs.rl 0) (by omega) (h.mko i hi), fun i hi => ?_⟩, hs.ev⟩
    have hi' : i < W.mutators.length := hi
    exact hs.mu i (by omega) (by omega)
theorem good_bad {e : Ev} {w : Int} (h : goodEv M e) : ¬ badEv M.nodes { e with who := w } := by
  unfold badEv
  simp only
  rcases h with h | ⟨h1, h2⟩ | h | h | h <;> omega
theorem wo_step (hL : La M) (hF : Fst M) (hn : n < 900000) {W : Wo} (h : WOk M n W) {who : Nat} {dr : Int} : WOk M (n + 1) (W.step M who dr).1 ∧ ¬ badEv M.nodes (W.step M who dr).2 := by
  have hs := wo_steps hL hF hn h (who := who) (dr := dr)
  unfold Mo.Wo.step
  split
  · exact ⟨hs.1, by unfold badEv ev0; simp⟩
  · exact ⟨⟨hs.1.wd, hs.1.de, hs.1.mkl, hs.1.mul, hs.1.mko, hs.1.muo⟩, good_bad hs.2⟩
theorem run_ok (hL : La M) (hF : Fst M) {zs : List Int} {W : Wo} (h : WOk M 0 W) : ∀ (k : Nat), k < 900000 → WOk M k (runS M zs W k)
  | 0, _ => h
  | k + 1, hk => by
    have := (wo_step hL hF (by omega) (run_ok hL hF (zs := zs) h k (by omega)) (who := (pickOf zs k / 2).toNat % (runS M zs W k).actors) (dr := pickOf zs k * 7 + k)).1
    rw [Int.natCast_succ]
    exact this
theorem run_ev (hL : La M) (hF : Fst M) {zs : List Int} {W : Wo} (h : WOk M 0 W) (k : Nat) (hk : k < 900000) : ¬ badEv M.nodes (evS M zs W k) := (wo_step hL hF (by omega) (run_ok hL hF h k hk)).2
end
end Go.Proofs.YtmpcfamcbaineaaGreat.Mo.Iv
namespace Go.Proofs.YtmpcfamcbaineaaGreat.Mo.Iv
open Go.RowKit Go.Proofs.YtmpcfamcbaineaaGreat.Mo
set_option linter.unusedVariables false
set_option linter.unusedSimpArgs false
open Go.Proofs.YtmpcfamcbaineaaGreat.Mo
theorem offs_lt : ∀ (l : List Int) (a : Int) (i k : Nat), (∀ r ∈ l, 1 ≤ r ∧ r ≤ 16) → i < k → k < l.length → (offs l a).getD i 0 + (4 + l.getD i 0) ≤ (offs l a).getD k 0
  | [], _, _, _, _, _, h => by simp at h
  | x :: l, a, 0, k + 1, h, _, hk => by
    have := offs_rng l (a + (4 + x)) k (fun r hr => h r (by simp [hr])) (by simpa using hk)
    simp only [offs, List.getD_cons_succ, List.getD_cons_zero]
    omega
  | x :: l, a, i + 1, k + 1, h, hi, hk => by
    have := offs_lt l (a + (4 + x)) i k (fun r hr => h r (by simp [hr])) (by omega) (by simpa using hk)
    simp only [offs, List.getD_cons_succ]
    omega
theorem La.of {c : Cfg} (h : c.Ok) : La c.map := by
  obtain ⟨h1, h2, h3⟩ := Cfg.nums h
  have hr : ∀ v, 1 ≤ v → v ≤ c.map.nodes → 1 ≤ c.map.Room v ∧ c.map.Room v ≤ 16 := fun v g1 g2 => map_room_rng h ⟨g1, g2⟩
  refine ⟨h.markers, h.mutators, h.deque, h.chunk, h.buffer, h.nodes, rfl, rfl, rfl, h1, h3, rfl, rfl, all_rng h, hr, fun v j g1 g2 g3 g4 => node_rng h ⟨g1, g2⟩ ⟨g3, g4⟩, ?_, first_len⟩
  intro v j w k v1 v2 j0 j1 w1 w2 k0 k1 e
  rw [map_node h ⟨v1, v2⟩, map_node h ⟨w1, w2⟩] at e
  rw [map_room ⟨v1, v2⟩] at j1
  rw [map_room ⟨w1, w2⟩] at k1
  have hl : c.room.length = c.nodes.toNat := room_len c
  have v2' : v ≤ c.nodes := v2
  have w2' : w ≤ c.nodes := w2
  have lt : ∀ a b : Int, 1 ≤ a → a < b → b ≤ c.nodes → (offs c.room c.node0).getD (a - 1).toNat 0 + (4 + c.room.getD (a - 1).toNat 0) ≤ (offs c.room c.node0).getD (b - 1).toNat 0 :=
    fun a b g1 g2 g3 => offs_lt c.room c.node0 _ _ (rooms_rng h) (by omega) (by omega)
  rcases (show v < w ∨ v = w ∨ w < v by omega) with g | g | g
  · have := lt v w v1 g w2'; omega
  · subst g; exact ⟨rfl, by omega⟩
  · have := lt w v w1 g v2'; omega
section
variable {M : MapM} {l l' : Wds} {n c bo ao i : Int}
theorem set_put {l : Wds} {a v : Int} (h : 0 ≤ a) : l.set a.toNat v = put l a v := by
  unfold put
  split
  · rfl
  · rename_i g
    exact List.set_eq_of_length_le (by unfold inM at g; omega)
theorem getD_ld {l : Wds} {a : Int} (h : 0 ≤ a) : l.getD a.toNat 0 = ld l a := by
  unfold ld
  split
  · rfl
  · rename_i g
    rw [List.getD_eq_getElem?_getD, List.getElem?_eq_none (by unfold inM at g; omega)]
    rfl
theorem node_in (hL : La M) {v j : Int} (h1 : 1 ≤ v) (h2 : v ≤ M.nodes) (h3 : 0 ≤ j) (h4 : j < 4) : 0 ≤ M.node v j := by
  have := hL.room v h1 h2
  have := (hL.node v j h1 h2 h3 (by omega)).1
  have := hL.node0; have := hL.pks; have := hL.dqn; have := hL.deqs; have := hL.head; have := hL.mu; have := hL.many
  omega
theorem link_in (hL : La M) {p : Int} (h1 : 1 ≤ p) (h2 : p ≤ M.many) : 0 ≤ ad M (.link p) := by
  show 0 ≤ M.packet p 1
  unfold MapM.packet
  rw [if_neg (by omega)]
  have := hL.pks; have := hL.dqn; have := hL.deqs; have := hL.head; have := hL.mu
  omega
theorem head_in (hL : La M) {k : Int} (h1 : 0 ≤ k) (h2 : k < 5) : 0 ≤ ad M (.head k) := by
  show 0 ≤ M.Head k
  unfold MapM.Head
  rw [if_neg (by omega)]
  have := hL.head; have := hL.mu
  omega
theorem linkUp_ld (hL : La M) {p : Pl} (hp : ∀ q, p ≠ .link q) : ∀ (n k : Nat) (l : Wds), 1 ≤ k → (k : Int) + n ≤ M.many + 1 → ld (linkUp M n k l) (ad M p) = ld l (ad M p)
  | 0, _, _, _, _ => rfl
  | n + 1, k, l, h1, h2 => by
    unfold Mo.linkUp
    rw [linkUp_ld hL hp n (k + 1) _ (by omega) (by omega), show M.Link k = ad M (.link k) from rfl, set_put (link_in hL (by omega) (by omega))]
    exact ld_pl hL (fun e => hp _ e.symm)
def Cls (M : MapM) : Prop := ∀ v, 1 ≤ v → v ≤ M.nodes → 0 ≤ M.Class v ∧ M.Class v < 5
theorem freeUp_one (hL : La M) (hC : Cls M) {v : Nat} {l : Wds} (hv : (v : Int) + 1 ≤ M.nodes) :
    (l.set (M.Next ((v : Int) + 1)).toNat (l.getD (M.Head (M.Class ((v : Int) + 1))).toNat 0)).set (M.Head (M.Class ((v : Int) + 1))).toNat ((v : Int) + 1) = put (put l (ad M (.next ((v : Int) + 1))) (ld l (ad M (.head (M.Class ((v : Int) + 1)))))) (ad M (.head (M.Class ((v : Int) + 1)))) ((v : Int) + 1) := by
  have hc := hC _ (show 1 ≤ (v : Int) + 1 by omega) hv
  have h1 : 0 ≤ M.Head (M.Class ((v : Int) + 1)) := head_in hL hc.1 hc.2
  rw [getD_ld h1, set_put h1, set_put (show 0 ≤ M.Next ((v : Int) + 1) from node_in hL (by omega) hv (by omega) (by omega))]
  rfl
theorem freeUp_ld (hL : La M) (hC : Cls M) {p : Pl} (hp : ∀ q, p ≠ .next q) (hp' : ∀ q, p ≠ .head q) : ∀ (v : Nat) (l : Wds), (v : Int) ≤ M.nodes → ld (freeUp M v l) (ad M p) = ld l (ad M p)
  | 0, _, _ => rfl
  | v + 1, l, h => by
    unfold Mo.freeUp
    rw [freeUp_ld hL hC hp hp' v _ (by omega), freeUp_one hL hC (by omega), ld_pl hL (fun e => hp' _ e.symm), ld_pl hL (fun e => hp _ e.symm)]
theorem ld_rep {k : Nat} {a : Int} : ld (List.replicate k 0) a = 0 := by
  unfold ld
  split
  · rw [List.getD_eq_getElem?_getD, List.getElem?_replicate]
    split <;> rfl
  · rfl
def base (M : MapM) : Wds := put (put (linkUp M (M.many - 1).toNat 1 (put (List.replicate M.all.toNat 0) 5 1)) (M.State M.nodes) 1) (M.Header M.nodes) (M.Room M.nodes)
theorem first_base (hL : La M) : M.first = freeUp M (M.nodes - 1).toNat (base M) := by
  unfold MapM.first base
  rw [show (List.replicate M.all.toNat (0 : Int)).set 5 1 = put (List.replicate M.all.toNat 0) 5 1 from set_put (a := 5) (by omega),
    set_put (show 0 ≤ M.State M.nodes from node_in hL hL.nn.1 (Int.le_refl _) (by omega) (by omega)), set_put (show 0 ≤ M.Header M.nodes from node_in hL hL.nn.1 (Int.le_refl _) (by omega) (by omega))]
theorem base_len (hL : La M) : (base M).length = M.all.toNat := by
  unfold base
  rw [put_len, put_len, linkUp_len, put_len, List.length_replicate]
theorem low5 : ad M (.low 5) = 5 := rfl
theorem base_ld (hL : La M) (hm : 1 ≤ M.many) {p : Pl} (h1 : ∀ q, p ≠ .link q) (h2 : p ≠ .low 5) (h3 : p ≠ .state M.nodes) (h4 : p ≠ .header M.nodes) : ld (base M) (ad M p) = 0 := by
  unfold base
  rw [show M.Header M.nodes = ad M (.header M.nodes) from rfl, ld_pl hL (fun e => h4 e.symm), show M.State M.nodes = ad M (.state M.nodes) from rfl, ld_pl hL (fun e => h3 e.symm), linkUp_ld hL h1 _ _ _ (by omega) (by omega), ← low5 (M := M), ld_pl hL (fun e => h2 e.symm)]
  exact ld_rep
theorem first_ld (hL : La M) (hC : Cls M) (hm : 1 ≤ M.many) {p : Pl} (h1 : ∀ q, p ≠ .link q) (h2 : p ≠ .low 5) (h3 : p ≠ .state M.nodes) (h4 : p ≠ .header M.nodes) (h5 : ∀ q, p ≠ .next q) (h6 : ∀ q, p ≠ .head q) : ld M.first (ad M p) = 0 := by
  rw [first_base hL, freeUp_ld hL hC h5 h6 _ _ (by have := hL.nn; omega)]
  exact base_ld hL hm h1 h2 h3 h4
theorem first_state (hL : La M) (hC : Cls M) : ld M.first (M.State M.nodes) = 1 := by
  rw [first_base hL, show M.State M.nodes = ad M (.state M.nodes) from rfl, freeUp_ld hL hC (by simp) (by simp) _ _ (by have := hL.nn; omega)]
  unfold base
  rw [show M.Header M.nodes = ad M (.header M.nodes) from rfl, ld_pl hL (by simp)]
  have h0 : 0 ≤ ad M (.state M.nodes) := node_in hL hL.nn.1 (Int.le_refl _) (by omega) (by omega)
  refine ld_put_eq ⟨h0, ?_⟩
  rw [linkUp_len, put_len, List.length_replicate]
  have := ad_rng hL h0
  show ad M (.state M.nodes) < _
  omega
theorem Fst.of (hL : La M) (hC : Cls M) (hm : 1 ≤ M.many) : Fst M := by
  refine ⟨fun v j => first_ld (p := .slot v j) hL hC hm (by simp) (by simp) (by simp) (by simp) (by simp) (by simp), fun v h => ?_⟩
  by_cases e : v = M.nodes
  · exact e
  · have := first_ld (p := .state v) hL hC hm (by simp) (by simp) (by simp [e]) (by simp) (by simp) (by simp)
    rw [show M.State v = ad M (.state v) from rfl, this] at h
    omega
theorem first_wd (hL : La M) (hC : Cls M) (hm : 1 ≤ M.many) : Wd M 0 M.first := by
  have h0 : ∀ p : Pl, (∀ q, p ≠ .link q) → p ≠ .low 5 → p ≠ .state M.nodes → p ≠ .header M.nodes → (∀ q, p ≠ .next q) → (∀ q, p ≠ .head q) → ld M.first (ad M p) = 0 := fun p a b c d e f => first_ld hL hC hm a b c d e f
  refine ⟨hL.first, fun _ _ => rfl, fun p j j0 j4 hj => ?_, fun i => ?_, fun i i0 i1 => ⟨0, Int.le_refl _, Int.le_refl _, fun k k0 k1 => by omega, .inl ?_⟩⟩
  · have := h0 (.many p) (by simp) (by simp) (by simp) (by simp) (by simp) (by simp)
    simp only [ad] at this
    omega
  · have := h0 (.top i) (by simp) (by simp) (by simp) (by simp) (by simp) (by simp)
    simp only [ad] at this
    omega
  · exact h0 (.bottom i) (by simp) (by simp) (by simp) (by simp) (by simp) (by simp)
theorem new_ok (hL : La M) (hC : Cls M) (hm : 1 ≤ M.many) : WOk M 0 (Wo.new M []) := by
  have h0 : ∀ p : Pl, (∀ q, p ≠ .link q) → p ≠ .low 5 → p ≠ .state M.nodes → p ≠ .header M.nodes → (∀ q, p ≠ .next q) → (∀ q, p ≠ .head q) → ld M.first (ad M p) = 0 := fun p a b c d e f => first_ld hL hC hm a b c d e f
  have hmk := hL.mks
  have hmu := hL.mu
  have hmark : mrk M M.first = 0 := h0 (.mark M.nodes) (by simp) (by simp) (by simp) (by simp) (by simp) (by simp)
  refine ⟨first_wd hL hC hm, ⟨⟨Int.le_refl _, Int.le_refl _⟩, by show 0 ≤ 13; omega, ?_, fun _ => ?_, Int.le_refl _, fun g => ?_⟩, ?_, ?_, fun i hi => ?_, fun i hi => ?_⟩
  · exact h0 (.low 0) (by simp) (by simp) (by simp) (by simp) (by simp) (by simp)
  · show (0 : Int) ≤ mrk M M.first
    omega
  · have : 1 ≤ 0 := g
    omega
  · simp only [Wo.new, List.length_map, List.length_range]; omega
  · simp only [Wo.new, List.length_map, List.length_range]; omega
  · have e : (Wo.new M []).markers.getD i mk0 = Mk.new M i := by
      simp only [Wo.new, List.length_map, List.length_range] at hi
      simp only [Wo.new]
      rw [List.getD_eq_getElem?_getD, List.getElem?_map, List.getElem?_range hi]
      rfl
    rw [e]
    have hb : bot M M.first i = 0 := h0 (.bottom i) (by simp) (by simp) (by simp) (by simp) (by simp) (by simp)
    refine ⟨rfl, bag0_ok, ?_⟩
    show rest M 0 M.first i
    unfold rest
    rw [hb]
    exact ⟨Int.le_refl _, Int.le_refl _, fun k k0 k1 => by omega⟩
  · have e : (Wo.new M []).mutators.getD i mu0 = Mu.new M i [] := by
      simp only [Wo.new, List.length_map, List.length_range] at hi
      simp only [Wo.new]
      rw [List.getD_eq_getElem?_getD, List.getElem?_map, List.getElem?_range hi]
      rfl
    rw [e]
    have ha : ld M.first (M.Ack i) = 0 := h0 (.ack i) (by simp) (by simp) (by simp) (by simp) (by simp) (by simp)
    refine ⟨rfl, rfl, rfl, ?_, ?_, fun _ => ⟨rfl, ?_⟩, fun _ => rfl, ?_⟩
    · show 0 ≤ ld M.first (M.Ack i); omega
    · show ld M.first (M.Ack i) ≤ 3 * 0; omega
    · show 0 ≤ mrk M M.first; omega
    · exact tl_nil hL
end
end Go.Proofs.YtmpcfamcbaineaaGreat.Mo.Iv
namespace Go.Proofs.YtmpcfamcbaineaaGreat.Mo.Iv
open Go.RowKit Go.Proofs.YtmpcfamcbaineaaGreat.Mo
set_option linter.unusedVariables false
set_option linter.unusedSimpArgs false
open Go.Proofs.YtmpcfamcbaineaaGreat.Mo
section
variable {M : MapM} {l l' : Wds}
def lst (M : MapM) (k : Int) : Nat → Nat → List Int
  | 0, _ => []
  | m + 1, v => if M.Class ((v : Int) + 1) = k then ((v : Int) + 1) :: lst M k m (v + 1) else lst M k m (v + 1)
theorem mem_lst {k : Int} {u : Int} : ∀ {m v : Nat}, u ∈ lst M k m v ↔ (v : Int) < u ∧ u ≤ v + m ∧ M.Class u = k
  | 0, v => by simp only [lst, List.not_mem_nil, false_iff]; omega
  | m + 1, v => by
    have ih := mem_lst (k := k) (u := u) (m := m) (v := v + 1)
    unfold lst
    split
    · rename_i hc
      rw [List.mem_cons, ih]
      constructor
      · rintro (rfl | h)
        · exact ⟨by omega, by omega, hc⟩
        · exact ⟨by omega, by omega, h.2.2⟩
      · rintro ⟨h1, h2, h3⟩
        by_cases e : u = (v : Int) + 1
        · exact .inl e
        · exact .inr ⟨by omega, by omega, h3⟩
    · rename_i hc
      rw [ih]
      constructor
      · rintro ⟨h1, h2, h3⟩; exact ⟨by omega, by omega, h3⟩
      · rintro ⟨h1, h2, h3⟩
        have : u ≠ (v : Int) + 1 := fun e => hc (e ▸ h3)
        exact ⟨by omega, by omega, h3⟩
theorem lst_nodup {k : Int} : ∀ {m v : Nat}, (lst M k m v).Nodup
  | 0, _ => List.nodup_nil
  | m + 1, v => by
    unfold lst
    split
    · refine List.nodup_cons.2 ⟨fun h => ?_, lst_nodup⟩
      have := (mem_lst.1 h).1
      omega
    · exact lst_nodup
theorem lst_len {k : Int} : ∀ {m v : Nat}, (lst M k m v).length ≤ m
  | 0, _ => by simp [lst]
  | m + 1, v => by
    have := lst_len (k := k) (m := m) (v := v + 1)
    unfold lst
    split
    · simp only [List.length_cons]; omega
    · omega
def Lst (M : MapM) (l : Wds) : Int → List Int → Prop
  | a, [] => ld l a = 0
  | a, u :: us => ld l a = u ∧ Lst M l (M.Next u) us
theorem Lst.move : ∀ {L : List Int} {a a' : Int}, Lst M l a L → ld l' a' = ld l a → (∀ u ∈ L, ld l' (M.Next u) = ld l (M.Next u)) → Lst M l' a' L
  | [], a, a', h, e, _ => by
    show ld l' a' = 0
    rw [e]; exact h
  | u :: us, a, a', h, e, hn => ⟨by rw [e]; exact h.1, h.2.move (hn u (List.mem_cons_self ..)) (fun x hx => hn x (List.mem_cons_of_mem _ hx))⟩
theorem freeUp_lst (hL : La M) (hC : Cls M) {n0 : Nat} (h0 : (n0 : Int) < M.nodes) : ∀ (v : Nat) (l : Wds), v ≤ n0 → l.length = M.all.toNat → (∀ k, 0 ≤ k → k < 5 → Lst M l (M.Head k) (lst M k (n0 - v) v)) → ∀ k, 0 ≤ k → k < 5 → Lst M (freeUp M v l) (M.Head k) (lst M k n0 0)
  | 0, l, _, _, h => h
  | v + 1, l, hv, hlen, h => by
    unfold Mo.freeUp
    intro k hk0 hk5
    have hc := hC ((v : Int) + 1) (by omega) (by omega)
    refine freeUp_lst hL hC h0 v _ (by omega) (by simp only [List.length_set]; exact hlen) (fun k k0 k5 => ?_) k hk0 hk5
    rw [freeUp_one hL hC (by omega)]
    have hin1 : 0 ≤ ad M (.next ((v : Int) + 1)) := node_in hL (by omega) (by omega) (by omega) (by omega)
    have hin2 : 0 ≤ ad M (.head (M.Class ((v : Int) + 1))) := head_in hL hc.1 hc.2
    have hr1 := ad_rng hL hin1
    have hr2 := ad_rng hL hin2
    have eN : ∀ x : Int, x ≠ (v : Int) + 1 → ld (put (put l (ad M (.next ((v : Int) + 1))) (ld l (ad M (.head (M.Class ((v : Int) + 1)))))) (ad M (.head (M.Class ((v : Int) + 1)))) ((v : Int) + 1)) (M.Next x) = ld l (M.Next x) := fun x hx => by
      rw [show M.Next x = ad M (.next x) from rfl, ld_pl hL (by simp), ld_pl hL (by simp; omega)]
    have hsplit : n0 - v = (n0 - (v + 1)) + 1 := by omega
    rw [hsplit]
    unfold lst
    have hne : ∀ u ∈ lst M k (n0 - (v + 1)) (v + 1), u ≠ (v : Int) + 1 := fun u hu => by
      have := (mem_lst.1 hu).1
      omega
    split
    · rename_i e
      refine ⟨?_, (h k k0 k5).move ?_ (fun u hu => eN u (hne u hu))⟩
      · rw [e]
        rw [e] at hin2 hr2
        exact ld_put_eq ⟨hin2, by rw [put_len, hlen]; omega⟩
      · rw [show M.Next ((v : Int) + 1) = ad M (.next ((v : Int) + 1)) from rfl, ld_pl hL (by simp), ld_put_eq ⟨hin1, by rw [hlen]; omega⟩, e]
        rfl
    · rename_i e
      refine (h k k0 k5).move ?_ (fun u hu => eN u (hne u hu))
      rw [show M.Head k = ad M (.head k) from rfl, ld_pl hL (by simp; exact e), ld_pl hL (by simp)]
theorem first_lst (hL : La M) (hC : Cls M) (hm : 1 ≤ M.many) {k : Int} (k0 : 0 ≤ k) (k5 : k < 5) : Lst M M.first (M.Head k) (lst M k (M.nodes - 1).toNat 0) := by
  have hn := hL.nn
  rw [first_base hL]
  refine freeUp_lst hL hC (by omega) _ _ (Nat.le_refl _) (base_len hL) (fun j j0 j5 => ?_) k k0 k5
  rw [Nat.sub_self]
  exact base_ld (p := .head j) hL hm (by simp) (by simp) (by simp) (by simp)
theorem walk_lst {L : List Int} : ∀ {n : Nat} {a : Int}, Lst M l a L → L.length < n → (∀ u ∈ L, 1 ≤ u ∧ u ≤ 1000) → walkN M l n a = L := by
  induction L with
  | nil =>
    intro n a h hn hu
    cases n with
    | zero => rfl
    | succ n =>
      refine if_neg fun g => g.2.2 ?_
      have h : ld l a = 0 := h
      rw [getD_ld g.1, h]
      rfl
  | cons u us ih =>
    intro n a h hn hu
    cases n with
    | zero => simp at hn
    | succ n =>
      have hr := hu u (List.mem_cons_self ..)
      have hin : inM l a := by
        by_cases g : inM l a
        · exact g
        · have := ld_out g; rw [h.1] at this; omega
      have e : w32 (l.getD a.toNat 0) = u := by
        rw [getD_ld hin.1, h.1]
        unfold w32
        omega
      unfold walkN
      rw [e, if_pos ⟨hin.1, hin.2, by omega⟩, ih h.2 (by simp at hn; omega) (fun x hx => hu x (List.mem_cons_of_mem _ hx))]
theorem markL_getD {o : List Int} {v : Int} {s : Int} (h0 : 1 ≤ v) (h1 : v < o.length) (j : Nat) : (markL o v s).getD j 0 = if (j : Int) = v then (if o.getD j 0 = 0 then s else 4) else o.getD j 0 := by
  unfold markL
  rw [if_neg (by omega), getD_set (by omega)]
  by_cases e : (j : Int) = v
  · have : j = v.toNat := by omega
    rw [if_pos e, if_pos this, this]
  · rw [if_neg e, if_neg (by omega)]
theorem markL_length {o : List Int} {v s : Int} : (markL o v s).length = o.length := Mo.markL_len
theorem putN_len {k : Nat} : ∀ {W o : List Int}, (putN M k W o).length = o.length
  | [], _ => rfl
  | v :: W, o => by
    unfold putN
    rw [putN_len]
    split
    · exact markL_length
    · rfl
theorem putN_getD {k : Nat} : ∀ {W o : List Int}, (∀ v ∈ W, 1 ≤ v ∧ v < o.length ∧ M.Class v = k) → W.Nodup → ∀ j : Nat, (putN M k W o).getD j 0 = if (j : Int) ∈ W then (if o.getD j 0 = 0 then 2 else 4) else o.getD j 0
  | [], _, _, _, _ => by simp [putN]
  | v :: W, o, h, hd, j => by
    have hv := h v (List.mem_cons_self ..)
    rw [List.nodup_cons] at hd
    unfold putN
    rw [if_pos hv.2.2, putN_getD (fun u hu => by rw [markL_length]; exact h u (List.mem_cons_of_mem _ hu)) hd.2, markL_getD hv.1 hv.2.1]
    by_cases e : (j : Int) = v
    · rw [e, if_neg hd.1, if_pos rfl, if_pos (List.mem_cons_self ..)]
    · rw [if_neg e]
      by_cases g : (j : Int) ∈ W
      · rw [if_pos g, if_pos (List.mem_cons_of_mem _ g)]
      · rw [if_neg g, if_neg (by rw [List.mem_cons]; rintro (h | h); exact e h; exact g h)]
def spec (M : MapM) (k : Int) (j : Nat) : Int := if 1 ≤ (j : Int) ∧ (j : Int) < M.nodes ∧ M.Class j < k then 2 else if (j : Int) = M.nodes then 1 else 0
theorem spec_2 {k : Int} {j : Nat} (h1 : 1 ≤ (j : Int)) (h2 : (j : Int) < M.nodes) (h3 : M.Class j < k) : spec M k j = 2 := if_pos ⟨h1, h2, h3⟩
theorem spec_0 {k : Int} {j : Nat} (h2 : (j : Int) < M.nodes) (h3 : ¬ M.Class j < k) : spec M k j = 0 := by
  unfold spec
  rw [if_neg (by omega), if_neg (by omega)]
theorem spec_n {k : Int} {j : Nat} (h : ¬ (1 ≤ (j : Int) ∧ (j : Int) < M.nodes)) : spec M k j = if (j : Int) = M.nodes then 1 else 0 := by
  unfold spec
  rw [if_neg (by omega)]
theorem listN_inv (hL : La M) (hlst : ∀ k, 0 ≤ k → k < 5 → Lst M l (M.Head k) (lst M k (M.nodes - 1).toNat 0)) (hC : Cls M) : ∀ (m k : Nat) (o : List Int), k + m = 5 → o.length = M.nodes.toNat + 1 → (∀ j, o.getD j 0 = spec M k j) →
    (listN M l m k o).length = M.nodes.toNat + 1 ∧ ∀ j, (listN M l m k o).getD j 0 = spec M 5 j
  | 0, k, o, hk, hl, h => ⟨hl, fun j => by rw [show (5 : Int) = ((k : Nat) : Int) by omega]; exact h j⟩
  | m + 1, k, o, hk, hl, h => by
    have hn := hL.nn
    have hW : walkN M l (M.nodes.toNat + 1) (M.Head k) = lst M k (M.nodes - 1).toNat 0 := walk_lst (hlst k (by omega) (by omega)) (by have := lst_len (M := M) (k := k) (m := (M.nodes - 1).toNat) (v := 0); omega) (fun u hu => by have := mem_lst.1 hu; omega)
    unfold listN
    rw [hW]
    refine listN_inv hL hlst hC m (k + 1) _ (by omega) (by rw [putN_len]; exact hl) (fun j => ?_)
    rw [putN_getD (fun v hv => by have := mem_lst.1 hv; exact ⟨by omega, by omega, this.2.2⟩) lst_nodup, h j]
    by_cases hm : (j : Int) ∈ lst M k (M.nodes - 1).toNat 0
    · rw [if_pos hm]
      have := mem_lst.1 hm
      rw [spec_0 (by omega) (by omega), spec_2 (by omega) (by omega) (by omega), if_pos rfl]
    · rw [if_neg hm]
      have hne : 1 ≤ (j : Int) → (j : Int) < M.nodes → M.Class j ≠ k := fun h1 h2 e => hm (mem_lst.2 ⟨by omega, by omega, e⟩)
      by_cases hj : 1 ≤ (j : Int) ∧ (j : Int) < M.nodes
      · have := hne hj.1 hj.2
        by_cases hc : M.Class j < k
        · rw [spec_2 hj.1 hj.2 hc, spec_2 hj.1 hj.2 (by omega)]
        · rw [spec_0 hj.2 hc, spec_0 hj.2 (by omega)]
      · rw [spec_n hj, spec_n hj]
theorem there_eq (hst : ∀ v, ld l (M.State v) = 1 ↔ v = M.nodes) : ∀ (j v : Nat) (o : List Int), (v : Int) + j = M.nodes → thereN M l (j + 1) v o = markL o M.nodes 1
  | 0, v, o, h => by
    unfold thereN
    have e : (v : Int) = M.nodes := by omega
    rw [if_pos ((hst _).2 e), e]
    rfl
  | j + 1, v, o, h => by
    unfold thereN
    rw [if_neg (fun g => by have := (hst _).1 g; omega)]
    exact there_eq hst j (v + 1) o (by omega)
theorem census_ok (hL : La M) (hC : Cls M) (hm : 1 ≤ M.many) {n : Int} (hw : Wd M n l) : census M l = 0 :: (List.replicate (M.nodes.toNat - 1) 2 ++ [1]) := by
  have hn := hL.nn
  have hF := Fst.of hL hC hm
  have hst : ∀ v, ld l (M.State v) = 1 ↔ v = M.nodes := fun v => by
    rw [show M.State v = ad M (.state v) from rfl, hw.frz (.state v) trivial]
    constructor
    · exact hF.state v
    · rintro rfl; exact first_state hL hC
  have hlst : ∀ k, 0 ≤ k → k < 5 → Lst M l (M.Head k) (lst M k (M.nodes - 1).toNat 0) := fun k k0 k5 =>
    (first_lst hL hC hm k0 k5).move (hw.frz (.head k) trivial) (fun u _ => hw.frz (.next u) trivial)
  obtain ⟨N, hN⟩ : ∃ N, M.nodes.toNat = N + 1 := ⟨M.nodes.toNat - 1, by omega⟩
  have hth : thereN M l M.nodes.toNat 1 (List.replicate (M.nodes.toNat + 1) 0) = markL (List.replicate (M.nodes.toNat + 1) 0) M.nodes 1 := by
    rw [hN]
    exact there_eq hst N 1 _ (by omega)
  have hrep : ∀ j, (List.replicate (M.nodes.toNat + 1) (0 : Int)).getD j 0 = 0 := fun j => by
    rw [List.getD_eq_getElem?_getD, List.getElem?_replicate]
    split <;> rfl
  have hl := listN_inv hL hlst hC 5 0 (markL (List.replicate (M.nodes.toNat + 1) 0) M.nodes 1) rfl (by rw [markL_length, List.length_replicate]) (fun j => by
    rw [markL_getD hn.1 (by rw [List.length_replicate]; omega), hrep]
    by_cases hj : 1 ≤ (j : Int) ∧ (j : Int) < M.nodes
    · have := hC j hj.1 (by omega)
      rw [spec_0 hj.2 (by omega), if_neg (by omega)]
    · rw [spec_n hj]
      rfl)
  unfold census
  rw [hth]
  refine List.ext_getElem? fun j => ?_
  have e1 := hl.2 j
  rcases (show j < M.nodes.toNat + 1 ∨ M.nodes.toNat + 1 ≤ j by omega) with hj | hj
  · have h1 : j < (listN M l 5 0 (markL (List.replicate (M.nodes.toNat + 1) 0) M.nodes 1)).length := by rw [hl.1]; exact hj
    have h2 : j < (0 :: (List.replicate (M.nodes.toNat - 1) (2 : Int) ++ [1])).length := by simp; omega
    rw [List.getElem?_eq_getElem h1, List.getElem?_eq_getElem h2]
    rw [List.getD_eq_getElem?_getD, List.getElem?_eq_getElem h1] at e1
    simp only [Option.getD_some] at e1
    rw [e1]
    unfold spec
    cases j with
    | zero => simp; omega
    | succ j =>
      simp only [List.getElem_cons_succ]
      congr 1
      rcases (show j < M.nodes.toNat - 1 ∨ j = M.nodes.toNat - 1 by omega) with g | g
      · have hcj := hC ((j + 1 : Nat) : Int) (by omega) (by omega)
        rw [if_pos ⟨by omega, by omega, hcj.2⟩, List.getElem_append_left (by simpa using g), List.getElem_replicate]
      · subst g
        rw [if_neg (by omega), if_pos (by omega), List.getElem_append_right (by simp)]
        simp
  · rw [List.getElem?_eq_none (by rw [hl.1]; exact hj), List.getElem?_eq_none (by simp; omega)]
end
theorem good {c : Cfg} (hok : c.ok = true) (zs : List Int) {len : Nat} (hlen : len ≤ 3000) :
    (∀ i, i < len → ¬ badEv c.map.nodes (evS c.map zs (Wo.new c.map []) i)) ∧ census c.map (runS c.map zs (Wo.new c.map []) len).l = 0 :: (List.replicate (c.nodes.toNat - 1) 2 ++ [1]) ∧
      (0 < (runS c.map zs (Wo.new c.map []) len).l.length ∧ (runS c.map zs (Wo.new c.map []) len).l.length ≤ 1000000) := by
  have hc := Cfg.Ok.of hok
  have hL := La.of hc
  have hC : Cls c.map := fun v h1 h2 => class_rng hc ⟨h1, h2⟩
  have hm : 1 ≤ c.map.many := manyAt_ge hc
  have hF := Fst.of hL hC hm
  have h0 := new_ok hL hC hm
  have hr := run_ok hL hF (zs := zs) h0 len (by omega)
  refine ⟨fun i hi => run_ev hL hF h0 i (by omega), census_ok hL hC hm hr.wd, ?_⟩
  rw [hr.wd.len]
  have := hL.all; have := hL.node0; have := hL.pks; have := hL.dqn; have := hL.deqs; have := hL.head; have := hL.mu; have := hL.many
  omega
end Go.Proofs.YtmpcfamcbaineaaGreat.Mo.Iv
namespace Go.Proofs.YtmpcfamcbaineaaGreat.topIdle
open Go.ChangeShapes Go.WideShapes Go.ChangeAt Go.RowKit
theorem own : ownKnob Tryz.prog.godebug = none := by kernel_rfl
theorem laidOut : laidOutB Tryz.prog = true := by kernel_rfl
section
variable {H : Type} {enc : TypeId × Value → H} {w : World} {base : Nat} {spare : Nat → Bool} {held : Bool} {n : Nat}
theorem drop_one {cs : List Value} {i : Nat} {v : Value} (h : (cs.drop i).take 1 = [v]) : cs[i]? = some v := by
  have := congrArg (fun l => l[0]?) h
  simpa [List.getElem?_take, List.getElem?_drop] using this
theorem int_at {cs : List Value} {i : Nat} {x : DataW H × List MemPlace} (h : DataW.trod enc Tryz.prog w base spare held n 3 ((cs.drop i).take (Tryz.prog.cellsOf 3)) = some x) : ∃ z, cs[i]? = some (.int .i64 z) := by
  obtain ⟨z, hz, -, -⟩ := DataW.trod_int Tryz.underlying3 h
  rw [show Tryz.prog.cellsOf 3 = 1 by kernel_rfl] at hz
  exact ⟨z, drop_one hz⟩
theorem list12 {cs : List Value} (h : cs.length = 12) {z0 z1 z2 z3 z4 z5 z6 z7 z8 z9 z10 z11 : Int} (h0 : cs[0]? = some (.int .i64 z0)) (h1 : cs[1]? = some (.int .i64 z1)) (h2 : cs[2]? = some (.int .i64 z2)) (h3 : cs[3]? = some (.int .i64 z3)) (h4 : cs[4]? = some (.int .i64 z4)) (h5 : cs[5]? = some (.int .i64 z5))
    (h6 : cs[6]? = some (.int .i64 z6)) (h7 : cs[7]? = some (.int .i64 z7)) (h8 : cs[8]? = some (.int .i64 z8)) (h9 : cs[9]? = some (.int .i64 z9)) (h10 : cs[10]? = some (.int .i64 z10)) (h11 : cs[11]? = some (.int .i64 z11)) : cs = (Mo.Cfg.cells ⟨z0, z1, z2, z3, z4, z5, z6, z7, z8, z9, z10, z11⟩) := by
  refine List.ext_getElem? fun i => ?_
  rcases (show i = 0 ∨ i = 1 ∨ i = 2 ∨ i = 3 ∨ i = 4 ∨ i = 5 ∨ i = 6 ∨ i = 7 ∨ i = 8 ∨ i = 9 ∨ i = 10 ∨ i = 11 ∨ 12 ≤ i by omega) with rfl | rfl | rfl | rfl | rfl | rfl | rfl | rfl | rfl | rfl | rfl | rfl | hi
  · exact h0
  · exact h1
  · exact h2
  · exact h3
  · exact h4
  · exact h5
  · exact h6
  · exact h7
  · exact h8
  · exact h9
  · exact h10
  · exact h11
  · rw [List.getElem?_eq_none (by omega), List.getElem?_eq_none (by simpa [Mo.Cfg.cells] using hi)]
theorem some_of {xs : List (DataW H × List MemPlace)} {k i : Nat} (hl : xs.length = k) (hi : i < k) : xs[i]? = some (xs[i]'(by omega)) := List.getElem?_eq_getElem _
set_option maxRecDepth 100000 in
theorem open_cfg {r : Reach} {b0 : Nat} {v : Value} {d : DataW H} {p : List MemPlace} (hv : Value.okWide Tryz.prog w r b0 24 v) (h : DataW.Trod enc Tryz.prog w base spare held 24 v d p) : ∃ c : Mo.Cfg, v = .agg c.cells.toArray := by
  obtain ⟨⟨cs⟩, rfl, hsz⟩ := okWide_struct Tryz.underlying24 hv
  obtain ⟨fuel, hf⟩ := h
  obtain ⟨xs, n, -, -, hl, hlen, hg⟩ := DataW.trod_struct Tryz.underlying24 hf
  simp only [Value.cells] at hl hg
  have hlen : xs.length = 8 := hlen
  have hl12 : cs.length = 12 := by rw [hl]; kernel_rfl
  have ha : DataW.trod enc Tryz.prog w base spare held n 22 ((cs.drop 0).take (Tryz.prog.cellsOf 22)) = xs[0]? := hg 0 _ rfl
  have h1 : DataW.trod enc Tryz.prog w base spare held n 3 ((cs.drop 5).take (Tryz.prog.cellsOf 3)) = xs[1]? := hg 1 _ rfl
  have h2 : DataW.trod enc Tryz.prog w base spare held n 3 ((cs.drop 6).take (Tryz.prog.cellsOf 3)) = xs[2]? := hg 2 _ rfl
  have h3 : DataW.trod enc Tryz.prog w base spare held n 3 ((cs.drop 7).take (Tryz.prog.cellsOf 3)) = xs[3]? := hg 3 _ rfl
  have h4 : DataW.trod enc Tryz.prog w base spare held n 3 ((cs.drop 8).take (Tryz.prog.cellsOf 3)) = xs[4]? := hg 4 _ rfl
  have h5 : DataW.trod enc Tryz.prog w base spare held n 3 ((cs.drop 9).take (Tryz.prog.cellsOf 3)) = xs[5]? := hg 5 _ rfl
  have h6 : DataW.trod enc Tryz.prog w base spare held n 3 ((cs.drop 10).take (Tryz.prog.cellsOf 3)) = xs[6]? := hg 6 _ rfl
  have h7 : DataW.trod enc Tryz.prog w base spare held n 3 ((cs.drop 11).take (Tryz.prog.cellsOf 3)) = xs[7]? := hg 7 _ rfl
  rw [some_of hlen (by omega)] at ha h1 h2 h3 h4 h5 h6 h7
  obtain ⟨z5, k5⟩ := int_at h1
  obtain ⟨z6, k6⟩ := int_at h2
  obtain ⟨z7, k7⟩ := int_at h3
  obtain ⟨z8, k8⟩ := int_at h4
  obtain ⟨z9, k9⟩ := int_at h5
  obtain ⟨z10, k10⟩ := int_at h6
  obtain ⟨z11, k11⟩ := int_at h7
  obtain ⟨ys, m, -, -, hly, hylen, hy⟩ := DataW.trod_array Tryz.underlying22 ha
  have g0 := hy 0 (by omega)
  have g1 := hy 1 (by omega)
  have g2 := hy 2 (by omega)
  have g3 := hy 3 (by omega)
  have g4 := hy 4 (by omega)
  rw [some_of hylen (by omega)] at g0 g1 g2 g3 g4
  obtain ⟨z0, k0⟩ := int_at g0
  obtain ⟨z1, k1⟩ := int_at g1
  obtain ⟨z2, k2⟩ := int_at g2
  obtain ⟨z3, k3⟩ := int_at g3
  obtain ⟨z4, k4⟩ := int_at g4
  rw [show Tryz.prog.cellsOf 3 = 1 by kernel_rfl, show Tryz.prog.cellsOf 22 = 5 by kernel_rfl] at k0 k1 k2 k3 k4
  simp only [List.getElem?_take, List.getElem?_drop] at k0 k1 k2 k3 k4
  refine ⟨⟨z0, z1, z2, z3, z4, z5, z6, z7, z8, z9, z10, z11⟩, congrArg (fun l : List Value => Value.agg l.toArray) (list12 hl12 ?_ ?_ ?_ ?_ ?_ k5 k6 k7 k8 k9 k10 k11)⟩
  · simpa using k0
  · simpa using k1
  · simpa using k2
  · simpa using k3
  · simpa using k4
end
theorem get_u8 {zs : List Int} (h : ∀ n ∈ zs, (Lit.int .u8 n).wf = true) (i : Nat) : 0 ≤ Mo.pickOf zs i ∧ Mo.pickOf zs i ≤ 255 := by
  unfold Mo.pickOf
  rw [List.getD_eq_getElem?_getD]
  cases hi : zs[i]? with
  | none => simp
  | some z =>
    obtain ⟨hlt, he⟩ := List.getElem?_eq_some_iff.1 hi
    have hm := h z (by rw [← he]; exact List.getElem_mem hlt)
    have : 0 ≤ z ∧ z ≤ 255 := by simpa [Lit.wf, IntKind.min, IntKind.max, IntKind.signed, IntKind.bits] using hm
    simpa using this
theorem cell_lt {w : World} {a : Addr} {v : Value} (h : w.cell? a = some v) : a.block < w.heap.size := by
  by_cases g : a.block < w.heap.size
  · exact g
  · unfold World.cell? at h
    rw [Array.getElem?_eq_none (by omega)] at h
    simp at h
set_option maxRecDepth 100000 in
theorem lifted (os : Os) (started : os.Started) (H : Type) (enc : TypeId × Value → H) :
    ReturnsInHanded {} Tryz.checked os 3 .any (Rows.topIdleSpec.pre6 enc Tryz.prog Tryz.f3 Rows.topIdleRow.domain false) (Rows.topIdleSpec.post enc Tryz.prog Tryz.f3 false true false false) := by
  refine returnsInHanded_of_change_sized (C := Tryz.checked) own started (by kernel_rfl) Tryz.func3
    (ChangeSpec.witness6 (enc := enc) (C := Tryz.checked) false ⟨#[], #[.agg (Mo.Cfg.cells ⟨0, 0, 0, 0, 0, 0, 0, 0, 0, 0, 0, 0⟩).toArray, .slice none 0 0], []⟩ 8 (by kernel_rfl) (by kernel_rfl) (by kernel_rfl) (by kernel_rfl)) ?_
  intro W base args ds gs before hval0 hW hcnd hsz0 _
  have hval : ∀ (j : Nat) t v, Tryz.f3.params[j]? = some t → args[j]? = some v → Value.okWide Tryz.prog W .any base t v := hval0
  have hW' := hW
  obtain ⟨p, q, hA0, hV, rfl, hfz, hnd⟩ := hW
  have hA : DataW.TrodAll enc Tryz.prog W 0 (fun _ => true) true Tryz.f3.params.toList args.toList ds p := hA0
  rw [Tryz.params3] at hA hval
  obtain ⟨v0, vs0, d0, ds0, p0, q0, hargs, rfl, rfl, h0, r0⟩ := trodAll_cons hA
  obtain ⟨v1, vs1, d1, ds1, p1, q1, rfl, rfl, rfl, h1, r1⟩ := trodAll_cons r0
  obtain ⟨rfl, rfl, rfl⟩ := trodAll_nil r1
  obtain rfl : args = #[v0, v1] := by cases args; simp_all
  obtain ⟨rfl, rfl⟩ := trodVars_none hV
  obtain ⟨c, rfl⟩ := open_cfg (hval 0 24 v0 rfl rfl) h0
  obtain ⟨a1, len1, cap1, rfl⟩ := okWide_slice Tryz.underlying25 (hval 1 25 v1 rfl rfl)
  have k0 := h0
  have k1 := h1
  have lt0 : ∀ x ∈ p0, x.block < W.heap.size := by obtain ⟨m, hm⟩ := k0; exact DataW.trod_lt m _ _ _ hm
  have lt1 : ∀ x ∈ p1, x.block < W.heap.size := by obtain ⟨m, hm⟩ := k1; exact DataW.trod_lt m _ _ _ hm
  obtain ⟨zs, hnil, hrow, hz⟩ : ∃ zs : List Int, (a1 = none → len1 = 0) ∧ (∀ x, a1 = some x → ∀ i, i < len1 → x.block < W.heap.size ∧ W.cell? (x.add i) = some (.int .u8 (Mo.pickOf zs i))) ∧ ∀ i, 0 ≤ Mo.pickOf zs i ∧ Mo.pickOf zs i ≤ 255 := by
    obtain ⟨fuel, hf⟩ := h1
    rcases open_ints Tryz.underlying25 Tryz.underlying5 (by kernel_rfl) hf with ⟨hcs, _⟩ | ⟨x, l, c', zs, hcs, _, hl, hm, hz, _, hcell, hwz⟩
    · simp [Value.cells] at hcs
      obtain ⟨rfl, rfl, rfl⟩ := hcs
      exact ⟨[], fun _ => rfl, fun x hx => (by cases hx), fun i => by simp [Mo.pickOf]⟩
    · simp [Value.cells] at hcs
      obtain ⟨rfl, rfl, rfl⟩ := hcs
      have hz' : zs.length = cap1 := by simpa using hz
      refine ⟨zs, fun h => (by cases h), fun y hy i hi => ?_, get_u8 hwz⟩
      cases hy
      have hc := hcell i (by omega)
      have hb := cell_lt hc
      rw [Mo.Mp.add_block] at hb
      exact ⟨hb, hc⟩
  clear hA0 hval0 hsz0
  refine (Mo.Mp.top_walk (C := ⟨()⟩) (l := []) W (c := c) (zs := zs) (cap := cap1) hnil hrow hz (fun hok _ _ hlen => Mo.Iv.good hok zs hlen)).mono fun e W' ⟨v, l', D', he, _, ⟨hv, _, _⟩, hch, _⟩ => ?_
  subst he
  subst hv
  have bel : Below W.heap.size W W' := ⟨hch.os, hch.tape, hch.output, hch.size, fun k hk => hch.block k hk id⟩
  exact ⟨_, rfl, _, _, _, [], _, [], hW', trodAll_mk1 (shut_bool Tryz.underlying4 _), (trodAll_cons_mk (Below.trod laidOut (by kernel_rfl) (of_decide_eq_true (by kernel_rfl)) k0 bel lt0) (trodAll_cons_mk (Below.trod laidOut (by kernel_rfl) (of_decide_eq_true (by kernel_rfl)) k1 bel lt1) trodAll_mk0)), rfl, bel.frame _, fun h => by cases h⟩
theorem over : Rows.topIdleRow.holds Tryz.pinned (OpenSpec.ofChange Rows.topIdleSpec) :=
  OpenClaim.holds_of_wide 3 Tryz.f3 rfl rfl rfl rfl rfl rfl rfl ⟨rfl, rfl, rfl, rfl, rfl⟩ rfl rfl rfl rfl rfl (by kernel_rfl) Tryz.func3 (by kernel_rfl)
    (of_decide_eq_true (by kernel_rfl)) (by unfold Func.isWrapper; first | (rw [if_pos (by decide +kernel)]; kernel_rfl) | (rw [if_neg (by decide +kernel)]; exact ⟨rfl, rfl⟩))
    (fun os started H enc _ => lifted os started H enc)
theorem proved : Rows.TopIdleSaid := over
#print axioms proved
end Go.Proofs.YtmpcfamcbaineaaGreat.topIdle
namespace Go.Proofs.YtmpcfamcbaineaaGreat
theorem topIdle_holds : Rows.TopIdleSaid := topIdle.proved
end Go.Proofs.YtmpcfamcbaineaaGreat
