/- Contracts of the Go functions that this claim's law reaches (plain Lean functions with the same answers), written by a program of this session over the kit's print; Lean checks all of it. -/
import Derived.Test.YthehejpagkbnmaaPx0
namespace Go.Proofs.Ythehejpagkbnmaa.P
open Go.RowKit Go.Proofs.YthehejpagkbnmaaW.PrintWords Go.Proofs.YthehejpagkbnmaaW.PrintLast Go.Proofs.YthehejpagkbnmaaW.PrintMore
attribute [local go_sem] max2_int min2_int max_two min_two max_three min_three max_four min_four   -- for this text's walks alone
set_option linter.unusedVariables false
set_option linter.unusedSimpArgs false

/-! ### plan_Order: function 11 (by hand: a heap of the library holds who is due) -/
/-- Is one due ahead of another? -/
def lt (a b : S40) : Bool := if a.f0 != b.f0 then decide (a.f0 < b.f0) else decide (a.f1 < b.f1)
/-- A turn as the machine has it. -/
def tv (a : S40) : Value := .agg #[.int .i64 a.f0, .int .i64 a.f1, .int .i64 a.f2]

set_option maxHeartbeats 400000 in
theorem less_calls (a b : S40) (w : World) : Calls Try.prog 44 #[tv a, tv b] w fun e w' => e = .returned (.bool (lt a b)) ∧ Below w.heap.size w w' := by
  unfold tv lt
  by_cases h : a.f0 = b.f0
  · have h1 : (a.f0 != b.f0) = false := by simpa using h
    rw [h1]
    go_enter Try.func44, Try.ntmps44
    go_wp2
    go_ret
    exact ⟨by simp, ((Below.refl _ _).alloc (Nat.le_refl _) _).alloc (by simp) _⟩
  · have h1 : (a.f0 != b.f0) = true := by simpa using h
    rw [h1]
    go_enter Try.func44, Try.ntmps44
    go_wp2
    go_ret
    exact ⟨by simp, ((Below.refl _ _).alloc (Nat.le_refl _) _).alloc (by simp) _⟩

theorem Len_calls (A : Option Addr) (n c : Nat) (w : World) : Calls Try.prog 39 #[.slice A n c] w fun e w' => e = .returned (.int .i64 (n : Int)) ∧ w = w' := by
  go_enter Try.func39, Try.ntmps39
  go_wp2
  go_ret
  exact ⟨rfl, rfl⟩

/-- The cells of turns. -/
def fl : List S40 → List Value
  | [] => []
  | a :: l => .int .i64 a.f0 :: .int .i64 a.f1 :: .int .i64 a.f2 :: fl l
theorem fl_length : ∀ l : List S40, (fl l).length = l.length * 3
  | [] => rfl
  | a :: l => by
    have := fl_length l
    simp only [fl, List.length_cons, this]
    omega
theorem fl_at : ∀ (l : List S40) (i : Nat), i < l.length → (fl l)[i * 3]? = some (.int .i64 (l.getD i z40).f0) ∧ (fl l)[i * 3 + 1]? = some (.int .i64 (l.getD i z40).f1) ∧ (fl l)[i * 3 + 2]? = some (.int .i64 (l.getD i z40).f2)
  | [], i, h => by simp at h
  | a :: l, 0, _ => by simp [fl]
  | a :: l, i + 1, h => by
    have := fl_at l i (by simp only [List.length_cons] at h; omega)
    rw [show (i + 1) * 3 = i * 3 + 1 + 1 + 1 by omega]
    simpa [fl] using this
theorem fl_set : ∀ (l : List S40) (i : Nat) (a : S40), fl (l.set i a) = (((fl l).set (i * 3) (.int .i64 a.f0)).set (i * 3 + 1) (.int .i64 a.f1)).set (i * 3 + 2) (.int .i64 a.f2)
  | [], i, a => by simp [fl]
  | b :: l, 0, a => by simp [fl]
  | b :: l, i + 1, a => by
    have := fl_set l i a
    rw [show (i + 1) * 3 = i * 3 + 1 + 1 + 1 by omega]
    simp [fl, this]
theorem fl_append : ∀ (l m : List S40), fl (l ++ m) = fl l ++ fl m
  | [], m => rfl
  | a :: l, m => by simp [fl, fl_append l m]
theorem fl_take : ∀ (l : List S40) (n : Nat), fl (l.take n) = (fl l).take (n * 3)
  | [], n => by simp [fl]
  | a :: l, 0 => by simp [fl]
  | a :: l, n + 1 => by
    rw [show (n + 1) * 3 = n * 3 + 1 + 1 + 1 by omega]
    simp [fl, fl_take l n]
/-- The row of the queue: block g, its cells. -/
def Row (w : World) (B g c : Nat) (l : List S40) : Prop := w.ownsRow B 40 3 (.slice (some ⟨g, 0, none⟩) l.length c) l.length (fl l)
theorem Row.at {w : World} {B g c : Nat} {l : List S40} (h : Row w B g c l) (i : Nat) (hi : i < l.length) :
    w.cell? ⟨g, i * 3, none⟩ = some (.int .i64 (l.getD i z40).f0) ∧ w.cell? ⟨g, i * 3 + 1, none⟩ = some (.int .i64 (l.getD i z40).f1) ∧ w.cell? ⟨g, i * 3 + 2, none⟩ = some (.int .i64 (l.getD i z40).f2) := by
  have := fl_at l i hi
  exact ⟨by rw [World.ownsRow.cellAt h (i * 3) (by omega)]; exact this.1, by rw [World.ownsRow.cellAt h (i * 3 + 1) (by omega)]; exact this.2.1, by rw [World.ownsRow.cellAt h (i * 3 + 2) (by omega)]; exact this.2.2⟩
theorem Row.lt {w : World} {B g c : Nat} {l : List S40} (h : Row w B g c l) : g < w.heap.size := (World.ownsRow.lt h g rfl).2
theorem Row.le {w : World} {B g c : Nat} {l : List S40} (h : Row w B g c l) : l.length ≤ c := by
  rcases h.2 with ⟨h', _⟩ | ⟨g', cap, cur, h', _, _, hn, _⟩
  · cases h'
  · injection h' with _ _ hc
    omega
theorem Row.base {w : World} {B g c : Nat} {l : List S40} (h : Row w B g c l) : B ≤ g := (World.ownsRow.lt h g rfl).1

set_option maxHeartbeats 1000000 in
theorem Less_calls (B g c : Nat) (l : List S40) (i j : Nat) (w : World) (hr : Row w B g c l) (hi : i < l.length) (hj : j < l.length) (hb : l.length ≤ 100000) :
    Calls Try.prog 40 #[.slice (some ⟨g, 0, none⟩) l.length c, .int .i64 (i : Int), .int .i64 (j : Int)] w fun e w' => e = .returned (.bool (lt (l.getD i z40) (l.getD j z40))) ∧ Below w.heap.size w w' := by
  obtain ⟨a0, a1, a2⟩ := hr.at i hi
  obtain ⟨b0, b1, b2⟩ := hr.at j hj
  generalize l.getD i z40 = a at *
  generalize l.getD j z40 = b at *
  have hgl := hr.lt
  generalize l.length = n at *
  clear hr
  have hi1 : (i : Int) < (n : Int) := by omega
  have hj1 : (j : Int) < (n : Int) := by omega
  go_enter Try.func40, Try.ntmps40
  go_wp2_with fail
  go_region_held3 (fun w' => w'.cell? ⟨g, i * 3, none⟩ = some (.int .i64 a.f0) ∧ w'.cell? ⟨g, i * 3 + 1, none⟩ = some (.int .i64 a.f1) ∧ w'.cell? ⟨g, i * 3 + 2, none⟩ = some (.int .i64 a.f2) ∧ w'.cell? ⟨g, j * 3, none⟩ = some (.int .i64 b.f0) ∧ w'.cell? ⟨g, j * 3 + 1, none⟩ = some (.int .i64 b.f1) ∧ w'.cell? ⟨g, j * 3 + 2, none⟩ = some (.int .i64 b.f2))
    (first | go_keep)
    (first
      | (go_at_call 44; refine (less_calls a b _).mono ?_; rintro e w1 ⟨rfl, hb1⟩; have c0 := (hb1.cell (p := ⟨g, i * 3, none⟩) hgl).trans a0; have c1 := (hb1.cell (p := ⟨g, i * 3 + 1, none⟩) hgl).trans a1; have c2 := (hb1.cell (p := ⟨g, i * 3 + 2, none⟩) hgl).trans a2; have d0 := (hb1.cell (p := ⟨g, j * 3, none⟩) hgl).trans b0; have d1 := (hb1.cell (p := ⟨g, j * 3 + 1, none⟩) hgl).trans b1; have d2 := (hb1.cell (p := ⟨g, j * 3 + 2, none⟩) hgl).trans b2))
  have hb2 : Below w.heap.size w w1 := (Below.refl _ _).drew.trans hb1
  clear a0 a1 a2 b0 b1 b2 c0 c1 c2 d0 d1 d2 hb1
  go_wp2
  go_ret
  exact ⟨rfl, hb2⟩

/-- Nothing has turned but block Q, block g and what is new. -/
structure Far (w w' : World) (Q g : Nat) : Prop where
  os : w'.os = w.os
  tape : w'.tape = w.tape
  output : w'.output = w.output
  size : w.heap.size ≤ w'.heap.size
  block : ∀ k, k < w.heap.size → k ≠ Q → k ≠ g → w'.heap[k]? = w.heap[k]?
theorem Far.refl (w : World) (Q g : Nat) : Far w w Q g := ⟨rfl, rfl, rfl, Nat.le_refl _, fun _ _ _ _ => rfl⟩
theorem Far.trans {w w1 w2 : World} {Q g g' : Nat} (h : Far w w1 Q g) (k : Far w1 w2 Q g') (hg : g' = g ∨ w.heap.size ≤ g') : Far w w2 Q g :=
  ⟨k.os.trans h.os, k.tape.trans h.tape, k.output.trans h.output, Nat.le_trans h.size k.size, fun i h1 h2 h3 => (k.block i (Nat.lt_of_lt_of_le h1 h.size) h2 (by omega)).trans (h.block i h1 h2 h3)⟩
theorem Far.of_below {w w' : World} (h : Below w.heap.size w w') (Q g : Nat) : Far w w' Q g := ⟨h.os, h.tape, h.output, h.size, fun k hk _ _ => h.block k hk⟩
theorem Far.setCell {w w' : World} {Q g : Nat} (h : Far w w' Q g) {o : Nat} (u : Value) : Far w (w'.setCell ⟨g, o, none⟩ u) Q g :=
  h.trans ⟨rfl, rfl, rfl, by simp [World.setCell], fun k _ _ h3 => Below.heap_setCell _ _ _ _ h3⟩ (Or.inl rfl)
theorem Far.setQ {w w' : World} {Q g : Nat} (h : Far w w' Q g) {o : Nat} (u : Value) : Far w (w'.setCell ⟨Q, o, none⟩ u) Q g :=
  h.trans ⟨rfl, rfl, rfl, by simp [World.setCell], fun k _ h2 _ => Below.heap_setCell _ _ _ _ h2⟩ (Or.inl rfl)
theorem Far.drew {w w' : World} {Q g : Nat} (h : Far w w' Q g) : Far w w'.drew Q g := ⟨h.os, h.tape, h.output, h.size, h.block⟩
theorem Far.below {w w' : World} {Q g B : Nat} (h : Far w w' Q g) (hB : B ≤ w.heap.size) (hQ : B ≤ Q) (hg : B ≤ g) : Below B w w' := ⟨h.os, h.tape, h.output, h.size, fun k hk => h.block k (by omega) (by omega) (by omega)⟩
/-- Two of a list change places. -/
def swp (l : List S40) (i j : Nat) : List S40 := (l.set i (l.getD j z40)).set j (l.getD i z40)
theorem swp_length (l : List S40) (i j : Nat) : (swp l i j).length = l.length := by simp [swp]

/-- Nothing has turned but block g. -/
def Only (w w' : World) (g : Nat) : Prop := ∀ k, k ≠ g → w'.heap[k]? = w.heap[k]?
theorem Only.refl (w : World) (g : Nat) : Only w w g := fun _ _ => rfl
theorem Only.setCell {w w' : World} {g : Nat} (h : Only w w' g) {o : Nat} (u : Value) : Only w (w'.setCell ⟨g, o, none⟩ u) g := fun k hk => (Below.heap_setCell _ _ _ _ hk).trans (h k hk)
theorem Only.drew {w w' : World} {g : Nat} (h : Only w w' g) : Only w w'.drew g := h

set_option maxHeartbeats 4000000 in
set_option maxRecDepth 100000 in
theorem Swap_two (B g c Q : Nat) (l : List S40) (i j : Nat) (w : World) (hr : Row w B g c l) (hi : i < l.length) (hj : j < l.length) (hb : l.length ≤ 100000) (hij : i ≠ j) :
    Calls Try.prog 43 #[.slice (some ⟨g, 0, none⟩) l.length c, .int .i64 (i : Int), .int .i64 (j : Int)] w fun e w' => e = .returned (.tuple #[]) ∧ Row w' B g c (swp l i j) ∧ Far w w' Q g ∧ w'.heap.size = w.heap.size ∧ Only w w' g := by
  have HR := Aside0.mk hr
  obtain ⟨a0, a1, a2⟩ := hr.at i hi
  obtain ⟨b0, b1, b2⟩ := hr.at j hj
  have hfz : ∀ o, o < l.length * 3 → w.frozen? ⟨g, o, none⟩ = false := fun o _ => World.ownsRow.frozenAt hr o
  have f0 := hfz (i * 3) (by omega)
  have f1 := hfz (i * 3 + 1) (by omega)
  have f2 := hfz (i * 3 + 2) (by omega)
  have g0 := hfz (j * 3) (by omega)
  have g1 := hfz (j * 3 + 1) (by omega)
  have g2 := hfz (j * 3 + 2) (by omega)
  have HS := Aside0.mk (show swp l i j = (l.set i (l.getD j z40)).set j (l.getD i z40) from rfl)
  generalize l.getD i z40 = a at *
  generalize l.getD j z40 = b at *
  generalize hn : l.length = n at hi hj hb hfz
  have HN := Aside0.mk hn
  clear hr hfz hn
  have hi1 : (i : Int) < (n : Int) := by omega
  have hj1 : (j : Int) < (n : Int) := by omega
  go_enter Try.func43, Try.ntmps43
  go_wp2_with fail
  go_region
  go_end0
  refine ⟨rfl, ?_, ((((((Far.refl w Q g).setCell _).setCell _).setCell _).setCell _).setCell _).setCell _ |>.drew, by simp [World.setCell, World.drew], ((((((Only.refl w g).setCell _).setCell _).setCell _).setCell _).setCell _).setCell _ |>.drew⟩
  · have hr := HR.out
    unfold Row at hr ⊢
    rw [swp_length, HS.out, fl_set, fl_set]
    have q1 := (World.ownsRow.stored hr (i * 3) (.int .i64 b.f0)).1
    have q2 := (World.ownsRow.stored q1 (i * 3 + 1) (.int .i64 b.f1)).1
    have q3 := (World.ownsRow.stored q2 (i * 3 + 2) (.int .i64 b.f2)).1
    have q4 := (World.ownsRow.stored q3 (j * 3) (.int .i64 a.f0)).1
    have q5 := (World.ownsRow.stored q4 (j * 3 + 1) (.int .i64 a.f1)).1
    have q6 := (World.ownsRow.stored q5 (j * 3 + 2) (.int .i64 a.f2)).1
    exact q6.drew

set_option maxHeartbeats 4000000 in
set_option maxRecDepth 100000 in
theorem Swap_one (B g c Q : Nat) (l : List S40) (i : Nat) (w : World) (hr : Row w B g c l) (hi : i < l.length) (hb : l.length ≤ 100000) :
    Calls Try.prog 43 #[.slice (some ⟨g, 0, none⟩) l.length c, .int .i64 (i : Int), .int .i64 (i : Int)] w fun e w' => e = .returned (.tuple #[]) ∧ Row w' B g c (swp l i i) ∧ Far w w' Q g ∧ w'.heap.size = w.heap.size ∧ Only w w' g := by
  have HR := Aside0.mk hr
  obtain ⟨a0, a1, a2⟩ := hr.at i hi
  have f0 : w.frozen? ⟨g, i * 3, none⟩ = false := World.ownsRow.frozenAt hr _
  have f1 : w.frozen? ⟨g, i * 3 + 1, none⟩ = false := World.ownsRow.frozenAt hr _
  have f2 : w.frozen? ⟨g, i * 3 + 2, none⟩ = false := World.ownsRow.frozenAt hr _
  have HS := Aside0.mk (show swp l i i = (l.set i (l.getD i z40)).set i (l.getD i z40) from rfl)
  generalize l.getD i z40 = a at *
  generalize hn : l.length = n at hi hb
  have HN := Aside0.mk hn
  clear hr hn
  have hi1 : (i : Int) < (n : Int) := by omega
  go_enter Try.func43, Try.ntmps43
  go_wp2_with fail
  go_region
  go_end0
  refine ⟨rfl, ?_, ((((((Far.refl w Q g).setCell _).setCell _).setCell _).setCell _).setCell _).setCell _ |>.drew, by simp [World.setCell, World.drew], ((((((Only.refl w g).setCell _).setCell _).setCell _).setCell _).setCell _).setCell _ |>.drew⟩
  · have hr := HR.out
    unfold Row at hr ⊢
    rw [swp_length, HS.out, fl_set, fl_set]
    have q1 := (World.ownsRow.stored hr (i * 3) (.int .i64 a.f0)).1
    have q2 := (World.ownsRow.stored q1 (i * 3 + 1) (.int .i64 a.f1)).1
    have q3 := (World.ownsRow.stored q2 (i * 3 + 2) (.int .i64 a.f2)).1
    have q4 := (World.ownsRow.stored q3 (i * 3) (.int .i64 a.f0)).1
    have q5 := (World.ownsRow.stored q4 (i * 3 + 1) (.int .i64 a.f1)).1
    have q6 := (World.ownsRow.stored q5 (i * 3 + 2) (.int .i64 a.f2)).1
    exact q6.drew

/-! the queue behind its pointer -/
/-- The queue behind the pointer to block Q: its row is block g. -/
structure Que (w : World) (B Q g c : Nat) (l : List S40) : Prop where
  ne : g ≠ Q
  low : B ≤ Q
  head : w.heap[Q]? = some (.cells #[.slice (some ⟨g, 0, none⟩) l.length c] 37 (0, 0))
  row : Row w B g c l
theorem Row.kept {w w' : World} {B g c : Nat} {l : List S40} (h : Row w B g c l) (hb : w'.heap[g]? = w.heap[g]?) : Row w' B g c l :=
  own_move h (fun k hk => by
    have e : g = k := by simpa [Value.ownBlock] using hk
    subst e
    exact hb)
theorem Que.below {w w' : World} {B Q g c : Nat} {l : List S40} (h : Que w B Q g c l) (hb : Below w.heap.size w w') : Que w' B Q g c l :=
  ⟨h.ne, h.low, (hb.block Q (lt_of_block h.head)).trans h.head, h.row.kept (hb.block g h.row.lt)⟩
theorem wrap_nil (ts : Array TypeId) (t : TypeId) (a : Addr) (x y : ByteArray) : Builtin.ssaWrapNilChk_ ts t #[.pointer (some a), .string x, .string y] = pure (.pointer (some a)) := rfl
theorem str_val (s : String) : strVal s = .string s.toUTF8 := rfl
theorem method_val {f sig : Nat} {name : String} (hm : (Try.prog.info? 35).map (fun i => i.methods.find? (·.name == name)) = some (some ⟨name, sig, #[], some (f, false)⟩)) (a : Addr) (v : Value) (w : World) (h : w.cell? a = some v) :
    (method 170 35 (.pointer (some a)) name).run Try.prog w = .ok (f, v) w := by
  obtain ⟨i, hi, hm⟩ := Option.map_eq_some_iff.1 hm
  have hu := Try.underlying35
  have hu2 := Try.underlying37
  unfold method
  simp [typeInfo, hi, hm, follow, receiverAt, Place.get, run_underlying hu]
  simp only [str_val, wrap_nil]
  go_simp
theorem method_less (a : Addr) (v : Value) (w : World) (h : w.cell? a = some v) : (method 170 35 (.pointer (some a)) "Less").run Try.prog w = .ok (40, v) w := method_val (sig := 48) (by kernel_rfl) a v w h
theorem method_len (a : Addr) (v : Value) (w : World) (h : w.cell? a = some v) : (method 170 35 (.pointer (some a)) "Len").run Try.prog w = .ok (39, v) w := method_val (sig := 41) (by kernel_rfl) a v w h
theorem method_swap (a : Addr) (v : Value) (w : World) (h : w.cell? a = some v) : (method 170 35 (.pointer (some a)) "Swap").run Try.prog w = .ok (43, v) w := method_val (sig := 49) (by kernel_rfl) a v w h
theorem method_push (a : Addr) (w : World) : (method 170 35 (.pointer (some a)) "Push").run Try.prog w = .ok (42, .pointer (some a)) w := by kernel_rfl
theorem method_pop (a : Addr) (w : World) : (method 170 35 (.pointer (some a)) "Pop").run Try.prog w = .ok (41, .pointer (some a)) w := by kernel_rfl
theorem assert40 (v : Value) (w : World) : (Instr.typeAssert (.iface 40 v) 20 40 false).run Try.prog w = .ok v w := by rfl

set_option maxHeartbeats 2000000 in
set_option maxRecDepth 100000 in
theorem Push_calls (B Q g c : Nat) (l : List S40) (x : S40) (w : World) (hq : Que w B Q g c l) (hb : l.length ≤ 100000) :
    Calls Try.prog 42 #[.pointer (some ⟨Q, 0, none⟩), .iface 40 (tv x)] w fun e w' => e = .returned (.tuple #[]) ∧ ∃ g' c', Que w' B Q g' c' (l ++ [x]) ∧ Far w w' Q g ∧ (g' = g ∨ w.heap.size ≤ g') := by
  have hc := cell_of_one hq.head
  have hlt := lt_of_block hq.head
  have HQ := Aside0.mk hq
  have hs : B ≤ w.heap.size := by have := hq.low; omega
  have hta := assert40
  unfold tv
  generalize hn : l.length = n at *
  have HN := Aside0.mk hn
  have hown := Aside0.mk (show w.ownsRow B 40 3 (.slice (some ⟨g, 0, none⟩) n c) n (fl l) by rw [← hn]; exact hq.row)
  obtain ⟨i0, hi0, hz0, hz1, hz2⟩ := info_parts info40
  have hne : Q ≠ g := fun e => hq.ne e.symm
  have hQ0 : (w.alloc (.cells #[.int .i64 x.f0, .int .i64 x.f1, .int .i64 x.f2] 40)).drew.heap[Q]? = some (.cells #[.slice (some ⟨g, 0, none⟩) n c] 37 (0, 0)) := (Below.heap_alloc _ _ _ hlt).trans (by rw [← hn]; exact hq.head)
  clear hn hq
  go_enter Try.func42, Try.ntmps42
  go_wp2_with fail
  go_region_law (first
      | (refine step_append_lies _ (by rfl) _ _ _ (by rfl) B 40 i0 _ 3 24 Try.underlying37 hi0 hz0 hz1 hz2 rfl (by omega) (.slice (some ⟨g, 0, none⟩) n c) n (fl l) (by rfl) ((hown.out.alloc _).drew) ⟨w.heap.size, 0, none⟩ 1 1 [.int .i64 x.f0, .int .i64 x.f1, .int .i64 x.f2] (by rfl) (by rfl) (World.news_of_block (cs := #[.int .i64 x.f0, .int .i64 x.f1, .int .i64 x.f2]) (t := 40) (fr := (0, 0)) (heap_alloc_new w _)) (by simp [Value.oneCell']) (by omega) (by unfold maxLen; omega) (by omega) (by simp; omega) (w.heap.size + 1) (by simp) ?_; intro gg cap w1 hown1 hgrow hat hlt1; have hQ1 := (hgrow.block Q (by simp; omega) (fun e => hne (Option.some.inj e))).trans hQ0; have hcQ := cell_of_one hQ1; have hfQ := free_of_one hQ1))
  all_goals go_end0
  all_goals (
    refine ⟨rfl, gg, cap, ?_, ?_, ?_⟩
    · have hgQ : gg ≠ Q := by
        rcases hat with h | h
        · have e : g = gg := by simpa [Value.ownBlock] using h
          exact fun h2 => hne (by rw [← h2, e])
        · omega
      have hl : (l ++ [x]).length = n + 1 := by rw [List.length_append, HN.out, List.length_singleton]
      refine ⟨hgQ, HQ.out.low, by rw [hl]; exact one_setCell hQ1, ?_⟩
      have hr : Row w1 B gg cap (l ++ [x]) := by
        unfold Row
        rw [hl, fl_append]
        exact hown1
      exact hr.kept (Below.heap_setCell _ _ _ _ hgQ)
    · have f1 : Far w (w.alloc (.cells #[.int .i64 x.f0, .int .i64 x.f1, .int .i64 x.f2] 40)).drew Q g := (Far.of_below (below_alloc (Below.refl _ _) _) Q g).drew
      have f2 : Far (w.alloc (.cells #[.int .i64 x.f0, .int .i64 x.f1, .int .i64 x.f2] 40)).drew w1 Q g := ⟨hgrow.os, hgrow.tape, hgrow.output, hgrow.size, fun k hk _ h3 => hgrow.block k hk (fun e => h3 (by simpa [Value.ownBlock] using e))⟩
      exact (f1.trans f2 (Or.inl rfl)).setQ _
    · rcases hat with h | h
      · left
        have e : g = gg := by simpa [Value.ownBlock] using h
        exact e.symm
      · right
        omega)

set_option maxHeartbeats 2000000 in
set_option maxRecDepth 100000 in
theorem Pop_calls (B Q g c : Nat) (l : List S40) (n : Nat) (w : World) (hq : Que w B Q g c l) (hn : l.length = n + 1) (hb : n ≤ 100000) :
    Calls Try.prog 41 #[.pointer (some ⟨Q, 0, none⟩)] w fun e w' => e = .returned (.iface 40 (tv (l.getD n z40))) ∧ Que w' B Q g c (l.take n) ∧ Far w w' Q g := by
  have hc := cell_of_one hq.head
  have hlt := lt_of_block hq.head
  have HQ := Aside0.mk hq
  obtain ⟨a0, a1, a2⟩ := hq.row.at n (by omega)
  have hgl := hq.row.lt
  unfold tv
  generalize l.getD n z40 = a at *
  have hfQ := free_of_one hq.head
  have HN := Aside0.mk hn
  rw [hn] at hc
  have hle : n ≤ c := by have := hq.row.le; omega
  clear hn hq
  go_enter Try.func41, Try.ntmps41
  go_wp2
  go_ret
  refine ⟨rfl, ?_, ?_⟩
  · have hl : (l.take n).length = n := by rw [List.length_take, HN.out]; omega
    have hQ := HQ.out.head
    refine ⟨HQ.out.ne, HQ.out.low, ?_, ?_⟩
    · rw [Below.heap_alloc _ _ _ (by simpa [World.setCell] using hlt), hl]
      exact one_setCell hQ
    · have hr : Row w B g c (l.take n) := by
        have h := HQ.out.row
        unfold Row at h ⊢
        rw [hl, fl_take]
        obtain ⟨h1, h2⟩ := h
        refine ⟨by rw [List.length_take, fl_length, HN.out]; omega, ?_⟩
        rcases h2 with ⟨h', _⟩ | ⟨g', cap, cur, h', h3, h4, h5, h6, h7, h8⟩
        · cases h'
        · injection h' with e1 e2 e3
          injection e1 with e1
          injection e1 with e1
          subst e1 e3
          refine Or.inr ⟨g, c, cur, rfl, h3, h4, by omega, h6, h7, ?_⟩
          rw [← h8, HN.out, List.take_take]
          congr 1
          omega
      refine hr.kept ?_
      rw [Below.heap_alloc _ _ _ (by simpa [World.setCell] using hgl), Below.heap_setCell _ _ _ _ HQ.out.ne]
  · exact ((Far.refl w Q g).setQ _).trans (Far.of_below (below_alloc (Below.refl _ _) _) Q g) (Or.inl rfl)

/-! the library's heap -/
theorem Less_int (B g c : Nat) (l : List S40) (n : Nat) (i j : Int) (w : World) (hr : Row w B g c l) (hn : l.length = n) (hi : 0 ≤ i ∧ i < n) (hj : 0 ≤ j ∧ j < n) (hb : n ≤ 100000) :
    Calls Try.prog 40 #[.slice (some ⟨g, 0, none⟩) n c, .int .i64 i, .int .i64 j] w fun e w' => e = .returned (.bool (lt (l.getD i.toNat z40) (l.getD j.toNat z40))) ∧ Below w.heap.size w w' := by
  subst hn
  obtain ⟨a, rfl⟩ := Int.eq_ofNat_of_zero_le hi.1
  obtain ⟨b, rfl⟩ := Int.eq_ofNat_of_zero_le hj.1
  simp only [Int.toNat_natCast]
  exact Less_calls B g c l a b w hr (by omega) (by omega) hb
theorem Swap_int (B g c Q : Nat) (l : List S40) (n : Nat) (i j : Int) (w : World) (hq : Que w B Q g c l) (hn : l.length = n) (hi : 0 ≤ i ∧ i < n) (hj : 0 ≤ j ∧ j < n) (hb : n ≤ 100000) :
    Calls Try.prog 43 #[.slice (some ⟨g, 0, none⟩) n c, .int .i64 i, .int .i64 j] w fun e w' => e = .returned (.tuple #[]) ∧ Que w' B Q g c (swp l i.toNat j.toNat) ∧ Far w w' Q g := by
  have hr := hq.row
  have up : ∀ (w' : World) (a b : Nat), Row w' B g c (swp l a b) → Far w w' Q g → w'.heap.size = w.heap.size → w'.heap[Q]? = w.heap[Q]? → Que w' B Q g c (swp l a b) := fun w' a b h1 h2 h3 h4 =>
    ⟨hq.ne, hq.low, by rw [swp_length, h4]; exact hq.head, h1⟩
  subst hn
  obtain ⟨a, rfl⟩ := Int.eq_ofNat_of_zero_le hi.1
  obtain ⟨b, rfl⟩ := Int.eq_ofNat_of_zero_le hj.1
  simp only [Int.toNat_natCast]
  by_cases e : a = b
  · subst e
    refine (Swap_one B g c Q l a w hr (by omega) hb).mono ?_
    rintro e w' ⟨he, h1, h2, h3, h4⟩
    exact ⟨he, up w' a a h1 h2 h3 (h4 Q hq.ne.symm), h2⟩
  · refine (Swap_two B g c Q l a b w hr (by omega) (by omega) hb e).mono ?_
    rintro e w' ⟨he, h1, h2, h3, h4⟩
    exact ⟨he, up w' a b h1 h2 h3 (h4 Q hq.ne.symm), h2⟩
def upL : Nat → List S40 → Nat → List S40
  | 0, l, _ => l
  | k + 1, l, j => if (j - 1) / 2 = j ∨ lt (l.getD j z40) (l.getD ((j - 1) / 2) z40) = false then l else upL k (swp l ((j - 1) / 2) j) ((j - 1) / 2)
theorem upL_length : ∀ (k : Nat) (l : List S40) (j : Nat), (upL k l j).length = l.length
  | 0, _, _ => rfl
  | k + 1, l, j => by
    rw [upL]
    split
    · rfl
    · rw [upL_length k, swp_length]
def UpAt (w : World) (B Q g c : Nat) (n : Nat) (total : List S40) (gk : Nat) (v : Value) (wr : World) : Prop :=
  ∃ (l : List S40) (j : Nat), v = .int .i64 (j : Int) ∧ Que wr B Q g c l ∧ l.length = n ∧ j < n ∧ j < gk ∧ upL gk l j = total ∧ Far w wr Q g

set_option maxHeartbeats 2000000 in
set_option maxRecDepth 100000 in
theorem up_calls (B Q g c : Nat) (l : List S40) (j : Nat) (w : World) (hq : Que w B Q g c l) (hj : j < l.length) (hb : l.length ≤ 100000) :
    Calls Try.prog 20 #[.iface 35 (.pointer (some ⟨Q, 0, none⟩)), .int .i64 (j : Int)] w fun e w' => e = .returned (.tuple #[]) ∧ Que w' B Q g c (upL (j + 1) l j) ∧ Far w w' Q g := by
  have H0 : UpAt w B Q g c l.length (upL (j + 1) l j) (j + 1) (.int .i64 (j : Int)) w := ⟨l, j, rfl, hq, rfl, hj, by omega, rfl, Far.refl _ _ _⟩
  clear hq
  go_enter Try.func20, Try.ntmps20
  go_wp2_with fail
  go_loopg [1] (j + 1) (fun gk v wr => UpAt w B Q g c l.length (upL (j + 1) l j) gk v wr)
  case atStart => exact H0
  case round =>
    clear H0
    obtain ⟨l', i, rfl, hq, hl, hi, hgk, hup, hf⟩ := hrel
    have HU := Aside0.mk hup
    have HL := Aside0.mk hl
    have HF := Aside0.mk hf
    have HQ := Aside0.mk hq
    have hc := cell_of_one hq.head
    rw [hl] at hc
    have hil : i < l'.length := by omega
    have hbl : l'.length ≤ 100000 := by omega
    generalize hT : upL (j + 1) l j = T at *
    have HTT := Aside0.mk hT
    generalize hN : l.length = n at *
    clear hT hN hup hl hf hq
    cases i with
    | zero =>
      go_wp2
      go_end0
      refine ⟨rfl, ?_, HF.out⟩
      obtain ⟨k, rfl⟩ : ∃ k, gk = k + 1 := ⟨gk - 1, by omega⟩
      have h := HU.out
      rw [upL, if_pos (Or.inl rfl)] at h
      rw [HTT.out, ← h]
      exact HQ.out
    | succ m =>
      have hm1 := method_less ⟨Q, 0, none⟩ _ wr hc
      have hne : ((m : Int) / 2 == (m : Int) + 1) = false := by rw [beq_eq_false_iff_ne]; omega
      go_wp2_with fail
      refine (Less_int B g c l' n _ _ wr HQ.out.row HL.out (by omega) (by omega) hb).mono ?_
      rintro e w1 ⟨rfl, hb1⟩
      have hq1 := HQ.out.below hb1
      have hc1 := cell_of_one hq1.head
      rw [HL.out] at hc1
      have HQ1 := Aside0.mk hq1
      have HB1 := Aside0.mk hb1
      clear hc hm1 hb1 hq1
      have hm2 := method_swap ⟨Q, 0, none⟩ _ w1 hc1
      rw [show ((m : Int) + 1).toNat = m + 1 from by omega, show ((m : Int) / 2).toNat = m / 2 from by omega]
      cases hlt : lt (l'.getD (m + 1) z40) (l'.getD (m / 2) z40) with
      | false =>
        have HT := Aside0.mk hlt
        clear hlt
        go_wp2
        go_end0
        refine ⟨rfl, ?_, HF.out.trans (Far.of_below HB1.out Q g) (Or.inl rfl)⟩
        obtain ⟨k, rfl⟩ : ∃ k, gk = k + 1 := ⟨gk - 1, by omega⟩
        have h := HU.out
        rw [upL, show (m + 1 - 1) / 2 = m / 2 from rfl, if_pos (Or.inr HT.out)] at h
        rw [HTT.out, ← h]
        exact HQ1.out
      | true =>
        have HT := Aside0.mk hlt
        clear hlt
        go_wp2_with fail
        refine (Swap_int B g c Q l' n _ _ w1 HQ1.out HL.out (by omega) (by omega) hb).mono ?_
        rintro e w2 ⟨rfl, hq2, hf2⟩
        have HQ2 := Aside0.mk hq2
        have HF2 := Aside0.mk hf2
        clear hq2 hf2 hc1 hm2
        go_wp2
        go_roundg (gk - 1)
        case measure => omega
        case rel =>
          obtain ⟨k, rfl⟩ : ∃ k, gk = k + 1 := ⟨gk - 1, by omega⟩
          have h := HU.out
          rw [upL, show (m + 1 - 1) / 2 = m / 2 from rfl, if_neg (by rw [HT.out]; simp; omega)] at h
          have hq2 := HQ2.out
          rw [show ((m : Int) + 1).toNat = m + 1 from by omega, show ((m : Int) / 2).toNat = m / 2 from by omega] at hq2
          refine ⟨_, m / 2, by go_num, hq2, ?_, by omega, by omega, h, ?_⟩
          · rw [swp_length, HL.out]
          · exact (HF.out.trans (Far.of_below HB1.out Q g) (Or.inl rfl)).trans HF2.out (Or.inl rfl)

theorem Less_nat (B g c : Nat) (l : List S40) (n : Nat) (i j : Int) (a b : Nat) (w : World) (hr : Row w B g c l) (hn : l.length = n) (hi : i = (a : Int) ∧ a < n) (hj : j = (b : Int) ∧ b < n) (hb : n ≤ 100000) :
    Calls Try.prog 40 #[.slice (some ⟨g, 0, none⟩) n c, .int .i64 i, .int .i64 j] w fun e w' => e = .returned (.bool (lt (l.getD a z40) (l.getD b z40))) ∧ Below w.heap.size w w' := by
  obtain ⟨rfl, hi⟩ := hi
  obtain ⟨rfl, hj⟩ := hj
  subst hn
  exact Less_calls B g c l a b w hr hi hj hb
theorem Swap_nat (B g c Q : Nat) (l : List S40) (n : Nat) (i j : Int) (a b : Nat) (w : World) (hq : Que w B Q g c l) (hn : l.length = n) (hi : i = (a : Int) ∧ a < n) (hj : j = (b : Int) ∧ b < n) (hb : n ≤ 100000) :
    Calls Try.prog 43 #[.slice (some ⟨g, 0, none⟩) n c, .int .i64 i, .int .i64 j] w fun e w' => e = .returned (.tuple #[]) ∧ Que w' B Q g c (swp l a b) ∧ Far w w' Q g := by
  obtain ⟨rfl, hi⟩ := hi
  obtain ⟨rfl, hj⟩ := hj
  exact Swap_int B g c Q l n a b w hq hn (by omega) (by omega) hb

def kid (n : Nat) (l : List S40) (i : Nat) : Nat := if 2 * i + 2 < n ∧ lt (l.getD (2 * i + 2) z40) (l.getD (2 * i + 1) z40) = true then 2 * i + 2 else 2 * i + 1
def downL : Nat → Nat → List S40 → Nat → List S40
  | 0, _, l, _ => l
  | k + 1, n, l, i => if n ≤ 2 * i + 1 ∨ lt (l.getD (kid n l i) z40) (l.getD i z40) = false then l else downL k n (swp l i (kid n l i)) (kid n l i)
theorem downL_length : ∀ (k n : Nat) (l : List S40) (i : Nat), (downL k n l i).length = l.length
  | 0, _, _, _ => rfl
  | k + 1, n, l, i => by
    rw [downL]
    split
    · rfl
    · rw [downL_length k, swp_length]
def DownAt (w : World) (B Q g c : Nat) (N n : Nat) (total : List S40) (gk : Nat) (v : Value) (wr : World) : Prop :=
  ∃ (l : List S40) (i : Nat), v = .int .i64 (i : Int) ∧ Que wr B Q g c l ∧ l.length = N ∧ i ≤ n ∧ n - i < gk ∧ downL gk n l i = total ∧ Far w wr Q g


set_option maxHeartbeats 4000000 in
set_option maxRecDepth 100000 in
theorem down_calls (B Q g c : Nat) (l : List S40) (n : Nat) (w : World) (hq : Que w B Q g c l) (hn : n ≤ l.length) (hb : l.length ≤ 100000) :
    Calls Try.prog 22 #[.iface 35 (.pointer (some ⟨Q, 0, none⟩)), .int .i64 0, .int .i64 (n : Int)] w fun e w' => ∃ b, e = .returned (.bool b) ∧ Que w' B Q g c (downL (n + 1) n l 0) ∧ Far w w' Q g := by
  have H0 : DownAt w B Q g c l.length n (downL (n + 1) n l 0) (n + 1) (.int .i64 0) w := ⟨l, 0, rfl, hq, rfl, by omega, by omega, rfl, Far.refl _ _ _⟩
  clear hq
  go_enter Try.func22, Try.ntmps22
  go_wp2_with fail
  go_loopg [7] (n + 1) (fun gk v wr => DownAt w B Q g c l.length n (downL (n + 1) n l 0) gk v wr)
  case atStart => exact H0
  case round =>
    clear H0
    obtain ⟨l', i, rfl, hq, hl, hi, hgk, hup, hf⟩ := hrel
    have HU := Aside0.mk hup
    have HL := Aside0.mk hl
    have HF := Aside0.mk hf
    have HQ := Aside0.mk hq
    have hc := cell_of_one hq.head
    rw [hl] at hc
    generalize hT : downL (n + 1) n l 0 = T at *
    have HTT := Aside0.mk hT
    generalize hN : l.length = N at *
    clear hT hN hup hl hf hq
    by_cases h1 : n ≤ 2 * i + 1
    · have h1' : (n : Int) ≤ 2 * (i : Int) + 1 := by omega
      go_wp2
      go_ret
      refine ⟨_, rfl, ?_, HF.out⟩
      obtain ⟨k, rfl⟩ : ∃ k, gk = k + 1 := ⟨gk - 1, by omega⟩
      have h := HU.out
      rw [downL, if_pos (Or.inl h1)] at h
      rw [HTT.out, ← h]
      exact HQ.out
    · have h1' : ¬ (n : Int) ≤ 2 * (i : Int) + 1 := by omega
      by_cases h2 : 2 * i + 2 < n
      · have h2' : 2 * (i : Int) + 1 + 1 < (n : Int) := by omega
        have hm1 := method_less ⟨Q, 0, none⟩ _ wr hc
        go_wp2_with fail
        refine (Less_nat B g c l' N _ _ (2 * i + 2) (2 * i + 1) wr HQ.out.row HL.out ⟨by omega, by omega⟩ ⟨by omega, by omega⟩ hb).mono ?_
        rintro e wa ⟨rfl, hba⟩
        have hqa := HQ.out.below hba
        have hca := cell_of_one hqa.head
        rw [HL.out] at hca
        have HQA := Aside0.mk hqa
        have HFA := Aside0.mk (HF.out.trans (Far.of_below hba Q g) (Or.inl rfl))
        clear hc hm1 hba hqa
        cases hlk : lt (l'.getD (2 * i + 2) z40) (l'.getD (2 * i + 1) z40) with
        | false =>
          have HK := Aside0.mk (show kid n l' i = 2 * i + 1 by unfold kid; rw [if_neg]; rw [hlk]; simp)
          clear hlk
          have hm3 := method_less ⟨Q, 0, none⟩ _ wa hca
          go_wp2_with fail
          refine (Less_nat B g c l' N _ _ (2 * i + 1) i wa HQA.out.row HL.out ⟨by omega, by omega⟩ ⟨by omega, by omega⟩ hb).mono ?_
          rintro e w1 ⟨rfl, hb1⟩
          have hq1 := HQA.out.below hb1
          have hc1 := cell_of_one hq1.head
          rw [HL.out] at hc1
          have HQ1 := Aside0.mk hq1
          have HB1 := Aside0.mk hb1
          clear hca hm3 hb1 hq1
          have hm2 := method_swap ⟨Q, 0, none⟩ _ w1 hc1
          cases hlt : lt (l'.getD (2 * i + 1) z40) (l'.getD i z40) with
          | false =>
            have HT := Aside0.mk hlt
            clear hlt
            go_wp2
            go_ret
            refine ⟨_, rfl, ?_, HFA.out.trans (Far.of_below HB1.out Q g) (Or.inl rfl)⟩
            obtain ⟨k, rfl⟩ : ∃ k, gk = k + 1 := ⟨gk - 1, by omega⟩
            have h := HU.out
            rw [downL, HK.out, if_pos (Or.inr HT.out)] at h
            rw [HTT.out, ← h]
            exact HQ1.out
          | true =>
            have HT := Aside0.mk hlt
            clear hlt
            go_wp2_with fail
            refine (Swap_nat B g c Q l' N _ _ i (2 * i + 1) w1 HQ1.out HL.out ⟨by omega, by omega⟩ ⟨by omega, by omega⟩ hb).mono ?_
            rintro e w2 ⟨rfl, hq2, hf2⟩
            have HQ2 := Aside0.mk hq2
            have HF2 := Aside0.mk hf2
            clear hq2 hf2 hc1 hm2
            go_wp2
            go_roundg (gk - 1)
            case measure => omega
            case rel =>
              obtain ⟨k, rfl⟩ : ∃ k, gk = k + 1 := ⟨gk - 1, by omega⟩
              have h := HU.out
              rw [downL, HK.out, if_neg (by rw [HT.out]; simp; omega)] at h
              refine ⟨_, (2 * i + 1), by go_num, HQ2.out, ?_, by omega, by omega, h, ?_⟩
              · rw [swp_length, HL.out]
              · exact (HFA.out.trans (Far.of_below HB1.out Q g) (Or.inl rfl)).trans HF2.out (Or.inl rfl)
        | true =>
          have HK := Aside0.mk (show kid n l' i = 2 * i + 2 by unfold kid; rw [if_pos ⟨h2, hlk⟩])
          clear hlk
          have hm3 := method_less ⟨Q, 0, none⟩ _ wa hca
          go_wp2_with fail
          refine (Less_nat B g c l' N _ _ (2 * i + 2) i wa HQA.out.row HL.out ⟨by omega, by omega⟩ ⟨by omega, by omega⟩ hb).mono ?_
          rintro e w1 ⟨rfl, hb1⟩
          have hq1 := HQA.out.below hb1
          have hc1 := cell_of_one hq1.head
          rw [HL.out] at hc1
          have HQ1 := Aside0.mk hq1
          have HB1 := Aside0.mk hb1
          clear hca hm3 hb1 hq1
          have hm2 := method_swap ⟨Q, 0, none⟩ _ w1 hc1
          cases hlt : lt (l'.getD (2 * i + 2) z40) (l'.getD i z40) with
          | false =>
            have HT := Aside0.mk hlt
            clear hlt
            go_wp2
            go_ret
            refine ⟨_, rfl, ?_, HFA.out.trans (Far.of_below HB1.out Q g) (Or.inl rfl)⟩
            obtain ⟨k, rfl⟩ : ∃ k, gk = k + 1 := ⟨gk - 1, by omega⟩
            have h := HU.out
            rw [downL, HK.out, if_pos (Or.inr HT.out)] at h
            rw [HTT.out, ← h]
            exact HQ1.out
          | true =>
            have HT := Aside0.mk hlt
            clear hlt
            go_wp2_with fail
            refine (Swap_nat B g c Q l' N _ _ i (2 * i + 2) w1 HQ1.out HL.out ⟨by omega, by omega⟩ ⟨by omega, by omega⟩ hb).mono ?_
            rintro e w2 ⟨rfl, hq2, hf2⟩
            have HQ2 := Aside0.mk hq2
            have HF2 := Aside0.mk hf2
            clear hq2 hf2 hc1 hm2
            go_wp2
            go_roundg (gk - 1)
            case measure => omega
            case rel =>
              obtain ⟨k, rfl⟩ : ∃ k, gk = k + 1 := ⟨gk - 1, by omega⟩
              have h := HU.out
              rw [downL, HK.out, if_neg (by rw [HT.out]; simp; omega)] at h
              refine ⟨_, (2 * i + 2), by go_num, HQ2.out, ?_, by omega, by omega, h, ?_⟩
              · rw [swp_length, HL.out]
              · exact (HFA.out.trans (Far.of_below HB1.out Q g) (Or.inl rfl)).trans HF2.out (Or.inl rfl)
      · have h2' : ¬ 2 * (i : Int) + 1 + 1 < (n : Int) := by omega
        have HK := Aside0.mk (show kid n l' i = 2 * i + 1 by unfold kid; rw [if_neg]; omega)
        have hca := hc
        have HQA := HQ
        have HFA := HF
        clear hc HQ
        have hm3 := method_less ⟨Q, 0, none⟩ _ wr hca
        go_wp2_with fail
        refine (Less_nat B g c l' N _ _ (2 * i + 1) i wr HQA.out.row HL.out ⟨by omega, by omega⟩ ⟨by omega, by omega⟩ hb).mono ?_
        rintro e w1 ⟨rfl, hb1⟩
        have hq1 := HQA.out.below hb1
        have hc1 := cell_of_one hq1.head
        rw [HL.out] at hc1
        have HQ1 := Aside0.mk hq1
        have HB1 := Aside0.mk hb1
        clear hca hm3 hb1 hq1
        have hm2 := method_swap ⟨Q, 0, none⟩ _ w1 hc1
        cases hlt : lt (l'.getD (2 * i + 1) z40) (l'.getD i z40) with
        | false =>
          have HT := Aside0.mk hlt
          clear hlt
          go_wp2
          go_ret
          refine ⟨_, rfl, ?_, HFA.out.trans (Far.of_below HB1.out Q g) (Or.inl rfl)⟩
          obtain ⟨k, rfl⟩ : ∃ k, gk = k + 1 := ⟨gk - 1, by omega⟩
          have h := HU.out
          rw [downL, HK.out, if_pos (Or.inr HT.out)] at h
          rw [HTT.out, ← h]
          exact HQ1.out
        | true =>
          have HT := Aside0.mk hlt
          clear hlt
          go_wp2_with fail
          refine (Swap_nat B g c Q l' N _ _ i (2 * i + 1) w1 HQ1.out HL.out ⟨by omega, by omega⟩ ⟨by omega, by omega⟩ hb).mono ?_
          rintro e w2 ⟨rfl, hq2, hf2⟩
          have HQ2 := Aside0.mk hq2
          have HF2 := Aside0.mk hf2
          clear hq2 hf2 hc1 hm2
          go_wp2
          go_roundg (gk - 1)
          case measure => omega
          case rel =>
            obtain ⟨k, rfl⟩ : ∃ k, gk = k + 1 := ⟨gk - 1, by omega⟩
            have h := HU.out
            rw [downL, HK.out, if_neg (by rw [HT.out]; simp; omega)] at h
            refine ⟨_, (2 * i + 1), by go_num, HQ2.out, ?_, by omega, by omega, h, ?_⟩
            · rw [swp_length, HL.out]
            · exact (HFA.out.trans (Far.of_below HB1.out Q g) (Or.inl rfl)).trans HF2.out (Or.inl rfl)

def pushL (l : List S40) (x : S40) : List S40 := upL (l.length + 1) (l ++ [x]) l.length
def popS (l : List S40) : List S40 := downL (l.length - 1 + 1) (l.length - 1) (swp l 0 (l.length - 1)) 0
def popL (l : List S40) : List S40 := (popS l).take (l.length - 1)
def popX (l : List S40) : S40 := (popS l).getD (l.length - 1) z40

set_option maxHeartbeats 4000000 in
set_option maxRecDepth 100000 in
theorem HPush_calls (B Q g c : Nat) (l : List S40) (x : S40) (w : World) (hq : Que w B Q g c l) (hb : l.length < 100000) :
    Calls Try.prog 17 #[.iface 35 (.pointer (some ⟨Q, 0, none⟩)), .iface 40 (tv x)] w fun e w' => e = .returned (.tuple #[]) ∧ ∃ g' c', Que w' B Q g' c' (pushL l x) ∧ Far w w' Q g ∧ (g' = g ∨ w.heap.size ≤ g') := by
  have hm := method_push ⟨Q, 0, none⟩
  have HQ := Aside0.mk hq
  clear hq
  go_enter Try.func17, Try.ntmps17
  go_wp2_with fail
  refine (Push_calls B Q g c l x w HQ.out (by omega)).mono ?_
  rintro e w1 ⟨rfl, g1, c1, hq1, hf1, hg1⟩
  have HF1 := Aside0.mk hf1
  have HG1 := Aside0.mk hg1
  have HQ1 := Aside0.mk hq1
  have hc1 := cell_of_one hq1.head
  rw [show (l ++ [x]).length = l.length + 1 by simp] at hc1
  have HPL := Aside0.mk (show pushL l x = upL (l.length + 1) (l ++ [x]) l.length from rfl)
  have HN := Aside0.mk (show (l ++ [x]).length = l.length + 1 by simp)
  generalize l.length = n at *
  have hm1 := method_len ⟨Q, 0, none⟩ _ w1 hc1
  clear hf1 hg1 hq1
  go_wp2_with fail
  refine (Len_calls _ _ _ _).mono ?_
  rintro e w1 ⟨rfl, rfl⟩
  go_wp2_with fail
  have hup := up_calls B Q g1 c1 (l ++ [x]) n w1 HQ1.out (by rw [HN.out]; omega) (by rw [HN.out]; omega)
  refine (hup).mono ?_
  rintro e w2 ⟨rfl, hq2, hf2⟩
  have HF2 := Aside0.mk hf2
  have HQ2 := Aside0.mk hq2
  clear hf2 hq2 hup
  go_wp2
  go_end0
  refine ⟨rfl, g1, c1, ?_, HF1.out.trans HF2.out HG1.out, HG1.out⟩
  rw [HPL.out]
  exact HQ2.out

set_option maxHeartbeats 4000000 in
set_option maxRecDepth 100000 in
theorem HPop_calls (B Q g c : Nat) (l : List S40) (w : World) (hq : Que w B Q g c l) (h0 : 0 < l.length) (hb : l.length ≤ 100000) :
    Calls Try.prog 21 #[.iface 35 (.pointer (some ⟨Q, 0, none⟩))] w fun e w' => e = .returned (.iface 40 (tv (popX l))) ∧ Que w' B Q g c (popL l) ∧ Far w w' Q g := by
  obtain ⟨n, hn⟩ : ∃ n, l.length = n + 1 := ⟨l.length - 1, by omega⟩
  have hPX : popX l = (popS l).getD n z40 := by unfold popX; rw [hn]; rfl
  have hPL : popL l = (popS l).take n := by unfold popL; rw [hn]; rfl
  have hPS : popS l = downL (n + 1) n (swp l 0 n) 0 := by unfold popS; rw [hn]; rfl
  rw [hPX, hPL]
  have HPS := Aside0.mk hPS
  have HQ := Aside0.mk hq
  have hm := method_pop ⟨Q, 0, none⟩
  have hc := cell_of_one hq.head
  rw [hn] at hc hb
  have HN := Aside0.mk hn
  have hm1 := method_len ⟨Q, 0, none⟩ _ w hc
  have hm2 := method_swap ⟨Q, 0, none⟩ _ w hc
  generalize popS l = s at *
  clear hq hn h0 hPX hPL hPS
  go_enter Try.func21, Try.ntmps21
  go_wp2_with fail
  refine (Len_calls _ _ _ _).mono ?_
  rintro e w1 ⟨rfl, rfl⟩
  go_wp2_with fail
  refine (Swap_nat B g c Q l (n + 1) _ _ 0 n w HQ.out HN.out ⟨by omega, by omega⟩ ⟨by omega, by omega⟩ hb).mono ?_
  rintro e w1 ⟨rfl, hq1, hf1⟩
  have HF1 := Aside0.mk hf1
  have HQ1 := Aside0.mk hq1
  clear hq1 hf1 hm1 hm2 hc
  go_wp2_with fail
  refine (down_calls B Q g c (swp l 0 n) n w1 HQ1.out (by rw [swp_length, HN.out]; omega) (by rw [swp_length, HN.out]; omega)).mono ?_
  rintro e w2 ⟨b, rfl, hq2, hf2⟩
  rw [← HPS.out] at hq2
  have HF2 := Aside0.mk (HF1.out.trans hf2 (Or.inl rfl))
  have HQ2 := Aside0.mk hq2
  have HN2 := Aside0.mk (show s.length = n + 1 by rw [HPS.out, downL_length, swp_length, HN.out])
  clear hf2 hq2
  go_wp2_with fail
  refine (Pop_calls B Q g c s n w2 HQ2.out HN2.out (by omega)).mono ?_
  rintro e w3 ⟨rfl, hq3, hf3⟩
  have HF3 := Aside0.mk (HF2.out.trans hf3 (Or.inl rfl))
  have HQ3 := Aside0.mk hq3
  clear hf3 hq3
  go_wp2
  go_ret
  exact ⟨rfl, HQ3.out, HF3.out⟩

/-! what the heap keeps -/
theorem getD_here (l : List S40) (i : Nat) (h : i < l.length) : l.getD i z40 = l[i] := by
  simp [List.getD_eq_getElem?_getD, List.getElem?_eq_getElem h]
theorem swp_perm (l : List S40) (i j : Nat) (hi : i < l.length) (hj : j < l.length) : (swp l i j).Perm l := by
  unfold swp
  rw [getD_here _ _ hi, getD_here _ _ hj]
  exact List.set_set_perm hi hj
theorem upL_perm : ∀ (k : Nat) (l : List S40) (j : Nat), j < l.length → (upL k l j).Perm l
  | 0, l, _, _ => List.Perm.refl l
  | k + 1, l, j, hj => by
    rw [upL]
    split
    · exact List.Perm.refl l
    · exact (upL_perm k _ _ (by rw [swp_length]; omega)).trans (swp_perm l _ _ (by omega) hj)
theorem kid_le (n : Nat) (l : List S40) (i : Nat) : 2 * i + 1 ≤ kid n l i := by
  unfold kid
  split <;> omega
theorem kid_lt (n : Nat) (l : List S40) (i : Nat) (h : 2 * i + 1 < n) : kid n l i < n := by
  unfold kid
  split <;> omega
theorem downL_perm : ∀ (k n : Nat) (l : List S40) (i : Nat), n ≤ l.length → (downL k n l i).Perm l
  | 0, _, l, _, _ => List.Perm.refl l
  | k + 1, n, l, i, hn => by
    rw [downL]
    split
    · exact List.Perm.refl l
    · next h =>
      have h1 : 2 * i + 1 < n := by
        have := not_or.1 h
        omega
      have := kid_lt n l i h1
      exact (downL_perm k n _ _ (by rw [swp_length]; exact hn)).trans (swp_perm l _ _ (by omega) (by omega))
theorem pushL_perm (l : List S40) (x : S40) : (pushL l x).Perm (x :: l) := by
  unfold pushL
  exact (upL_perm _ _ _ (by simp)).trans (List.perm_append_comm (l₁ := l) (l₂ := [x]))
theorem popS_perm (l : List S40) (h : 0 < l.length) : (popS l).Perm l := by
  unfold popS
  exact (downL_perm _ _ _ _ (by rw [swp_length]; omega)).trans (swp_perm l _ _ h (by omega))
theorem popS_length (l : List S40) : (popS l).length = l.length := by
  unfold popS
  rw [downL_length, swp_length]
theorem popS_eq (l : List S40) (h : 0 < l.length) : popS l = popL l ++ [popX l] := by
  have hl := popS_length l
  unfold popL popX
  generalize popS l = s at *
  rw [getD_here _ _ (by omega)]
  have h2 : s = s.take (l.length - 1 + 1) := by rw [List.take_of_length_le]; omega
  rw [List.take_add_one, List.getElem?_eq_getElem (by omega)] at h2
  exact h2
theorem pop_perm (l : List S40) (h : 0 < l.length) : (popX l :: popL l).Perm l :=
  (List.perm_append_comm (l₁ := [popX l]) (l₂ := popL l)).trans (by rw [← popS_eq l h]; exact popS_perm l h)

def bnd (p : Int) : Int := min (max p 1) 1000
theorem bnd_at (p : Int) : 1 ≤ bnd p ∧ bnd p ≤ 1000 := by
  unfold bnd
  omega
def bump (x : S40) : S40 := ⟨x.f0 + x.f2, x.f1, x.f2⟩
def nextL (l : List S40) : List S40 := pushL (popL l) (bump (popX l))
def startL : Nat → List Int → List S40 → List S40
  | _, [], l => l
  | i, p :: ps, l => startL (i + 1) ps (pushL l ⟨bnd p, (i : Int), bnd p⟩)
def ordL : Nat → List S40 → List Int
  | 0, _ => []
  | k + 1, l => (popX l).f1 :: ordL k (nextL l)
theorem ordL_length : ∀ (k : Nat) (l : List S40), (ordL k l).length = k
  | 0, _ => rfl
  | k + 1, l => by simp [ordL, ordL_length k]
theorem nextL_perm (l : List S40) (h : 0 < l.length) : (nextL l).Perm (bump (popX l) :: popL l) := pushL_perm _ _
theorem popL_length (l : List S40) (h : 0 < l.length) : (popL l).length + 1 = l.length := by
  have := (pop_perm l h).length_eq
  simpa using this
theorem nextL_length (l : List S40) (h : 0 < l.length) : (nextL l).length = l.length := by
  rw [(nextL_perm l h).length_eq, List.length_cons, popL_length l h]
theorem pushL_length (l : List S40) (x : S40) : (pushL l x).length = l.length + 1 := by
  rw [(pushL_perm l x).length_eq, List.length_cons]
def Good (b : Int) (l : List S40) : Prop := ∀ x ∈ l, 0 ≤ x.f0 ∧ x.f0 ≤ b ∧ 0 ≤ x.f2 ∧ x.f2 ≤ 1000 ∧ 0 ≤ x.f1 ∧ x.f1 ≤ 1000000
theorem Good.pop {b : Int} {l : List S40} (h : Good b l) (h0 : 0 < l.length) : Good b [popX l] ∧ Good b (popL l) := by
  have hp := pop_perm l h0
  refine ⟨fun x hx => h x (hp.mem_iff.1 ?_), fun x hx => h x (hp.mem_iff.1 (List.mem_cons_of_mem _ hx))⟩
  simp only [List.mem_singleton] at hx
  subst hx
  exact List.mem_cons_self
theorem Good.next {b : Int} {l : List S40} (h : Good b l) (h0 : 0 < l.length) : Good (b + 1000) (nextL l) := by
  obtain ⟨h1, h2⟩ := h.pop h0
  intro x hx
  rcases List.mem_cons.1 ((nextL_perm l h0).mem_iff.1 hx) with rfl | hx
  · have := h1 _ (List.mem_singleton.2 rfl)
    simp only [bump]
    omega
  · have := h2 _ hx
    omega
theorem Good.push {b : Int} {l : List S40} (h : Good b l) (x : S40) (hx : 0 ≤ x.f0 ∧ x.f0 ≤ b ∧ 0 ≤ x.f2 ∧ x.f2 ≤ 1000 ∧ 0 ≤ x.f1 ∧ x.f1 ≤ 1000000) : Good b (pushL l x) := by
  intro y hy
  rcases List.mem_cons.1 ((pushL_perm l x).mem_iff.1 hy) with rfl | hy
  · exact hx
  · exact h _ hy

set_option maxHeartbeats 4000000 in
set_option maxRecDepth 100000 in
theorem next_calls (B Q g c : Nat) (l : List S40) (b : Int) (w : World) (hq : Que w B Q g c l) (h0 : 0 < l.length) (hl : l.length ≤ 100) (hg : Good b l) (hb : b ≤ 1000000000) :
    Calls Try.prog 18 #[.pointer (some ⟨Q, 0, none⟩)] w fun e w' => e = .returned (.int .i64 (popX l).f1) ∧ ∃ g' c', Que w' B Q g' c' (nextL l) ∧ Far w w' Q g ∧ (g' = g ∨ w.heap.size ≤ g') := by
  obtain ⟨hg1, hg2⟩ := hg.pop h0
  have hx := hg1 _ (List.mem_singleton.2 rfl)
  have HNX := Aside0.mk (show nextL l = pushL (popL l) (bump (popX l)) from rfl)
  have hbx := Aside0.mk (show bump (popX l) = ⟨(popX l).f0 + (popX l).f2, (popX l).f1, (popX l).f2⟩ from rfl)
  have hpl := popL_length l h0
  have HQ := Aside0.mk hq
  have HPop := Aside0.mk (HPop_calls B Q g c l w hq h0 (by omega))
  generalize popX l = x at *
  generalize popL l = l1 at *
  generalize nextL l = l2 at *
  obtain ⟨x0, x1, x2⟩ := x
  simp only at hx hbx
  have hta := assert40
  unfold tv at HPop
  simp only at HPop
  clear hq hg hg1 hg2
  go_enter Try.func18, Try.ntmps18
  go_wp2_with fail
  refine (HPop.out).mono ?_
  rintro e w1 ⟨rfl, hq1, hf1⟩
  have HF1 := Aside0.mk hf1
  have HQ1 := Aside0.mk hq1
  clear HPop hq1 hf1
  go_wp2_with fail
  have hbw : Below w1.heap.size w1 (w1.alloc (Obj.cells #[Value.int IntKind.i64 (x0 + x2), Value.int IntKind.i64 x1, Value.int IntKind.i64 x2] 40)) := below_alloc (Below.refl _ _) _
  have hq2 := HQ1.out.below hbw
  have HF2 := Aside0.mk (HF1.out.trans (Far.of_below hbw Q g) (Or.inl rfl))
  have hsz := Aside0.mk (Nat.le_trans HF1.out.size hbw.size)
  generalize (w1.alloc (Obj.cells #[Value.int IntKind.i64 (x0 + x2), Value.int IntKind.i64 x1, Value.int IntKind.i64 x2] 40)) = w2 at *
  clear hbw
  refine (HPush_calls B Q g c l1 ⟨x0 + x2, x1, x2⟩ w2 hq2 (by omega)).mono ?_
  rintro e w3 ⟨rfl, g3, c3, hq3, hf3, hg3⟩
  have HF3 := Aside0.mk (HF2.out.trans hf3 (Or.inl rfl))
  have HG3 := Aside0.mk (show g3 = g ∨ w.heap.size ≤ g3 by have := hsz.out; omega)
  rw [← hbx.out, ← HNX.out] at hq3
  have HQ3 := Aside0.mk hq3
  clear hq2 hq3 hf3 hg3
  go_wp2
  go_ret
  exact ⟨rfl, g3, c3, HQ3.out, HF3.out, HG3.out⟩

theorem Row.block {w : World} {B g c : Nat} {l : List S40} (h : Row w B g c l) : ∃ cur, w.heap[g]? = some (.cells cur 40 (0, 0)) := by
  rcases h.2 with ⟨h', _⟩ | ⟨g', cap, cur, h', _, hc, _⟩
  · cases h'
  · injection h' with e1 e2 e3
    injection e1 with e1
    injection e1 with e1
    subst e1
    exact ⟨cur, hc⟩
def plan_Order.f (l0 : List Int) (a1 : Int) : Option (List Int) := if l0.length = 0 ∨ a1 < 1 then some [] else if 100 < l0.length ∨ 100000 < a1 then none else some (ordL a1.toNat (startL 0 l0 []))
def StartAt (w : World) (B Q : Nat) (l0 : List Int) (total : List S40) (gk : Nat) (v : Value) (wr : World) : Prop :=
  ∃ (i g c : Nat) (l : List S40), v = .int .i64 (i : Int) ∧ Que wr B Q g c l ∧ l.length = i ∧ i ≤ l0.length ∧ gk = l0.length - i ∧ Good 1000 l ∧ startL i (l0.drop i) l = total ∧ Below B w wr
def OutAt (w : World) (B Q : Nat) (N n : Nat) (total : List Int) (gk : Nat) (v9 v41 : Value) (wr : World) : Prop :=
  ∃ (k g c : Nat) (l : List S40) (out : List Int), v41 = .int .i64 (k : Int) ∧ Kd.R (Kd.int .i64) 3 wr B (fun _ => True) v9 out ∧ out.length = k ∧ Que wr B Q g c l ∧ l.length = N ∧ k ≤ n ∧ gk = n - k ∧ Good (1000 * (k + 1)) l ∧ out ++ ordL (n - k) l = total ∧ Below B w wr

set_option maxHeartbeats 4000000 in
set_option maxRecDepth 100000 in
theorem plan_Order.calls (A0 : Option Addr) (c0 : Nat) (l0 : List Int) (a1 : Int) (r : List Int) (w : World) (hr0 : Kd.C (Kd.int .i64) w A0 l0.length l0) (hc0 : l0.length ≤ c0) (h : plan_Order.f l0 a1 = some r) :
    Calls Try.prog 11 #[.slice A0 l0.length c0, .int .i64 a1] w fun e w' => ∃ v0_ : Value, e = .returned v0_ ∧ Kd.R (Kd.int .i64) 3 w' w.heap.size (fun _ => True) v0_ r ∧ Below w.heap.size w w' := by
  have HR0 := Aside0.mk hr0
  have HC0 := Aside0.mk hc0
  unfold plan_Order.f at h
  clear hr0 hc0
  by_cases h1 : l0.length = 0
  · rw [if_pos (Or.inl h1)] at h
    have H := Aside0.mk h
    clear h
    go_enter Try.func11, Try.ntmps11
    go_wp2
    go_ret
    refine ⟨_, rfl, ?_, by repeat (first | exact Below.refl _ _ | apply below_alloc | apply below_drew)⟩
    rw [← Option.some.inj H.out]
    exact Kd.R_nil _ _ _ _ _
  by_cases h2 : a1 < 1
  · rw [if_pos (Or.inr h2)] at h
    have H := Aside0.mk h
    clear h
    go_enter Try.func11, Try.ntmps11
    go_wp2
    go_ret
    refine ⟨_, rfl, ?_, by repeat (first | exact Below.refl _ _ | apply below_alloc | apply below_drew)⟩
    rw [← Option.some.inj H.out]
    exact Kd.R_nil _ _ _ _ _
  rw [if_neg (by omega)] at h
  by_cases h3 : 100 < l0.length ∨ 100000 < a1
  · rw [if_pos h3] at h
    exact absurd h (by simp)
  rw [if_neg h3] at h
  have hN : l0.length ≤ 100 := by omega
  obtain ⟨n, rfl⟩ := Int.eq_ofNat_of_zero_le (show 0 ≤ a1 by omega)
  have hn : n ≤ 100000 := by omega
  have hn1 : 1 ≤ n := by omega
  have H := Aside0.mk (Option.some.inj h)
  clear h h3
  go_enter Try.func11, Try.ntmps11
  go_wp2_with fail
  have hb0 : Below w.heap.size w ((w.alloc (Obj.cells #[] 40)).alloc (Obj.cells #[Value.slice (some { block := w.heap.size, off := 0 }) 0 0] 37)) := below_alloc (below_alloc (Below.refl _ _) _) _
  have H0 : StartAt w w.heap.size (w.heap.size + 1) l0 (startL 0 l0 []) l0.length (.int .i64 0) ((w.alloc (Obj.cells #[] 40)).alloc (Obj.cells #[Value.slice (some { block := w.heap.size, off := 0 }) 0 0] 37)) := by
    refine ⟨0, w.heap.size, 0, [], rfl, ⟨by omega, by omega, ?_, ?_⟩, rfl, by omega, by omega, ?_, by simp, hb0⟩
    · have := heap_alloc_new (w.alloc (Obj.cells #[] 40)) (Obj.cells #[Value.slice (some { block := w.heap.size, off := 0 }) 0 0] 37)
      rw [show (w.alloc (Obj.cells #[] 40)).heap.size = w.heap.size + 1 from by simp] at this
      exact this
    · refine ⟨rfl, Or.inr ⟨w.heap.size, 0, #[], rfl, Nat.le_refl _, ?_, Nat.le_refl _, by decide, rfl, rfl⟩⟩
      rw [Below.heap_alloc _ _ _ (by simp)]
      exact heap_alloc_new w _
    · intro x hx
      exact absurd hx (by simp)
  generalize hQ : w.heap.size + 1 = Q at *
  generalize ((w.alloc (Obj.cells #[] 40)).alloc (Obj.cells #[Value.slice (some { block := w.heap.size, off := 0 }) 0 0] 37)) = w1 at *
  clear hb0
  go_loopg [21] l0.length (fun gk v wr => StartAt w w.heap.size Q l0 (startL 0 l0 []) gk v wr)
  case atStart => exact H0
  case round =>
    clear H0
    obtain ⟨i, g, c, l, rfl, hq, hl, hi, hgk, hg, hs, hb⟩ := hrel
    have HQ := Aside0.mk hq
    have HL := Aside0.mk hl
    have HG := Aside0.mk hg
    have HS := Aside0.mk hs
    have HB := Aside0.mk hb
    have HK := Aside0.mk hgk
    clear hq hl hg hs hb hgk
    by_cases hlt : i < l0.length
    · obtain ⟨ad, ead, hx⟩ := Kd.at_int HR0.out (i : Int) (by omega) (by omega)
      cases ead
      simp only [Int.toNat_natCast] at hx
      replace hx := (HB.out.cell (World.block_lt_of_cell? w _ hx)).trans hx
      have hdrop := Aside0.mk (show startL i (l0.drop i) l = startL (i + 1) (l0.drop (i + 1)) (pushL l ⟨bnd (rd l0 i), (i : Int), bnd (rd l0 i)⟩) by
        rw [List.drop_eq_getElem_cons hlt, startL]
        unfold rd
        simp [List.getD_eq_getElem?_getD, List.getElem?_eq_getElem hlt])
      generalize rd l0 (i : Int) = p at *
      have hp := bnd_at p
      have hpe := Aside0.mk (show bnd p = min (max p 1) 1000 from rfl)
      have hmx : mx p 1 = max p 1 := by
        unfold mx
        split <;> omega
      generalize hN' : l0.length = N at *
      have HN := Aside0.mk hN'
      have hi1 : (i : Int) < (N : Int) := by omega
      go_wp2_with fail
      all_goals (
        refine (HPush_calls w.heap.size Q g c l ⟨_, _, _⟩ wr HQ.out (by rw [HL.out]; omega)).mono ?_
        rintro e w2 ⟨rfl, g2, c2, hq2, hf2, hg2⟩
        first
        | rw [show mx p 1 = bnd p by rw [hmx, hpe.out]; omega] at hq2
        | rw [show (1000 : Int) = bnd p by rw [hpe.out]; omega] at hq2
        | rw [show (1 : Int) = bnd p by rw [hpe.out]; omega] at hq2
        | rw [show pushL l ⟨p, (i : Int), p⟩ = pushL l ⟨bnd p, (i : Int), bnd p⟩ by rw [show bnd p = p by rw [hpe.out]; omega]] at hq2
        have HQ2 := Aside0.mk hq2
        have HF2 := Aside0.mk hf2
        have HG2 := Aside0.mk hg2
        clear hq2 hf2 hg2 hpe hmx
        go_wp2
        go_roundg (N - (i + 1))
        case measure => have := HK.out; omega
        case rel =>
          have hgp : 0 ≤ bnd p ∧ bnd p ≤ 1000 ∧ 0 ≤ bnd p ∧ bnd p ≤ 1000 ∧ 0 ≤ (i : Int) ∧ (i : Int) ≤ 1000000 := by omega
          have hB := HB.out
          have hQ2 := HQ2.out
          refine ⟨i + 1, g2, c2, _, by go_num, hQ2, by rw [pushL_length, HL.out], by omega, by rw [HN.out], HG.out.push _ hgp, ?_, hB.trans (HF2.out.below hB.size HQ.out.low HQ.out.row.base)⟩
          rw [← hdrop.out]
          exact HS.out)
    · have hi1 : ¬ (i : Int) < (l0.length : Int) := by omega
      have hil : i = l0.length := by omega
      have hst := HS.out
      rw [List.drop_of_length_le (by omega), startL] at hst
      have H2 : OutAt w w.heap.size Q l0.length n r n (.slice none 0 0) (.int .i64 0) wr := by
        refine ⟨0, g, c, l, [], rfl, Kd.R_nil _ _ _ _ _, rfl, HQ.out, by rw [HL.out, hil], by omega, by omega, ?_, ?_, HB.out⟩
        · have := HG.out
          intro x hx
          have := this x hx
          omega
        · rw [hst]
          exact H.out
      go_wp2_with fail
      clear HQ HL HG HS HB HK
      go_loopg [9, 41] n (fun gk v9 v41 wr => OutAt w w.heap.size Q l0.length n r gk v9 v41 wr)
      case atStart => exact H2
      case round =>
        clear H2 hst
        obtain ⟨k, g, c, l, out, rfl, ho, hlo, hq, hl, hk, hgk, hg, hs, hb⟩ := hrel
        obtain ⟨Ao, co, rfl⟩ := Kd.R_slice ho
        have HO := Aside0.mk ho
        have HLO := Aside0.mk hlo
        have HQ := Aside0.mk hq
        have HL := Aside0.mk hl
        have HG := Aside0.mk hg
        have HS := Aside0.mk hs
        have HB := Aside0.mk hb
        have HK := Aside0.mk hgk
        clear ho hlo hq hl hg hs hb hgk
        by_cases hkn : k < n
        · have hk1 : (k : Int) < (n : Int) := by omega
          go_wp2_with fail
          have hlen : 0 < l.length := by rw [HL.out]; omega
          have HX := Aside0.mk (show n - k = (n - (k + 1)) + 1 by omega)
          refine (next_calls w.heap.size Q g c l (1000 * (k + 1)) wr HQ.out hlen (by rw [HL.out]; exact hN) HG.out (by omega)).mono ?_
          rintro e w2 ⟨rfl, g2, c2, hq2, hf2, hg2⟩
          have HQ2 := Aside0.mk hq2
          have HB2 := Aside0.mk (HB.out.trans (hf2.below HB.out.size HQ.out.low HQ.out.row.base))
          have HO2 : Aside0 (Kd.R (Kd.int .i64) 3 w2 w.heap.size (fun _ => True) (.slice Ao out.length co) out) := ⟨by
            have h1 := Kd.R_types HO.out HQ.out.head (fun q hq => by change q ∈ [3] at hq; simp at hq; omega)
            obtain ⟨cur, hcur⟩ := HQ.out.row.block
            have h2 := Kd.R_types h1 hcur (fun q hq => by change q ∈ [3] at hq; simp at hq; omega)
            exact Kd.R_mono (Kd.R_step h2 (fun k hk hlt => hf2.block k hlt hk.1.2 hk.2)) (fun _ _ => trivial)⟩
          have HL2 := Aside0.mk (show (nextL l).length = l0.length by rw [nextL_length l hlen, HL.out])
          have HG2 := Aside0.mk (HG.out.next hlen)
          have HS2 := Aside0.mk (show (out ++ [(popX l).f1]) ++ ordL (n - (k + 1)) (nextL l) = r by
            have h := HS.out
            rw [HX.out, ordL] at h
            simpa using h)
          generalize (popX l).f1 = y at *
          generalize nextL l = l2 at *
          clear hf2 hg2 hq2 hlen
          go_wp2_with (first
            | ((with_reducible refine gate_builtin (b := .append) (xs := #[.tmp 43, .tmp 46]) rfl ?_); (try (refine gate_guard (by rfl) ?_; dsimp only)); at_builtin; refine Kd.R_append (Kd.int .i64) (w0 := w) w.heap.size rfl (.tmp 43) (.tmp 46) 22 3 (.int .i64 0) 8 rfl Try.underlying22 info3 rfl (by decide) (by omega) (.slice Ao out.length co) out y [.int .i64 y] (fun _ => True) (fun _ => False) rfl rfl ?aP (fun _ hk => hk.elim) ?aF ?aO ?aB ?aS ?aL ?_; (case aP => exact rfl); (case aF => exact (fun _ _ => trivial)); (case aO => exact HO2.out); (case aB => exact HB2.out); (case aS => exact below_size HB2.out); (case aL => have := HLO.out; omega); intro v3 w3 ho hb hg hat; have HO3 := Aside0.mk ho; have HB3 := Aside0.mk hb; have HGR := Aside0.mk hg; clear ho hb hg hat))
          go_roundg (n - (k + 1))
          case measure => have := HK.out; omega
          case rel =>
            have hq := HQ2.out
            have ho := HO2.out
            obtain ⟨cur, hcur⟩ := hq.row.block
            have n1 := Kd.R_ne ho hq.head (by decide)
            have n2 := Kd.R_ne ho hcur (by decide)
            refine ⟨k + 1, g2, c2, l2, out ++ [y], by go_num, HO3.out, by rw [List.length_append, HLO.out]; rfl, ?_, HL2.out, by omega, rfl, ?_, HS2.out, HB3.out⟩
            · exact ⟨hq.ne, hq.low, (HGR.out.block Q (lt_of_block hq.head) n1).trans hq.head, hq.row.kept (HGR.out.block g2 hq.row.lt n2)⟩
            · have := HG2.out
              intro x hx
              have := this x hx
              omega
        · have hk1 : ¬ (k : Int) < (n : Int) := by omega
          go_wp2
          go_ret
          refine ⟨_, rfl, ?_, HB.out⟩
          have hs := HS.out
          rw [show n - k = 0 by omega, ordL, List.append_nil] at hs
          rw [← hs]
          exact HO.out

end Go.Proofs.Ythehejpagkbnmaa.P
