/- Contracts of the Go functions that this claim's law reaches (plain Lean functions with the same answers), written by a program of this session over the kit's print; Lean checks all of it. -/
import Derived.Test.YtmdgahnfekkdbaaPx0
import Derived.Test.YtmdgahnfekkdbaaPx2
namespace Go.Proofs.Ytmdgahnfekkdbaa.P
open Go.RowKit Go.Proofs.YtmdgahnfekkdbaaW.PrintWords Go.Proofs.YtmdgahnfekkdbaaW.PrintLast Go.Proofs.YtmdgahnfekkdbaaW.PrintMore
attribute [local go_sem] max2_int min2_int max_two min_two max_three min_three max_four min_four   -- for this text's walks alone
set_option linter.unusedVariables false
set_option linter.unusedSimpArgs false

/-! ### ranges_Count: function 12 (by hand: a closure is told the pieces, one by one) -/
/-- A number within what may be. -/
def cl (lo n hi : Int) : Int := mn (mx lo n) hi
/-- The pieces of s slots by c, from f on: at most n of them. -/
def pcs (s c : Int) : Nat → Int → List S24
  | 0, _ => []
  | n + 1, f => ⟨f, mn (f + c) s⟩ :: if mn (f + c) s < s then pcs s c n (mn (f + c) s) else []
/-- All pieces of so many slots by a chunk, as they are told. -/
def pieces (a0 a1 : Int) : List S24 := pcs (cl 0 a0 1000) (cl 1 a1 1000) 1001 0
def ranges_Count.f (a0 : Int) (a1 : Int) : Option Int := some (((pieces a0 a1).length : Int))

theorem cl_bd (lo n hi : Int) (h : lo ≤ hi) : lo ≤ cl lo n hi ∧ cl lo n hi ≤ hi := by
  unfold cl mn mx
  split <;> split <;> omega
theorem cl_in (lo n hi : Int) (h0 : lo ≤ n) (h1 : n ≤ hi) : cl lo n hi = n := by
  unfold cl mn mx
  split <;> split <;> omega
theorem pcs_len (s c : Int) : ∀ (n : Nat) (f : Int), (pcs s c n f).length ≤ n
  | 0, _ => by simp [pcs]
  | n + 1, f => by
    rw [pcs, List.length_cons]
    split
    · have := pcs_len s c n (mn (f + c) s); omega
    · simp
theorem next_is (a0 f a1 : Int) (h0 : 0 ≤ f) (h1 : f ≤ cl 0 a0 1000) :
    ranges_Next.f a0 f a1 = some (f, mn (f + cl 1 a1 1000) (cl 0 a0 1000), decide (mn (f + cl 1 a1 1000) (cl 0 a0 1000) < cl 0 a0 1000)) := by
  have b0 := cl_bd 0 a0 1000 (by omega)
  have b1 := cl_bd 1 a1 1000 (by omega)
  have e1 : mn (mx 0 f) (cl 0 a0 1000) = f := cl_in 0 f _ h0 h1
  have e2 : wrap64 (f + cl 1 a1 1000) = f + cl 1 a1 1000 := by unfold wrap64; omega
  have e3 : mn (mx 0 (f + cl 1 a1 1000)) (cl 0 a0 1000) = mn (f + cl 1 a1 1000) (cl 0 a0 1000) := by
    unfold mn mx
    split <;> split <;> omega
  show ((some (cl 0 a0 1000)).bind fun t102 => ((ranges_bound_int.f 0 f t102).bind fun t103 => ((some (cl 1 a1 1000)).bind fun t104 => ((ranges_bound_int.f 0 (wrap64 (t103 + t104)) t102).bind fun t105 => (some (t103, t105, decide (t105 < t102))))))) = _
  simp only [Option.bind_some, ranges_bound_int.f, e1, e2, e3]
/-- What is still to be told. -/
def todo (s c : Int) (n : Nat) (t : Int) (more : Bool) : List S24 := if more = true then pcs s c n t else []
theorem pcs_todo (s c : Int) (n : Nat) (f : Int) : pcs s c (n + 1) f = ⟨f, mn (f + c) s⟩ :: todo s c n (mn (f + c) s) (decide (mn (f + c) s < s)) := by
  rw [pcs]
  unfold todo
  by_cases h : mn (f + c) s < s <;> simp [h]

set_option maxHeartbeats 400000 in
theorem count1_calls (f t m : Int) (B : Nat) (w : World) (hB : w.heap[B]? = some (.cells #[.int .i64 m] 3 (0, 0))) (h0 : 0 ≤ m) (h1 : m ≤ 10000) :
    Calls Try.prog 18 #[.agg #[.int .i64 f, .int .i64 t], .pointer (some ⟨B, 0, none⟩)] w fun e w' => e = .returned (.tuple #[]) ∧
      w'.heap[B]? = some (.cells #[.int .i64 (m + 1)] 3 (0, 0)) ∧ Below B w w' ∧ ∀ k, k < w.heap.size → k ≠ B → w'.heap[k]? = w.heap[k]? := by
  have hlt := lt_of_block hB
  have hB1 : (w.alloc (.cells #[.int .i64 f, .int .i64 t] 24)).heap[B]? = some (.cells #[.int .i64 m] 3 (0, 0)) := (Below.heap_alloc _ _ _ hlt).trans hB
  have hc := cell_of_one hB1
  have hf := free_of_one hB1
  go_enter Try.func18, Try.ntmps18
  go_wp2
  go_end0
  refine ⟨rfl, ?_, ((Below.refl _ _).setCell (by show B ≤ B; omega) _).alloc (by simp; omega) _, fun k hk hne => ?_⟩
  · rw [Below.heap_alloc _ _ _ (by simpa using hlt)]
    exact one_setCell hB
  · rw [Below.heap_alloc _ _ _ (by simpa using hk), Below.heap_setCell _ _ _ _ hne]

/-- What Next tells, for the walk: a piece, and what is still to be told behind it. -/
def Told (s c f t : Int) (n : Nat) (more : Bool) : Prop :=
  pcs s c (n + 1) f = ⟨f, t⟩ :: todo s c n t more ∧ f ≤ t ∧ t ≤ s ∧ (more = true → f < t ∧ t < s)
theorem next_told (a0 f a1 : Int) (n : Nat) (h0 : 0 ≤ f) (h1 : f ≤ cl 0 a0 1000) :
    ∃ t more, ranges_Next.f a0 f a1 = some (f, t, more) ∧ Told (cl 0 a0 1000) (cl 1 a1 1000) f t n more := by
  have b0 := cl_bd 0 a0 1000 (by omega)
  have b1 := cl_bd 1 a1 1000 (by omega)
  refine ⟨_, _, next_is a0 f a1 h0 h1, pcs_todo _ _ _ _, ?_, ?_, ?_⟩
  · unfold mn; split <;> omega
  · unfold mn; split <;> omega
  · intro h
    have h := of_decide_eq_true h
    refine ⟨?_, h⟩
    unfold mn at h ⊢
    split <;> split at h <;> omega
theorem pieces_le (a0 a1 : Int) : (pieces a0 a1).length ≤ 1001 := pcs_len _ _ _ _
/-- Both cells of a block of two are written. -/
theorem two_set {w : World} {P : Nat} {a b : Value} {t : TypeId} (h : w.heap[P]? = some (.cells #[a, b] t (0, 0))) (x y : Value) :
    ((w.setCell ⟨P, 0, none⟩ x).setCell ⟨P, 1, none⟩ y).heap[P]? = some (.cells #[x, y] t (0, 0)) := by
  simp [World.setCell, Array.getElem?_modify, h]
/-- Where a loop that counts stands. -/
def CountAt (w : World) (B P : Nat) (total : Nat) (s c : Int) (g : Nat) (more : Bool) (wr : World) : Prop :=
  ∃ f t m : Int, B < P ∧ wr.heap[P]? = some (.cells #[.int .i64 f, .int .i64 t] 24 (0, 0)) ∧ wr.heap[B]? = some (.cells #[.int .i64 m] 3 (0, 0)) ∧
    0 ≤ m ∧ m + (todo s c g t more).length = total ∧ 0 ≤ t ∧ t ≤ s ∧ (more = true → 1 ≤ t ∧ t < s ∧ s - t ≤ g) ∧ Below B w wr

set_option maxHeartbeats 1000000 in
set_option maxRecDepth 100000 in
theorem each_count (a0 a1 : Int) (B : Nat) (w : World) (hB : w.heap[B]? = some (.cells #[.int .i64 0] 3 (0, 0))) :
    Calls Try.prog 17 #[.int .i64 a0, .int .i64 a1, .func (.func 18) #[] #[.pointer (some ⟨B, 0, none⟩)]] w fun e w' => e = .returned (.tuple #[]) ∧
      w'.heap[B]? = some (.cells #[.int .i64 ((pieces a0 a1).length : Int)] 3 (0, 0)) ∧ Below B w w' := by
  have hlt := lt_of_block hB
  have b0 := cl_bd 0 a0 1000 (by omega)
  have b1 := cl_bd 1 a1 1000 (by omega)
  obtain ⟨t0, m0, n0, T0⟩ := next_told a0 0 a1 1000 (by omega) (by omega)
  have N0 := Aside0.mk n0
  clear n0
  go_enter Try.func17, Try.ntmps17
  go_wp2_with fail
  refine (ranges_Next.calls a0 0 a1 _ _ _ _ N0.out).mono ?_
  rintro e w1 ⟨rfl, hb1⟩
  have hB1 := (hb1.block B hlt).trans hB
  have hl1 := lt_of_block hB1
  go_wp2_with fail
  refine (count1_calls 0 t0 0 B _ ((Below.heap_alloc _ _ _ hl1).trans hB1) (by omega) (by omega)).mono ?_
  rintro e w2 ⟨rfl, hB2, hb2, hk2⟩
  have hP2 : w2.heap[w1.heap.size]? = some (.cells #[.int .i64 0, .int .i64 t0] 24 (0, 0)) := (hk2 _ (by simp) (by omega)).trans (heap_alloc_new _ _)
  have hC : CountAt w B w1.heap.size (pieces a0 a1).length (cl 0 a0 1000) (cl 1 a1 1000) 1000 m0 w2 := by
    obtain ⟨h1, h2, h3, h4⟩ := T0
    refine ⟨0, t0, 0 + 1, hl1, hP2, hB2, by omega, ?_, h2, h3, fun h => ?_, ?_⟩
    · unfold pieces
      rw [h1, List.length_cons]
      omega
    · have := h4 h
      omega
    · exact ((hb1.mono (by omega)).alloc (by omega) _).trans hb2
  clear hB1 hB2 hb1 hb2 hk2 hP2 hB T0 N0
  go_wp2_with fail
  go_loopg [7] 1000 (fun g mv wr => ∃ more : Bool, mv = .bool more ∧ CountAt w B w1.heap.size (pieces a0 a1).length (cl 0 a0 1000) (cl 1 a1 1000) g more wr)
  case atStart => exact ⟨m0, rfl, hC⟩
  case round =>
    clear hC
    obtain ⟨more, rfl, f, t, m, hlt, hP, hBr, hm0, hm, ht0, hts, hmore, hbr⟩ := hrel
    cases more
    · simp only [todo] at hm
      have hP' := cell_of_row wr w1.heap.size 0 _ 24 (0, 0) hP
      go_wp2
      go_end0
      exact ⟨rfl, by rw [hBr, ← hm]; simp, hbr⟩
    · obtain ⟨hmt, hmore, hg⟩ := hmore rfl
      have hg1 : 1 ≤ gk := by omega
      obtain ⟨n, rfl⟩ : ∃ n, gk = n + 1 := ⟨gk - 1, by omega⟩
      obtain ⟨t1, m1, n1, T1⟩ := next_told a0 t a1 n (by omega) (by omega)
      have N1 := Aside0.mk n1
      clear n1
      have hne : (t == 0) = false := by rw [beq_eq_false_iff_ne]; omega
      have c0 : wr.cell? ⟨w1.heap.size, 0, none⟩ = some (.int .i64 f) := by simp [World.cell?, hP]
      have c1 : wr.cell? ⟨w1.heap.size, 1, none⟩ = some (.int .i64 t) := by simp [World.cell?, hP]
      go_wp2_with fail
      refine (ranges_Next.calls a0 t a1 _ _ _ _ N1.out).mono ?_
      rintro e w3 ⟨rfl, hb3⟩
      have hP3 := (hb3.block _ (lt_of_block hP)).trans hP
      have hB3 := (hb3.block _ (lt_of_block hBr)).trans hBr
      have f0 : w3.frozen? ⟨w1.heap.size, 0, none⟩ = false := by simp [World.frozen?, hP3]
      have f1 : w3.frozen? ⟨w1.heap.size, 1, none⟩ = false := by simp [World.frozen?, hP3]
      have d0 : w3.cell? ⟨w1.heap.size, 0, none⟩ = some (.int .i64 f) := by simp [World.cell?, hP3]
      have d1 : w3.cell? ⟨w1.heap.size, 1, none⟩ = some (.int .i64 t) := by simp [World.cell?, hP3]
      go_wp2_with fail
      have hP4 : ((w3.setCell ⟨w1.heap.size, 0, none⟩ (.int .i64 t)).setCell ⟨w1.heap.size, 1, none⟩ (.int .i64 t1)).heap[w1.heap.size]? = some (.cells #[.int .i64 t, .int .i64 t1] 24 (0, 0)) := two_set hP3 _ _
      have hB4 : ((w3.setCell ⟨w1.heap.size, 0, none⟩ (.int .i64 t)).setCell ⟨w1.heap.size, 1, none⟩ (.int .i64 t1)).heap[B]? = some (.cells #[.int .i64 m] 3 (0, 0)) := by
        rw [Below.heap_setCell _ _ _ _ (by show B ≠ w1.heap.size; omega), Below.heap_setCell _ _ _ _ (by show B ≠ w1.heap.size; omega)]
        exact hB3
      have hb4 : Below B w ((w3.setCell ⟨w1.heap.size, 0, none⟩ (.int .i64 t)).setCell ⟨w1.heap.size, 1, none⟩ (.int .i64 t1)) :=
        ((hbr.trans (hb3.mono (by have := lt_of_block hBr; omega))).setCell (by show B ≤ w1.heap.size; omega) _).setCell (by show B ≤ w1.heap.size; omega) _
      have hlen := pieces_le a0 a1
      refine (count1_calls t t1 m B _ hB4 hm0 (by omega)).mono ?_
      rintro e w5 ⟨rfl, hB5, hb5, hk5⟩
      have hP5 := (hk5 _ (lt_of_block hP4) (by omega)).trans hP4
      clear hB4 hP4 hB3 hP3 hP hBr f0 f1 d0 d1 c0 c1
      go_wp2
      go_roundg n
      case measure => omega
      case rel =>
        obtain ⟨h1, h2, h3, h4⟩ := T1
        have hm2 : m + ((pcs (cl 0 a0 1000) (cl 1 a1 1000) (n + 1) t).length : Int) = (pieces a0 a1).length := hm
        rw [h1, List.length_cons] at hm2
        exact ⟨m1, rfl, t, t1, m + 1, hlt, hP5, hB5, by omega, by omega, by omega, h3, fun h => by have := h4 h; omega, hb4.trans hb5⟩

set_option maxHeartbeats 400000 in
theorem ranges_Count.calls (a0 : Int) (a1 : Int) (r : Int) (w : World) (h : ranges_Count.f a0 a1 = some r) :
    Calls Try.prog 12 #[.int .i64 a0, .int .i64 a1] w fun e w' => e = .returned (.int .i64 r) ∧ Below w.heap.size w w' := by
  obtain rfl := Option.some.inj h
  clear h
  have hmf : ∀ (fn : Fn) (first cap : Array Value) (w : World), (Instr.makeFunc fn first cap).run Try.prog w = .ok (.func fn first cap) w := fun _ _ _ _ => rfl
  go_enter Try.func12, Try.ntmps12
  go_wp2_with fail
  refine (each_count a0 a1 w.heap.size _ (heap_alloc_new w _)).mono ?_
  rintro e w1 ⟨rfl, hB, hb⟩
  have hc := cell_of_one hB
  go_wp2
  go_ret
  exact ⟨rfl, ((Below.refl _ _).alloc (Nat.le_refl _) _).trans hb⟩

end Go.Proofs.Ytmdgahnfekkdbaa.P
