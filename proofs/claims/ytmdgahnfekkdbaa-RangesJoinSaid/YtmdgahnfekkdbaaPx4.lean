/- Contracts of the Go functions that this claim's law reaches (plain Lean functions with the same answers), written by a program of this session over the kit's print; Lean checks all of it. -/
import Derived.Test.YtmdgahnfekkdbaaPx0
import Derived.Test.YtmdgahnfekkdbaaPx2
import Derived.Test.YtmdgahnfekkdbaaPx3
namespace Go.Proofs.Ytmdgahnfekkdbaa.P
open Go.RowKit Go.Proofs.YtmdgahnfekkdbaaW.PrintWords Go.Proofs.YtmdgahnfekkdbaaW.PrintLast Go.Proofs.YtmdgahnfekkdbaaW.PrintMore
attribute [local go_sem] max2_int min2_int max_two min_two max_three min_three max_four min_four   -- for this text's walks alone
set_option linter.unusedVariables false
set_option linter.unusedSimpArgs false

/-! ### ranges_All: function 13 (by hand: a closure keeps the pieces, one by one) -/
def ranges_All.f (a0 : Int) (a1 : Int) : Option (List S24) := some (pieces a0 a1)

set_option maxHeartbeats 1000000 in
theorem all1_calls (f t : Int) (v : Value) (xs : List S24) (B : Nat) (ok : Nat → Prop) (w : World) (hB : w.heap[B]? = some (.cells #[v] 31 (0, 0)))
    (HO : Kd.R k24 24 w B ok v xs) (hf : ∀ k, w.heap.size ≤ k → ok k) (hn : ¬ ok B) (hl : xs.length ≤ 2000) :
    Calls Try.prog 19 #[.agg #[.int .i64 f, .int .i64 t], .pointer (some ⟨B, 0, none⟩)] w fun e w' => e = .returned (.tuple #[]) ∧
      ∃ v1, w'.heap[B]? = some (.cells #[v1] 31 (0, 0)) ∧ Kd.R k24 24 w' B ok v1 (xs ++ [⟨f, t⟩]) ∧ Below B w w' ∧ ∀ k, k < w.heap.size → k ≠ B → ¬ ok k → w'.heap[k]? = w.heap[k]? := by
  have hlt := lt_of_block hB
  have hB1 : (w.alloc (.cells #[.int .i64 f, .int .i64 t] 24)).heap[B]? = some (.cells #[v] 31 (0, 0)) := (Below.heap_alloc _ _ _ hlt).trans hB
  have hB2 : ((w.alloc (.cells #[.int .i64 f, .int .i64 t] 24)).alloc (.cells #[.int .i64 f, .int .i64 t] 24)).heap[B]? = some (.cells #[v] 31 (0, 0)) := (Below.heap_alloc _ _ _ (by simp; omega)).trans hB1
  have hc := cell_of_one hB1
  have HO1 : Kd.R k24 24 (w.alloc (.cells #[.int .i64 f, .int .i64 t] 24)) B ok v xs := Kd.R_below HO (below_alloc (Below.refl _ _) _)
  obtain ⟨A, c, rfl⟩ := Kd.R_slice HO
  have hvB : ¬ (Value.slice A xs.length c).ownBlock = some B := fun e => hn (HO.1 B e)
  have hvo := HO.1
  clear HO
  go_enter Try.func19, Try.ntmps19
  go_wp2_with (at_builtin; refine Kd.R_append k24 (w0 := w.alloc (.cells #[.int .i64 f, .int .i64 t] 24)) B rfl (.tmp 3) (.tmp 5) 31 24 (.agg #[.int .i64 0, .int .i64 0]) 16 rfl Try.underlying31 info24 rfl (by decide) (by decide) (.slice A xs.length c) xs ⟨f, t⟩ [.int .i64 f, .int .i64 t] ok (fun _ => False) rfl (by show Value.slice (some ⟨w.heap.size + 1, 0, none⟩) 1 1 = _; simp) (k24_mkM _ _ _ _) (fun _ h => h.elim) ?aF HO1 (Below.refl _ _) ?aS ?aL ?_)
  case aF => intro k hk; exact hf k (by simp at hk; omega)
  case aS => simp; omega
  case aL => omega
  intro v1 w1 HO2 hb2 hg2 _
  have hB3 : w1.heap[B]? = some (.cells #[.slice A xs.length c] 31 (0, 0)) := (hg2.block B (by simp; omega) (fun e => hvB e.symm)).trans hB1
  have hfr := free_of_one hB3
  have hc3 := cell_of_one hB3
  obtain ⟨A1, n1, c1, hv1⟩ : ∃ A1 n1 c1, v1 = .slice A1 n1 c1 := by
    obtain ⟨A1, c1, e⟩ := Kd.R_slice HO2
    exact ⟨_, _, _, e⟩
  rw [hv1] at HO2 ⊢
  clear hv1
  have HB3 := Aside0.mk hB3
  have H4 := Aside0.mk hB1
  clear hB3 hB1 hB2 hc
  go_wp2
  go_end0
  refine ⟨rfl, _, one_setCell HB3.out, Kd.R_far HO2 (p := ⟨B, 0, none⟩) (fun k hk e => hn ((show k = B from e) ▸ hk)) _, (((Below.refl _ _).alloc (by omega) _).trans hb2).setCell (by show B ≤ B; omega) _, fun k hk hne hok => ?_⟩
  rw [Below.heap_setCell _ _ _ _ hne, hg2.block k (by simp; omega) (fun e => hok (hvo k e.symm)), Below.heap_alloc _ _ _ hk]

/-- Where a loop that keeps pieces stands; P is the piece's own block. -/
def AllAt (w : World) (B P : Nat) (total : List S24) (s c : Int) (g : Nat) (more : Bool) (wr : World) : Prop :=
  ∃ (f t : Int) (v : Value) (xs : List S24), B < P ∧ wr.heap[P]? = some (.cells #[.int .i64 f, .int .i64 t] 24 (0, 0)) ∧ wr.heap[B]? = some (.cells #[v] 31 (0, 0)) ∧
    Kd.R k24 24 wr B (fun k => k ≠ B ∧ k ≠ P) v xs ∧ xs ++ todo s c g t more = total ∧ 0 ≤ t ∧ t ≤ s ∧ (more = true → 1 ≤ t ∧ t < s ∧ s - t ≤ g) ∧ Below B w wr

set_option maxHeartbeats 1000000 in
set_option maxRecDepth 100000 in
theorem each_all (a0 a1 : Int) (B : Nat) (w : World) (hB : w.heap[B]? = some (.cells #[.slice none 0 0] 31 (0, 0))) :
    Calls Try.prog 17 #[.int .i64 a0, .int .i64 a1, .func (.func 19) #[] #[.pointer (some ⟨B, 0, none⟩)]] w fun e w' => e = .returned (.tuple #[]) ∧
      ∃ v, w'.heap[B]? = some (.cells #[v] 31 (0, 0)) ∧ Kd.R k24 24 w' B (fun _ => True) v (pieces a0 a1) ∧ Below B w w' := by
  have hlt := lt_of_block hB
  have b0 := cl_bd 0 a0 1000 (by omega)
  have b1 := cl_bd 1 a1 1000 (by omega)
  obtain ⟨t0, m0, n0, T0⟩ := next_told a0 0 a1 1000 (by omega) (by omega)
  have N0 := Aside0.mk n0
  clear n0
  go_enter Try.func17, Try.ntmps17
  go_wp2_with fail
  refine (ranges_Next.calls a0 0 a1 _ _ _ _ N0.out).mono ?_
  rintro e w1 ⟨rfl, hb1⟩
  have hB1 := (hb1.block B hlt).trans hB
  have hl1 := lt_of_block hB1
  go_wp2_with fail
  refine (all1_calls 0 t0 (.slice none 0 0) [] B (fun k => k ≠ B ∧ k ≠ w1.heap.size) _ ((Below.heap_alloc _ _ _ hl1).trans hB1) (Kd.R_nil _ _ _ _ _) (fun k hk => by simp at hk; omega) (by simp) (by simp)).mono ?_
  rintro e w2 ⟨rfl, v2, hB2, hR2, hb2, hk2⟩
  have hP2 : w2.heap[w1.heap.size]? = some (.cells #[.int .i64 0, .int .i64 t0] 24 (0, 0)) := (hk2 _ (by simp) (by omega) (by simp)).trans (heap_alloc_new _ _)
  have hC : AllAt w B w1.heap.size (pieces a0 a1) (cl 0 a0 1000) (cl 1 a1 1000) 1000 m0 w2 := by
    obtain ⟨h1, h2, h3, h4⟩ := T0
    refine ⟨0, t0, v2, _, hl1, hP2, hB2, hR2, ?_, h2, h3, fun h => ?_, ?_⟩
    · unfold pieces
      rw [h1]
      rfl
    · have := h4 h
      omega
    · exact ((hb1.mono (by omega)).alloc (by omega) _).trans hb2
  clear hB1 hB2 hb1 hb2 hk2 hP2 hB T0 N0 hR2
  go_wp2_with fail
  go_loopg [7] 1000 (fun g mv wr => ∃ more : Bool, mv = .bool more ∧ AllAt w B w1.heap.size (pieces a0 a1) (cl 0 a0 1000) (cl 1 a1 1000) g more wr)
  case atStart => exact ⟨m0, rfl, hC⟩
  case round =>
    clear hC
    obtain ⟨more, rfl, f, t, v, xs, hlt, hP, hBr, hR, hm, ht0, hts, hmore, hbr⟩ := hrel
    have HR := Aside0.mk hR
    have HM := Aside0.mk hm
    clear hR hm
    cases more
    · go_wp2
      go_end0
      refine ⟨rfl, v, hBr, Kd.R_mono (ok := fun k => k ≠ B ∧ k ≠ w1.heap.size) ?_ (fun _ _ => trivial), hbr⟩
      have hm := HM.out
      simp only [todo, Bool.false_eq_true, if_false, List.append_nil] at hm
      rw [← hm]
      exact HR.out
    · obtain ⟨hmt, hmore, hg⟩ := hmore rfl
      have hg1 : 1 ≤ gk := by omega
      obtain ⟨n, rfl⟩ : ∃ n, gk = n + 1 := ⟨gk - 1, by omega⟩
      obtain ⟨t1, m1, n1, T1⟩ := next_told a0 t a1 n (by omega) (by omega)
      have N1 := Aside0.mk n1
      clear n1
      have hne : (t == 0) = false := by rw [beq_eq_false_iff_ne]; omega
      have c0 : wr.cell? ⟨w1.heap.size, 0, none⟩ = some (.int .i64 f) := by simp [World.cell?, hP]
      have c1 : wr.cell? ⟨w1.heap.size, 1, none⟩ = some (.int .i64 t) := by simp [World.cell?, hP]
      go_wp2_with fail
      refine (ranges_Next.calls a0 t a1 _ _ _ _ N1.out).mono ?_
      rintro e w3 ⟨rfl, hb3⟩
      have hP3 := (hb3.block _ (lt_of_block hP)).trans hP
      have hB3 := (hb3.block _ (lt_of_block hBr)).trans hBr
      have f0 : w3.frozen? ⟨w1.heap.size, 0, none⟩ = false := by simp [World.frozen?, hP3]
      have f1 : w3.frozen? ⟨w1.heap.size, 1, none⟩ = false := by simp [World.frozen?, hP3]
      have d0 : w3.cell? ⟨w1.heap.size, 0, none⟩ = some (.int .i64 f) := by simp [World.cell?, hP3]
      have d1 : w3.cell? ⟨w1.heap.size, 1, none⟩ = some (.int .i64 t) := by simp [World.cell?, hP3]
      have R3 := Aside0.mk (Kd.R_below HR.out hb3)
      go_wp2_with fail
      have hP4 : ((w3.setCell ⟨w1.heap.size, 0, none⟩ (.int .i64 t)).setCell ⟨w1.heap.size, 1, none⟩ (.int .i64 t1)).heap[w1.heap.size]? = some (.cells #[.int .i64 t, .int .i64 t1] 24 (0, 0)) := two_set hP3 _ _
      have hB4 : ((w3.setCell ⟨w1.heap.size, 0, none⟩ (.int .i64 t)).setCell ⟨w1.heap.size, 1, none⟩ (.int .i64 t1)).heap[B]? = some (.cells #[v] 31 (0, 0)) := by
        rw [Below.heap_setCell _ _ _ _ (by show B ≠ w1.heap.size; omega), Below.heap_setCell _ _ _ _ (by show B ≠ w1.heap.size; omega)]
        exact hB3
      have R4 : Kd.R k24 24 ((w3.setCell ⟨w1.heap.size, 0, none⟩ (.int .i64 t)).setCell ⟨w1.heap.size, 1, none⟩ (.int .i64 t1)) B (fun k => k ≠ B ∧ k ≠ w1.heap.size) v xs :=
        Kd.R_far (p := ⟨w1.heap.size, 1, none⟩) (Kd.R_far (p := ⟨w1.heap.size, 0, none⟩) R3.out (fun k hk => hk.2) _) (fun k hk => hk.2) _
      have hb4 : Below B w ((w3.setCell ⟨w1.heap.size, 0, none⟩ (.int .i64 t)).setCell ⟨w1.heap.size, 1, none⟩ (.int .i64 t1)) :=
        ((hbr.trans (hb3.mono (by have := lt_of_block hBr; omega))).setCell (by show B ≤ w1.heap.size; omega) _).setCell (by show B ≤ w1.heap.size; omega) _
      have hz4 := lt_of_block hP4
      have hxs : xs.length ≤ 2000 := by
        have h1 := congrArg List.length HM.out
        have h2 := pieces_le a0 a1
        rw [List.length_append] at h1
        omega
      refine (all1_calls t t1 v xs B (fun k => k ≠ B ∧ k ≠ w1.heap.size) _ hB4 R4 (fun k hk => by omega) (by simp) hxs).mono ?_
      rintro e w5 ⟨rfl, v5, hB5, hR5, hb5, hk5⟩
      have hP5 := (hk5 _ hz4 (by omega) (by simp)).trans hP4
      clear hB4 hP4 hB3 hP3 hP hBr f0 f1 d0 d1 c0 c1 R4 hk5 hz4
      have R5 := Aside0.mk hR5
      clear hR5
      go_wp2
      go_roundg n
      case measure => omega
      case rel =>
        obtain ⟨h1, h2, h3, h4⟩ := T1
        have hm2 : xs ++ pcs (cl 0 a0 1000) (cl 1 a1 1000) (n + 1) t = pieces a0 a1 := HM.out
        rw [h1] at hm2
        refine ⟨m1, rfl, t, t1, v5, xs ++ [⟨t, t1⟩], hlt, hP5, hB5, R5.out, ?_, by omega, h3, fun h => by have := h4 h; omega, hb4.trans hb5⟩
        rw [← hm2]
        simp

set_option maxHeartbeats 400000 in
theorem ranges_All.calls (a0 : Int) (a1 : Int) (r : List S24) (w : World) (h : ranges_All.f a0 a1 = some r) :
    Calls Try.prog 13 #[.int .i64 a0, .int .i64 a1] w fun e w' => ∃ v0_ : Value, e = .returned (v0_) ∧ Kd.R k24 24 w' w.heap.size (fun _ => True) v0_ r ∧ Below w.heap.size w w' := by
  obtain rfl := Option.some.inj h
  clear h
  have hmf : ∀ (fn : Fn) (first cap : Array Value) (w : World), (Instr.makeFunc fn first cap).run Try.prog w = .ok (.func fn first cap) w := fun _ _ _ _ => rfl
  go_enter Try.func13, Try.ntmps13
  go_wp2_with fail
  refine (each_all a0 a1 w.heap.size _ (heap_alloc_new w _)).mono ?_
  rintro e w1 ⟨rfl, v, hB, hR, hb⟩
  have hc := cell_of_one hB
  have R := Aside0.mk hR
  clear hR
  go_wp2
  go_ret
  exact ⟨_, rfl, R.out, ((Below.refl _ _).alloc (Nat.le_refl _) _).trans hb⟩

end Go.Proofs.Ytmdgahnfekkdbaa.P
