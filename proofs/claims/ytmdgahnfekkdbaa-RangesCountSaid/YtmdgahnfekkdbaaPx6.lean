/- Contracts of the Go functions that this claim's law reaches (plain Lean functions with the same answers), written by a program of this session over the kit's print; Lean checks all of it. -/
import Derived.Test.YtmdgahnfekkdbaaPx0
import Derived.Test.YtmdgahnfekkdbaaPx2
import Derived.Test.YtmdgahnfekkdbaaPx3
import Derived.Test.YtmdgahnfekkdbaaPx4
import Derived.Test.YtmdgahnfekkdbaaPx5
namespace Go.Proofs.Ytmdgahnfekkdbaa.P
open Go.RowKit Go.Proofs.YtmdgahnfekkdbaaW.PrintWords Go.Proofs.YtmdgahnfekkdbaaW.PrintLast Go.Proofs.YtmdgahnfekkdbaaW.PrintMore
attribute [local go_sem] max2_int min2_int max_two min_two max_three min_three max_four min_four   -- for this text's walks alone
set_option linter.unusedVariables false
set_option linter.unusedSimpArgs false

/-! ### dustmanlaw10_awake: function 8 (by hand: the document's examples) -/
def dustmanlaw10_awake.f : Option Bool := some true
theorem pieces_52 : pieces 5 2 = [⟨0, 2⟩, ⟨2, 4⟩, ⟨4, 5⟩] := by rfl
theorem pieces_02 : pieces 0 2 = [⟨0, 0⟩] := by rfl
theorem next_522 : ranges_Next.f 5 2 2 = some (2, 4, true) := next_is 5 2 2 (by omega) (by decide)
theorem count_52 : ranges_Count.f 5 2 = some 3 := by rfl
theorem count_02 : ranges_Count.f 0 2 = some 1 := by rfl
theorem most_502 : ranges_Most.f 3 [5, 0] 2 = some 4 := by
  simp [ranges_Most.f, ranges_Most.l0, rd, count_52, count_02, wrap64]
/-- A row of pieces of the call's own, that isn't empty: where its cells are. -/
theorem R_at {w : World} {base : Nat} {ok : Nat → Prop} {v : Value} {xs : List S24} (h : Kd.R k24 24 w base ok v xs) (hne : 0 < xs.length) :
    ∃ g c, v = .slice (some ⟨g, 0, none⟩) xs.length c ∧ ∀ w1, Below w.heap.size w w1 → ∀ i, i < xs.length → w1.cell? ⟨g, 2 * i, none⟩ = some (.int .i64 (xs.getD i z24).f0) ∧ w1.cell? ⟨g, 2 * i + 1, none⟩ = some (.int .i64 (xs.getD i z24).f1) := by
  obtain ⟨inner, ho⟩ := Kd.R_own h
  rcases ho.2 with ⟨rfl, h0⟩ | ⟨g, cap, cur, rfl, _⟩
  · omega
  · refine ⟨g, cap, rfl, fun w1 hb i hi => ?_⟩
    obtain ⟨A, c, e, _, hC⟩ := Kd.R_reads (Kd.R_below h hb)
    obtain ⟨ad, rfl, x, y⟩ := at_T24 hC i (by omega) (by omega)
    simp only [Value.slice.injEq, Option.some.injEq] at e
    obtain ⟨rfl, _, _⟩ := e
    simp only [Int.toNat_natCast, rd_T24, Addr.add_lit, Nat.zero_add, Nat.mul_comm i 2] at x y
    exact ⟨x, y⟩

theorem C_two (w : World) (a b : Int) : Kd.C (Kd.int .i64) (w.alloc (.cells #[.int .i64 a, .int .i64 b] 3)) (some ⟨w.heap.size, 0, none⟩) ([a, b] : List Int).length [a, b] := by
  refine Kd.C_of_reads (d := (0 : Int)) ?_
  refine ⟨rfl, by simp, fun _ => ⟨_, rfl, fun j hj => ?_⟩⟩
  simp only [List.length_cons, List.length_nil] at hj
  rw [Addr.add_lit, Nat.zero_add, World.cell?_alloc_at _ _ _ _ rfl]
  match j, hj with
  | 0, _ => rfl
  | 1, _ => rfl
set_option maxHeartbeats 1000000 in
set_option maxRecDepth 100000 in
theorem dustmanlaw10_awake.calls (r : Bool) (w : World) (h : dustmanlaw10_awake.f = some r) :
    Calls Try.prog 8 #[] w fun e w' => e = .returned (.bool r) ∧ Below w.heap.size w w' := by
  obtain rfl := Option.some.inj h
  clear h
  go_enter Try.func8, Try.ntmps8
  go_wp2_with fail
  refine (ranges_All.calls 5 2 _ _ (congrArg some pieces_52)).mono ?_
  rintro e w1 ⟨v1, rfl, hR1, hb1⟩
  go_wp2_with fail
  refine (ranges_All.calls 0 2 _ _ (congrArg some pieces_02)).mono ?_
  rintro e w2 ⟨v2, rfl, hR2, hb2⟩
  go_wp2_with fail
  refine (ranges_Next.calls 5 2 2 _ _ _ _ next_522).mono ?_
  rintro e w3 ⟨rfl, hb3⟩
  obtain ⟨g1, c1, rfl, q1⟩ := R_at hR1 (by simp)
  obtain ⟨g2, c2, rfl, q2⟩ := R_at hR2 (by simp)
  have hb23 := hb2.trans (hb3.mono hb2.size)
  have x1 : w3.cell? ⟨g1, 4, none⟩ = some (.int .i64 4) := (q1 w3 hb23 2 (by simp)).1
  have y1 : w3.cell? ⟨g1, 5, none⟩ = some (.int .i64 5) := (q1 w3 hb23 2 (by simp)).2
  have x2 : w3.cell? ⟨g2, 0, none⟩ = some (.int .i64 0) := (q2 w3 hb3 0 (by simp)).1
  have y2 : w3.cell? ⟨g2, 1, none⟩ = some (.int .i64 0) := (q2 w3 hb3 0 (by simp)).2
  have l1 : g1 < w3.heap.size := World.block_lt_of_cell? _ _ x1
  have l2 : g2 < w3.heap.size := World.block_lt_of_cell? _ _ x2
  have hl1 := Aside0.mk (hb1.trans (hb23.mono hb1.size))
  have hs3 : w.heap.size ≤ w3.heap.size := hl1.out.size
  clear hR1 hR2 hb1 hb2 hb3 hb23 q1 q2
  have z1 : (w3.alloc (.cells #[.int .i64 2, .int .i64 4] 24)).cell? ⟨g1, 4, none⟩ = some (.int .i64 4) := (World.cell?_alloc_past _ _ _ l1).trans x1
  have z2 : (w3.alloc (.cells #[.int .i64 2, .int .i64 4] 24)).cell? ⟨g1, 5, none⟩ = some (.int .i64 5) := (World.cell?_alloc_past _ _ _ l1).trans y1
  have z3 : (w3.alloc (.cells #[.int .i64 2, .int .i64 4] 24)).cell? ⟨g2, 0, none⟩ = some (.int .i64 0) := (World.cell?_alloc_past _ _ _ l2).trans x2
  have z4 : (w3.alloc (.cells #[.int .i64 2, .int .i64 4] 24)).cell? ⟨g2, 1, none⟩ = some (.int .i64 0) := (World.cell?_alloc_past _ _ _ l2).trans y2
  clear x1 y1 x2 y2
  go_wp2_with fail
  refine (ranges_Count.calls 5 2 3 _ count_52).mono ?_
  rintro e w4 ⟨rfl, hb4⟩
  have h4 := Aside0.mk ((hl1.out.alloc hs3 _).trans (hb4.mono (by simp; omega)))
  clear hb4 z1 z2 z3 z4
  go_wp2_with fail
  have hr : Kd.C (Kd.int .i64) (w4.alloc (.cells #[.int .i64 5, .int .i64 0] 3)) (some ⟨w4.heap.size, 0, none⟩) ([5, 0] : List Int).length [5, 0] := C_two w4 5 0
  refine (ranges_Most.calls 3 _ 2 [5, 0] 2 4 _ hr (by simp) most_502).mono ?_
  rintro e w5 ⟨rfl, hb5⟩
  have h5 := Aside0.mk ((h4.out.alloc h4.out.size _).trans (hb5.mono (by have := h4.out.size; simp; omega)))
  clear hr hb5
  go_wp2
  go_ret
  exact ⟨rfl, h5.out⟩

end Go.Proofs.Ytmdgahnfekkdbaa.P
