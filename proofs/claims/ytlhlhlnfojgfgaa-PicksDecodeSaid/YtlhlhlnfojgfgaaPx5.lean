/- Contracts of the Go functions that this claim's law reaches (plain Lean functions with the same answers), written by a program of this session over the kit's print; Lean checks all of it. -/
import Derived.Test.YtlhlhlnfojgfgaaPx0
namespace Go.Proofs.Ytlhlhlnfojgfgaa.P
open Go.RowKit Go.Proofs.YtlhlhlnfojgfgaaW.PrintWords Go.Proofs.YtlhlhlnfojgfgaaW.PrintLast Go.Proofs.YtlhlhlnfojgfgaaW.PrintMore
attribute [local go_sem] max2_int min2_int max_two min_two max_three min_three max_four min_four   -- for this text's walks alone
set_option linter.unusedVariables false
set_option linter.unusedSimpArgs false

/-! ### dustmanref04_Decode: function 12 (by hand) -/
/-- The pick at a place, as the document tells it. -/
def refAt (b : ByteArray) (a : Int) (i : Nat) : S47 :=
  if i + 1 < b.size then (if wrap64 (bt b i) < a then ⟨wrap64 (bt b i), wrap64 (bt b (i + 1))⟩ else ⟨-1, wrap64 (bt b (i + 1))⟩) else ⟨-1, 0⟩
/-- The picks from a place on. -/
def refDec (b : ByteArray) (a : Int) : Nat → Nat → List S47
  | 0, _ => []
  | n + 1, i => if i < b.size then refAt b a i :: refDec b a n (i + 2) else []
def dustmanref04_Decode.f (a0 : ByteArray) (a1 : Int) : Option (List S47) := if a0.size ≤ 1000000 then some (refDec a0 a1 (a0.size + 1) 0) else none

/-- Where the loop stands. -/
def RefAt (w : World) (b : ByteArray) (a : Int) (total : List S47) (g : Nat) (ov iv : Value) (wr : World) : Prop :=
  ∃ (i : Nat) (xs : List S47), iv = .int .i64 (i : Int) ∧ Kd.R k47 47 wr w.heap.size (fun _ => True) ov xs ∧ xs ++ refDec b a g i = total ∧ b.size < g + i ∧ i ≤ b.size + 1 ∧ xs.length ≤ i ∧ Below w.heap.size w wr

set_option maxHeartbeats 2000000 in
set_option maxRecDepth 100000 in
theorem dustmanref04_Decode.calls (a0 : ByteArray) (a1 : Int) (r : List S47) (w : World) (h : dustmanref04_Decode.f a0 a1 = some r) :
    Calls Try.prog 12 #[.string a0, .int .i64 a1] w fun e w' => ∃ v0_ : Value, e = .returned (v0_) ∧ Kd.R k47 47 w' w.heap.size (fun _ => True) v0_ r ∧ Below w.heap.size w w' := by
  have hu47 := Try.underlying47
  unfold dustmanref04_Decode.f at h
  by_cases hl : a0.size ≤ 1000000
  · rw [if_pos hl] at h
    obtain rfl := Option.some.inj h
    clear h
    have H0 : RefAt w a0 a1 (refDec a0 a1 (a0.size + 1) 0) (a0.size + 1) (.slice none 0 0) (.int .i64 0) w :=
      ⟨0, [], rfl, Kd.R_nil _ _ _ _ _, rfl, by omega, by omega, by simp, Below.refl _ _⟩
    go_enter Try.func12, Try.ntmps12
    go_wp2_with fail
    go_loopg [5, 6] (a0.size + 1) (fun g ov iv wr => RefAt w a0 a1 (refDec a0 a1 (a0.size + 1) 0) g ov iv wr)
    case atStart => exact H0
    case round =>
      clear H0
      obtain ⟨i, xs, rfl, hR, hx, hg, hi, hxl, hbw⟩ := hrel
      have HX := Aside0.mk hx
      have hls := hbw.size
      have HB := Aside0.mk hbw
      obtain ⟨Ao, co, rfl⟩ := Kd.R_slice hR
      have HR := Aside0.mk hR
      clear hR hx hbw
      by_cases h0 : i < a0.size
      · obtain ⟨g, rfl⟩ : ∃ g, gk = g + 1 := ⟨gk - 1, by omega⟩
        have next : ∀ (x y : Int) (v1 : Value) (w2 : World), refAt a0 a1 i = ⟨x, y⟩ → Kd.R k47 47 w2 w.heap.size (fun _ => True) v1 (xs ++ [⟨x, y⟩]) → Below w.heap.size w w2 →
            RefAt w a0 a1 (refDec a0 a1 (a0.size + 1) 0) g v1 (.int .i64 ((i : Int) + 2)) w2 := fun x y v1 w2 he h1 h2 => by
          refine ⟨i + 2, _, rfl, h1, ?_, by omega, by omega, ?_, h2⟩
          · have hx := HX.out
            rw [refDec, if_pos h0, he] at hx
            rw [← hx]
            simp
          · rw [List.length_append, List.length_singleton]
            omega
        have NX := Aside0.mk next
        clear next
        by_cases h1 : i + 1 < a0.size
        · have t0 : ((a0[i]'h0).toNat : Int) = bt a0 i := bt_at a0 (i : Int) (by simpa using h0)
          have e1 : ((i : Int) + 1).toNat = i + 1 := by omega
          have t1 : ((a0[i + 1]'h1).toNat : Int) = bt a0 (i + 1) := by
            have := bt_at a0 ((i : Int) + 1) (by omega)
            simpa only [e1] using this
          clear e1
          by_cases h2 : wrap64 (bt a0 i) < a1
          · have h2' : decide (wrap64 ((a0[i]'h0).toNat : Int) < a1) = true := by rw [t0]; simpa using h2
            have he : refAt a0 a1 i = ⟨wrap64 ((a0[i]'h0).toNat : Int), wrap64 ((a0[i + 1]'h1).toNat : Int)⟩ := by unfold refAt; rw [if_pos h1, if_pos h2, t0, t1]
            have HE := Aside0.mk he
            clear t0 t1 h2 he
            go_wp2_with (at_builtin; refine Kd.R_append k47 (w0 := w) w.heap.size rfl (.tmp 37) (.tmp 39) 27 47 (.agg #[.int .i64 0, .int .i64 0]) 16 rfl Try.underlying27 info47 rfl (by decide) (by decide) (.slice Ao xs.length co) xs ⟨wrap64 ((a0[i]'h0).toNat : Int), wrap64 ((a0[i + 1]'h1).toNat : Int)⟩ [.int .i64 (wrap64 ((a0[i]'h0).toNat : Int)), .int .i64 (wrap64 ((a0[i + 1]'h1).toNat : Int))] (fun _ => True) (fun _ => False) rfl (by show Value.slice (some ⟨wr.heap.size + 1, 0, none⟩) 1 1 = _; simp) (k47_mkM _ _ _ _) (fun _ h => h.elim) (fun _ _ => trivial) (Kd.R_alloc HR.out _) (HB.out.alloc hls _) ?aSx ?aLx ?_)
            case aSx => simp; omega
            case aLx => omega
            intro v1 w2 HO2 hb2 _ _
            have F := Aside0.mk (NX.out _ _ _ _ HE.out HO2 hb2)
            clear HO2 hb2
            go_wp2
            go_roundg g
            case measure => omega
            case rel => exact F.out
          · have h2' : decide (wrap64 ((a0[i]'h0).toNat : Int) < a1) = false := by rw [t0]; simpa using h2
            have he : refAt a0 a1 i = ⟨-1, wrap64 ((a0[i + 1]'h1).toNat : Int)⟩ := by unfold refAt; rw [if_pos h1, if_neg h2, t1]
            have HE := Aside0.mk he
            clear t0 t1 h2 he
            go_wp2_with (at_builtin; refine Kd.R_append k47 (w0 := w) w.heap.size rfl (.tmp 37) (.tmp 39) 27 47 (.agg #[.int .i64 0, .int .i64 0]) 16 rfl Try.underlying27 info47 rfl (by decide) (by decide) (.slice Ao xs.length co) xs ⟨-1, wrap64 ((a0[i + 1]'h1).toNat : Int)⟩ [.int .i64 (-1), .int .i64 (wrap64 ((a0[i + 1]'h1).toNat : Int))] (fun _ => True) (fun _ => False) rfl (by show Value.slice (some ⟨wr.heap.size + 1, 0, none⟩) 1 1 = _; simp) (k47_mkM _ _ _ _) (fun _ h => h.elim) (fun _ _ => trivial) (Kd.R_alloc HR.out _) (HB.out.alloc hls _) ?aSx ?aLx ?_)
            case aSx => simp; omega
            case aLx => omega
            intro v1 w2 HO2 hb2 _ _
            have F := Aside0.mk (NX.out _ _ _ _ HE.out HO2 hb2)
            clear HO2 hb2
            go_wp2
            go_roundg g
            case measure => omega
            case rel => exact F.out
        · have he : refAt a0 a1 i = ⟨-1, 0⟩ := by unfold refAt; rw [if_neg h1]
          have HE := Aside0.mk he
          clear he
          go_wp2_with (at_builtin; refine Kd.R_append k47 (w0 := w) w.heap.size rfl (.tmp 37) (.tmp 39) 27 47 (.agg #[.int .i64 0, .int .i64 0]) 16 rfl Try.underlying27 info47 rfl (by decide) (by decide) (.slice Ao xs.length co) xs ⟨-1, 0⟩ [.int .i64 (-1), .int .i64 0] (fun _ => True) (fun _ => False) rfl (by show Value.slice (some ⟨wr.heap.size + 1, 0, none⟩) 1 1 = _; simp) (k47_mkM _ _ _ _) (fun _ h => h.elim) (fun _ _ => trivial) (Kd.R_alloc HR.out _) (HB.out.alloc hls _) ?aSx ?aLx ?_)
          case aSx => simp; omega
          case aLx => omega
          intro v1 w2 HO2 hb2 _ _
          have F := Aside0.mk (NX.out _ _ _ _ HE.out HO2 hb2)
          clear HO2 hb2
          go_wp2
          go_roundg g
          case measure => omega
          case rel => exact F.out
      · go_wp2
        go_ret
        refine ⟨_, rfl, ?_, HB.out⟩
        have hx := HX.out
        have e : refDec a0 a1 gk i = [] := by
          cases gk with
          | zero => rfl
          | succ g => rw [refDec, if_neg h0]
        rw [e, List.append_nil] at hx
        rw [← hx]
        exact HR.out
  · rw [if_neg hl] at h
    cases h

end Go.Proofs.Ytlhlhlnfojgfgaa.P
