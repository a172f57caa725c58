/- Contracts of the Go functions that this claim's law reaches (plain Lean functions with the same answers), written by a program of this session over the kit's print; Lean checks all of it. -/
import Derived.Test.YtlhlhlnfojgfgaaPx0
namespace Go.Proofs.Ytlhlhlnfojgfgaa.P
open Go.RowKit Go.Proofs.YtlhlhlnfojgfgaaW.PrintWords Go.Proofs.YtlhlhlnfojgfgaaW.PrintLast Go.Proofs.YtlhlhlnfojgfgaaW.PrintMore
attribute [local go_sem] max2_int min2_int max_two min_two max_three min_three max_four min_four   -- for this text's walks alone
set_option linter.unusedVariables false
set_option linter.unusedSimpArgs false

/-! ### picks_Decode: function 11 (by hand: what a pick is of two bytes is told by a closure) -/
/-- The pick of two bytes. -/
def one (a x y : Int) : S34 := if wrap64 x ≥ a then ⟨-1, wrap64 y⟩ else ⟨wrap64 x, wrap64 y⟩
/-- The picks of bytes. -/
def dec (a : Int) : List Int → List S34
  | [] => []
  | [_] => [⟨-1, 0⟩]
  | x :: y :: r => one a x y :: dec a r
def picks_Decode.f (l0 : List Int) (a1 : Int) : Option (List S34) := if l0.length ≤ 1000000 then some (dec a1 l0) else none

set_option maxHeartbeats 400000 in
theorem decode1_calls (x y a : Int) (g : Nat) (w : World) (hg : w.heap[g]? = some (.cells #[.int .i64 a] 3 (0, 0))) :
    Calls Try.prog 23 #[.int .u8 x, .int .u8 y, .pointer (some ⟨g, 0, none⟩)] w fun e w' => e = .returned (.agg #[.int .i64 (one a x y).f0, .int .i64 (one a x y).f1]) ∧ Below w.heap.size w w' := by
  have hlt := lt_of_block hg
  have hc : (w.alloc (.cells #[.int .i64 0, .int .i64 0] 34)).cell? ⟨g, 0, none⟩ = some (.int .i64 a) := (World.cell?_alloc_past _ _ _ hlt).trans (cell_of_one hg)
  unfold one
  by_cases h : wrap64 x ≥ a
  · rw [if_pos h]
    go_enter Try.func23, Try.ntmps23
    go_wp2
    refine bodyPost_ret (v := .agg #[.int .i64 (-1), .int .i64 (wrap64 y)]) (by simp [results, Try.results23, go_sem]) rfl ⟨rfl, (Below.refl _ _).alloc (Nat.le_refl _) _⟩
  · rw [if_neg h]
    go_enter Try.func23, Try.ntmps23
    go_wp2
    refine bodyPost_ret (v := .agg #[.int .i64 (wrap64 x), .int .i64 (wrap64 y)]) (by simp [results, Try.results23, go_sem]) rfl ⟨rfl, (Below.refl _ _).alloc (Nat.le_refl _) _⟩

theorem dec_len (a : Int) : ∀ l : List Int, (dec a l).length ≤ l.length
  | [] => by simp [dec]
  | [_] => by simp [dec]
  | x :: y :: r => by
    have := dec_len a r
    simp only [dec, List.length_cons]
    omega
/-- Where the loop stands: what is left of the bytes, what is kept of the picks. -/
def DecAt (w : World) (a1 : Int) (total : List S34) (g : Nat) (sv ov : Value) (wr : World) : Prop :=
  ∃ (A : Option Addr) (c : Nat) (ys : List Int) (xs : List S34), sv = .slice A ys.length c ∧ ys.length ≤ c ∧ Kd.C (Kd.int .u8) w A ys.length ys ∧ Kd.R k34 34 wr w.heap.size (fun k => k ≠ w.heap.size) ov xs ∧
    xs ++ dec a1 ys = total ∧ ys.length ≤ g ∧ xs.length + ys.length ≤ 1000000 ∧ wr.heap[w.heap.size]? = some (.cells #[.int .i64 a1] 3 (0, 0)) ∧ Below w.heap.size w wr

set_option maxHeartbeats 2000000 in
set_option maxRecDepth 100000 in
theorem picks_Decode.calls (A0 : Option Addr) (c0 : Nat) (l0 : List Int) (a1 : Int) (r : List S34) (w : World) (hr0 : Kd.C (Kd.int .u8) w A0 l0.length l0) (hc0 : l0.length ≤ c0) (h : picks_Decode.f l0 a1 = some r) :
    Calls Try.prog 11 #[.slice A0 l0.length c0, .int .i64 a1] w fun e w' => ∃ v0_ : Value, e = .returned (v0_) ∧ Kd.R k34 34 w' w.heap.size (fun _ => True) v0_ r ∧ Below w.heap.size w w' := by
  have hu34 := Try.underlying34
  unfold picks_Decode.f at h
  by_cases hl : l0.length ≤ 1000000
  · rw [if_pos hl] at h
    obtain rfl := Option.some.inj h
    clear h
    have hmf : ∀ (fn : Fn) (first cap : Array Value) (w : World), (Instr.makeFunc fn first cap).run Try.prog w = .ok (.func fn first cap) w := fun _ _ _ _ => rfl
    have H0 : DecAt w a1 (dec a1 l0) l0.length (.slice A0 l0.length c0) (.slice none 0 0) (w.alloc (.cells #[.int .i64 a1] 3)) :=
      ⟨A0, c0, l0, [], rfl, hc0, hr0, Kd.R_nil _ _ _ _ _, by simp, Nat.le_refl _, by simp; omega, heap_alloc_new _ _, (Below.refl _ _).alloc (Nat.le_refl _) _⟩
    clear hr0
    go_enter Try.func11, Try.ntmps11
    go_wp2_with fail
    go_loopg [0, 6] l0.length (fun g sv ov wr => DecAt w a1 (dec a1 l0) g sv ov wr)
    case atStart => exact H0
    case round =>
      clear H0
      obtain ⟨A, c, ys, xs, rfl, hyc, hC, hR, hx, hg, hb, hG, hbw⟩ := hrel
      by_cases h2 : 1 < ys.length
      · obtain ⟨ad, rfl, q0⟩ := Kd.at_int hC 0 (by omega) (by omega)
        obtain ⟨ad', e, q1⟩ := Kd.at_int hC 1 (by omega) (by omega)
        cases e
        simp only [show (0 : Int).toNat = 0 from rfl, show (1 : Int).toNat = 1 from rfl] at q0 q1
        have qo : ad.add 1 = { block := ad.block, off := ad.off + 1 } := by unfold Addr.add; split <;> simp_all
        rw [qo] at q1
        clear qo
        have qz : ad.add 0 = ad := by unfold Addr.add; split <;> simp_all
        rw [qz] at q0
        clear qz
        generalize hy0 : rd ys 0 = y0 at q0
        generalize hy1 : rd ys 1 = y1 at q1
        have Y0 := Aside0.mk hy0
        have Y1 := Aside0.mk hy1
        clear hy0 hy1
        generalize hn : ys.length = n at *
        have HN := Aside0.mk hn
        clear hn
        have HC := Aside0.mk hC
        have HR := Aside0.mk hR
        have HX := Aside0.mk hx
        have HG := Aside0.mk (show wr.drew.heap[w.heap.size]? = some (.cells #[.int .i64 a1] 3 (0, 0)) from hG)
        have HB := Aside0.mk hbw
        have hla : ad.block < w.heap.size := World.block_lt_of_cell? _ _ q0
        have hlg : w.heap.size < wr.heap.size := lt_of_block hG
        have Q0 := Aside0.mk q0
        have Q1 := Aside0.mk q1
        have p0 : wr.cell? ad = some (.int .u8 y0) := (hbw.cell (p := ad) hla).trans q0
        have p1 : wr.cell? { block := ad.block, off := ad.off + 1 } = some (.int .u8 y1) := (hbw.cell (p := ⟨ad.block, ad.off + 1, none⟩) hla).trans q1
        clear hC hR hx hG hbw q0 q1
        have hd : decide ((1 : Int) < (n : Int)) = true := by simp; omega
        have hn0 : (0 : Int) < (n : Int) := by omega
        have hn2 : 0 < n := by omega
        have hn1 : (1 : Int) < (n : Int) := by omega
        go_wp2_with fail
        go_region_held3 (fun w' => w'.cell? ad = some (.int .u8 y0) ∧ w'.cell? { block := ad.block, off := ad.off + 1 } = some (.int .u8 y1))
          (first | go_keep)
          (first
            | (go_at_call 23; refine (decode1_calls y0 y1 a1 w.heap.size _ HG.out).mono ?_; rintro e w1 ⟨rfl, hb1⟩; have e1 := Aside0.mk (HB.out.drew.trans (hb1.mono (Nat.le_of_lt hlg))); have e2 : w.heap.size < w1.heap.size := Nat.lt_of_lt_of_le hlg hb1.size; have e3 := Aside0.mk (Kd.R_below (Kd.R_drew HR.out) hb1); have e4 := Aside0.mk ((hb1.block _ hlg).trans HG.out); have s0 : w1.cell? ad = some (.int .u8 y0) := (e1.out.cell (p := ad) hla).trans Q0.out; have s1 : w1.cell? { block := ad.block, off := ad.off + 1 } = some (.int .u8 y1) := (e1.out.cell (p := ⟨ad.block, ad.off + 1, none⟩) hla).trans Q1.out; clear hb1)
            | (refine Kd.R_append_step k34 (w0 := w) w.heap.size (by rfl) (.tmp 11) (.tmp 20) 23 34 (.agg #[.int .i64 0, .int .i64 0]) 16 (by rfl) Try.underlying23 info34 rfl (by decide) (by decide) u6 xs (one a1 y0 y1) [.int .i64 (one a1 y0 y1).f0, .int .i64 (one a1 y0 y1).f1] (fun k => k ≠ w.heap.size) (fun _ => False) (by rfl) (by rfl) (k34_mkM _ _ _ _) (fun _ h => h.elim) ?aF ?aO ?aB ?aS ?aL ?_; (case aF => intro k hk; omega); (case aO => exact e3.out); (case aB => exact e1.out); (case aS => omega); (case aL => omega); intro v1 w2 HO2 hb2 hg2 _; have s2 : w2.cell? ad = some (.int .u8 y0) := (hb2.cell (p := ad) hla).trans Q0.out; have s3 : w2.cell? { block := ad.block, off := ad.off + 1 } = some (.int .u8 y1) := (hb2.cell (p := ⟨ad.block, ad.off + 1, none⟩) hla).trans Q1.out))
        have hG2 : w2.heap[w.heap.size]? = some (.cells #[.int .i64 a1] 3 (0, 0)) := (hg2.block _ e2 (fun e => (HR.out.1 _ e.symm) rfl)).trans e4.out
        have R2 := Aside0.mk HO2
        have B2 := Aside0.mk hb2
        have G2 := Aside0.mk hG2
        clear HO2 hb2 hG2 hg2 e1 e2 e3 e4 s0 s1 s2 s3 p0 p1 HG HB HR
        obtain ⟨i5, hi5, hz5⟩ := Option.map_eq_some_iff.1 info5
        simp only [Prod.mk.injEq] at hz5
        obtain ⟨A2, hsl, hrd⟩ := print_cut_of (P := Try.prog) (Value.int .u8) 0 22 5 .i64 Try.underlying22 hi5 hz5.2.1 (some ad) n c 2 (by omega)
        have HD := Aside0.mk (Kd.C_of_reads (h1 := fun _ => rfl) (hrd w ys (by omega) (Kd.reads_of_C HC.out)))
        have hsl2 : ∀ W : World, (Instr.slice 22 (.slice (some ad) n c) (some (.int .i64 2)) none none).run Try.prog W = .ok (.slice A2 (n - 2) (c - 2)) W := hsl
        clear hrd hsl hz5 hi5
        go_wp2
        go_roundg (gk - 2)
        case measure => omega
        case rel =>
          obtain ⟨z0, z1, zs, rfl⟩ : ∃ z0 z1 zs, ys = z0 :: z1 :: zs := by
            have := HN.out
            match ys, this with
            | z0 :: z1 :: zs, _ => exact ⟨z0, z1, zs, rfl⟩
            | [_], h => simp at h; omega
            | [], h => simp at h; omega
          have hn := HN.out
          have y0' : z0 = y0 := Y0.out
          have y1' : z1 = y1 := Y1.out
          subst y0' y1'
          simp only [List.length_cons] at hn
          have hzl : zs.length = n - 2 := by omega
          have hx := HX.out
          have HD2 := HD.out
          simp only [List.drop_succ_cons, List.drop_zero] at HD2
          rw [← hzl] at HD2
          refine ⟨A2, c - 2, zs, xs ++ [one a1 z0 z1], by rw [hzl], by omega, HD2, R2.out, ?_, by omega, ?_, G2.out, B2.out⟩
          · rw [← hx, dec]
            simp
          · rw [List.length_append, List.length_singleton]
            omega
      · have HR := Aside0.mk hR
        have HX := Aside0.mk hx
        have HG := Aside0.mk hG
        have HB := Aside0.mk hbw
        have hlg : w.heap.size < wr.heap.size := lt_of_block hG
        clear hC hR hx hG hbw
        by_cases h1 : ys.length = 1
        · obtain ⟨z, rfl⟩ : ∃ z, ys = [z] := by
            match ys, h1 with
            | [z], _ => exact ⟨z, rfl⟩
          clear h1 h2
          simp only [List.length_singleton] at hb
          obtain ⟨Ao, co, rfl⟩ := Kd.R_slice HR.out
          go_wp2_with (at_builtin; refine Kd.R_append k34 (w0 := w) w.heap.size rfl (.tmp 27) (.tmp 29) 23 34 (.agg #[.int .i64 0, .int .i64 0]) 16 rfl Try.underlying23 info34 rfl (by decide) (by decide) (.slice Ao xs.length co) xs ⟨-1, 0⟩ [.int .i64 (-1), .int .i64 0] (fun k => k ≠ w.heap.size) (fun _ => False) rfl rfl (k34_mkM _ _ _ _) (fun _ h => h.elim) ?aF HR.out HB.out ?aS ?aL ?_)
          case aF => intro k hk; omega
          case aS => omega
          case aL => omega
          intro v1 w2 HO2 hb2 _ _
          have R2 := Aside0.mk HO2
          have B2 := Aside0.mk hb2
          clear HO2 hb2
          go_wp2
          go_ret
          refine ⟨_, rfl, Kd.R_mono (ok := fun k => k ≠ w.heap.size) ?_ (fun _ _ => trivial), B2.out⟩
          rw [← HX.out]
          exact R2.out
        · obtain rfl : ys = [] := by
            match ys, h1, h2 with
            | [], _, _ => rfl
            | [_], h1, _ => simp at h1
            | _ :: _ :: _, _, h2 => simp at h2
          clear h1 h2
          go_wp2
          go_ret
          refine ⟨_, rfl, Kd.R_mono (ok := fun k => k ≠ w.heap.size) ?_ (fun _ _ => trivial), HB.out⟩
          have hx := HX.out
          simp only [dec, List.append_nil] at hx
          rw [← hx]
          exact HR.out
  · rw [if_neg hl] at h
    cases h

end Go.Proofs.Ytlhlhlnfojgfgaa.P
