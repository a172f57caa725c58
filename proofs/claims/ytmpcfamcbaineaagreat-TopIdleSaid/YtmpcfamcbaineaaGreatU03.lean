/- Part 3 of the proof: contracts of the functions that the law reaches, and the plain law. No condition. -/
import Derived.Test.YtmpcfamcbaineaaGreatU02
namespace Go.Proofs.YtmpcfamcbaineaaGreat.Mo
open Go.RowKit Go.Proofs.YtmpcfamcbaineaaGreat.Mo
set_option linter.unusedVariables false
set_option linter.unusedSimpArgs false
noncomputable def slcB (t e n : Nat) : Bool := match Tryz.prog.underlying t with
  | some (.slice e') => e' == e && (match Tryz.prog.info? e with | some i => i.size == n && (match i.zero with | some z => z.cells.size == n | none => false) && decide (i.bytes ≤ 1000) | none => false)
  | _ => false
theorem slcB_of {t e n : Nat} (h : slcB t e n = true) : ∃ i z, Tryz.prog.underlying t = some (.slice e) ∧ Tryz.prog.info? e = some i ∧ i.zero = some z ∧ i.size = n ∧ i.bytes ≤ 1000 ∧ z.cells.size = n := by
  unfold slcB at h
  split at h
  · rename_i e' hu
    rw [Bool.and_eq_true] at h
    obtain ⟨h1, h2⟩ := h
    have h1 := eq_of_beq h1
    subst h1
    split at h2
    · rename_i i hi
      simp only [Bool.and_eq_true, decide_eq_true_eq, beq_iff_eq] at h2
      obtain ⟨⟨h3, h4⟩, h5⟩ := h2
      split at h4
      · rename_i z hz
        exact ⟨i, z, hu, hi, hz, h3, h5, by simpa using h4⟩
      · cases h4
    · cases h2
  · cases h
theorem addr_add (b o k : Nat) : (⟨b, o, none⟩ : Addr).add k = ⟨b, o + k, none⟩ := by
  unfold Addr.add
  split
  · rename_i h0; subst h0; rfl
  · rfl
theorem run_ix {t e n b off len c : Nat} {k : IntKind} {i : Int} (h : slcB t e n = true) (h0 : 0 ≤ i) (h1 : i < len) (w : World) :
    (Instr.indexAt t (.slice (some ⟨b, off, none⟩) len c) (.int k i)).run Tryz.prog w = .ok (.pointer (some ⟨b, off + i.toNat * n, none⟩)) w := by
  obtain ⟨inf, z, hu, hi, hz, hs, -⟩ := slcB_of h
  have hu' : (underlying t).run Tryz.prog w = .ok (.slice e) w := by unfold underlying; simp [go_sem, hu]
  have h2 : 0 ≤ i ∧ i < len := ⟨h0, h1⟩
  unfold Instr.indexAt sizeOf typeInfo
  simp [go_sem, hu', h2, hi, hs, addr_add]
theorem run_slh {t e n len c : Nat} {a : Addr} {k : IntKind} {i : Int} (h : slcB t e n = true) (h0 : 0 ≤ i) (h1 : i ≤ c) (w : World) :
    (Instr.sliceAt t (.slice (some a) len c) none (some (.int k i)) none).run Tryz.prog w = .ok (.slice (some a) i.toNat c) w := by
  obtain ⟨inf, z, hu, hi, hz, hs, -⟩ := slcB_of h
  have hu' : (underlying t).run Tryz.prog w = .ok (.slice e) w := by unfold underlying; simp [go_sem, hu]
  unfold Instr.sliceAt
  rw [Sem.run_bind, hu', Result.andThen_ok]
  unfold Instr.slice Instr.sliceBounds Instr.sliceBound sizeOf typeInfo
  have ha : a.add 0 = a := rfl
  simp [go_sem, hu', h0, h1, hi, ha]
section
variable {C : Cx} {w0 : World} {D0 : Dom} {l l' : Wds} {H H' H1 H2 H2' : List Bk} {R R' : Asr}
variable {ops : Array Oper} {lo ef : Nat → Bool} {K : (World → Prop) → Env → Prop} {i : Nat} {r : List Nat} {S : World → Prop} {U : List (Nat × Value)} {e : Env} {v : Value} {d : Option Nat} {ty : Nat} {ps : String} {af : Array Edge} {gd : Option (Nat × Bool)} {x y z : Operand}
theorem xix {t et n b off len c : Nat} {k : IntKind} {j : Int} (ho : ops[i]? = some ⟨d, .indexAddr t x y, ty, ps, af, gd⟩) (hef0 : (ef i, wantedE ops ⟨d, .indexAddr t x y, ty, ps, af, gd⟩ e) = (false, true)) (hx : evo e x = some (.slice (some ⟨b, off, none⟩) len c)) (hy : evo e y = some (.int k j)) (ht : slcB t et n = true) (h0 : 0 ≤ j ∧ j < len)
    (h : X Tryz.prog ops lo ef K r S (bif lo i then (i, .pointer (some ⟨b, off + j.toNat * n, none⟩)) :: U else U) (pute d (.pointer (some ⟨b, off + j.toNat * n, none⟩)) e)) : X Tryz.prog ops lo ef K (i :: r) S U e := have ⟨hef, hw⟩ := tri2 hef0;
  x_val ho hef hw (fun w _ => exv (m := Instr.indexAt t (ev e x) (ev e y)) rfl (by rw [ev_of hx, ev_of hy]; exact run_ix ht h0.1 h0.2 w)) h
theorem xsl {t et n len c k : Nat} {a : Addr} {ik : IntKind} {j : Int} (ho : ops[i]? = some ⟨d, .slice t x none (some y) none, ty, ps, af, gd⟩) (hef0 : (ef i, wantedE ops ⟨d, .slice t x none (some y) none, ty, ps, af, gd⟩ e) = (false, true)) (hx : evo e x = some (.slice (some a) len c)) (hy : evo e y = some (.int ik j)) (ht : slcB t et n = true) (h0 : 0 ≤ j ∧ j ≤ c ∧ j.toNat = k)
    (h : X Tryz.prog ops lo ef K r S (bif lo i then (i, .slice (some a) k c) :: U else U) (pute d (.slice (some a) k c) e)) : X Tryz.prog ops lo ef K (i :: r) S U e := by
  have ⟨hef, hw⟩ := tri2 hef0
  obtain ⟨h1, h2, rfl⟩ := h0
  exact x_val ho hef hw (fun w _ => exv (m := Instr.sliceAt t (ev e x) none (some (ev e y)) none) rfl (by rw [ev_of hx, ev_of hy]; exact run_slh ht h1 h2 w)) h
theorem nth_app_l : ∀ {cs ds : List Value} {k : Nat} {v : Value}, nth cs k = some v → nth (cs ++ ds) k = some v
  | [], _, _, _, h => nomatch h
  | _ :: _, _, 0, _, h => h
  | _ :: cs, ds, k + 1, v, h => nth_app_l (cs := cs) (ds := ds) (k := k) h
theorem zc_len {z : Value} {n k m : Nat} (h : z.cells.size = n) (hk : k ≤ m) : k * n + (Builtin.zeroCells z.cells (m - k)).toList.length = m * n := by
  simp only [Array.length_toList, Builtin.zeroCells, Array.size_map, Array.size_range, h]
  rw [← Nat.add_mul, show k + (m - k) = m by omega]
theorem xap0 {a : Array Operand} {t et n b k c : Nat} {cs rest : List Value} (ho : ops[i]? = some ⟨d, .call ⟨.builtin .append, a, #[t, t]⟩, ty, ps, af, none⟩) (hef : ef i = true) (ha : evos e a.toList = some [.slice none 0 0, .slice (some ⟨b, 0, none⟩) k c]) (ht : slcB t et n = true) (hi : In b (cs ++ rest) H) (hk : 0 < k ∧ k ≤ 1000) (hn : cs.length = k * n)
    (hp : ∀ q rs, Pend ops i U (Sy C w0 D0 l (⟨q, et, cs ++ rs⟩ :: H) R) e) (h : ∀ q rs m, k ≤ m ∧ cs.length + rs.length = m * n → X Tryz.prog ops lo ef K r (Sy C w0 D0 l (⟨q, et, cs ++ rs⟩ :: H) R) U (pute d (.slice (some ⟨q, 0, none⟩) k m) e)) : X Tryz.prog ops lo ef K (i :: r) (Sy C w0 D0 l H R) U e :=
  x_eff (K' := fun v w' => ∃ q rs m, v = .slice (some ⟨q, 0, none⟩) k m ∧ (k ≤ m ∧ cs.length + rs.length = m * n) ∧ Sy C w0 D0 l (⟨q, et, cs ++ rs⟩ :: H) R w') ho hef rfl (fun w hS => by
    obtain ⟨inf, z, hu, hin, hz, hs, hb, hzs⟩ := slcB_of ht
    have hc := run_append_nil (P := Tryz.prog) (w := w) t ty et inf z hu hin hz ⟨b, 0, none⟩ k c cs (by rw [hs]; exact hn) (fun j v hj => by
      rw [addr_add, Nat.zero_add]
      exact (hS.cell hi (nth_app_l (by rw [nth_eq]; exact hj))).1) hk.1 (by omega) (by
        have : k * inf.bytes ≤ 1000 * 1000 := Nat.mul_le_mul hk.2 hb
        omega)
    have hr := run_builtin (d := d) (ps := ps) (af := af) (gd := none) (b := .append) (ty := ty) (tys := #[t, t]) ha (v := .slice (some ⟨w.heap.size, 0, none⟩) k (grownCap w k 0 et)) (w := w) (w' := w.drew.alloc (.cells (cs.toArray ++ Builtin.zeroCells z.cells (grownCap w k 0 et - k)) et)) (by
      simp only [builtin, Sem.run_bind]
      rw [hc]
      rfl)
    refine eff_val hr ⟨w.heap.size, (Builtin.zeroCells z.cells (grownCap w k 0 et - k)).toList, _, rfl, ⟨grownCap_ge w k 0 et, by rw [hn]; exact zc_len hzs (grownCap_ge w k 0 et)⟩, ?_⟩
    · have := hS.drew.alloc et (cs ++ (Builtin.zeroCells z.cells (grownCap w k 0 et - k)).toList)
      have e1 : (cs ++ (Builtin.zeroCells z.cells (grownCap w k 0 et - k)).toList).toArray = cs.toArray ++ Builtin.zeroCells z.cells (grownCap w k 0 et - k) := by
        apply Array.ext'
        simp
      rw [e1] at this
      exact this) (fun v w' ⟨q, rs, m, hv, hm, hk⟩ => ⟨_, hk, hp q rs, by rw [hv]; exact h q rs m hm⟩)
theorem run_inv {a : Array Operand} {tys : Array Nat} {t g : Nat} {nm : String} {u : Value} {args : List Value} (hx : evo e x = some (.iface t u)) (ha : evos e a.toList = some args) (hg : fnB g = true) (w : World)
    (hm : (method (Tryz.prog.types.size + Made.depth) t u nm).run Tryz.prog w = .ok (g, u) w) : (execOp (ev e) ⟨d, .call ⟨.invoke x nm, a, tys⟩, ty, ps, af, gd⟩).run Tryz.prog w = .ok (.enter g (u :: args).toArray) w := by
  show Sem.run Tryz.prog (resolve (ev e) ⟨.invoke x nm, a, tys⟩ ty >>= fun d => invoke d.target d.args) w = _
  have h1 : resolve (ev e) ⟨.invoke x nm, a, tys⟩ ty = pure { target := .fn (.method nm) #[], args := (Value.iface t u :: args).toArray } := by
    unfold resolve
    simp only [ev_of hx, evs_arr ha]
    simp
  have h2 : invoke (.fn (.method nm) #[]) (Value.iface t u :: args).toArray = callMethod (.iface t u) nm args.toArray := by
    unfold invoke
    simp
  simp only [h1, Sem.run_bind, Sem.run_pure, Result.andThen_ok, h2, callMethod, run_program, hm, run_callFunc hg]
  simp
theorem xiv {a : Array Operand} {tys : Array Nat} {t g : Nat} {nm : String} {u : Value} {args : List Value} (ho : ops[i]? = some ⟨d, .call ⟨.invoke x nm, a, tys⟩, ty, ps, af, none⟩) (hef : ef i = true) (hx : evo e x = some (.iface t u)) (ha : evos e a.toList = some args) (hg : fnB g = true)
    (hm : ∀ w, (method (Tryz.prog.types.size + Made.depth) t u nm).run Tryz.prog w = .ok (g, u) w) (hc : Cv C g (u :: args) l R v l' R') (hl : Loc R') (hp : Pend ops i U (Sy C w0 D0 l' H R') e)
    (h : X Tryz.prog ops lo ef K r (Sy C w0 D0 l' H R') U (pute d v e)) : X Tryz.prog ops lo ef K (i :: r) (Sy C w0 D0 l H R) U e :=
  x_eff (K' := fun u w' => u = v ∧ Sy C w0 D0 l' H R' w') ho hef rfl (fun w hS => by
    unfold eff
    rw [run_inv hx ha hg w (hm w)]
    exact ((hS.callv hc hl).mono fun e w' ⟨h1, h2⟩ => ⟨v, h1, rfl, h2⟩)) (fun u w' ⟨h1, h2⟩ => ⟨_, h2, hp, by rw [h1]; exact h⟩)
theorem xcnf {f : Operand} {a : Array Operand} {tys : Array Nat} {g : Nat} {first captured args : List Value} {R' : Nat → Asr} (ho : ops[i]? = some ⟨d, .call ⟨.value f, a, tys⟩, ty, ps, af, none⟩) (hef : ef i = true) (hf : evo e f = some (.func (.func g) first.toArray captured.toArray)) (ha : evos e a.toList = some args) (hg : fnB g = true) (hH : H1 ++ H2 = H)
    (hc : Cn C g (first ++ args ++ captured) l (blks H2 emp) l' R') (hl : ∀ q, Loc (R' q)) (hp : ∀ q, Pend ops i U (Sy C w0 D0 l' H1 (R' q)) e)
    (h : ∀ q, X Tryz.prog ops lo ef K r (Sy C w0 D0 l' H1 (R' q)) U (pute d (.pointer (some ⟨q, 0, none⟩)) e)) : X Tryz.prog ops lo ef K (i :: r) (Sy C w0 D0 l H R) U e :=
  x_eff (K' := fun u w' => ∃ q, u = .pointer (some ⟨q, 0, none⟩) ∧ Sy C w0 D0 l' H1 (R' q) w') ho hef rfl (fun w hS => by
    subst hH
    exact eff_call hf ha hg ((hS.drop.fold.calln hc hl).mono fun e w' ⟨q, h1, h2⟩ => ⟨_, h1, q, rfl, h2⟩)) (fun u w' ⟨q, h1, h2⟩ => ⟨_, h2, hp q, by rw [h1]; exact h q⟩)
theorem run_nep {t : Nat} {p : Addr} (ht : undIs t dPtr = true) (w : World) : (binOp .neq t (.pointer (some p)) (.pointer none)).run Tryz.prog w = .ok (.bool true) w := by
  have := run_nil (.inl ⟨ht, rfl, .inl ⟨p, rfl, rfl⟩⟩) w
  simp only [binOp, Sem.run_bind, this, Result.andThen_ok, Sem.run_pure]
  rfl
theorem run_gdn {t : Nat} {p : Addr} {x y : Operand} (w : World) : (eqGuard .neq t x y (.pointer (some p)) (.pointer none)).run Tryz.prog w = .ok () w := by
  unfold eqGuard
  simp [go_sem]
theorem xnpn {t t' : Nat} {p : Addr} (ho : ops[i]? = some ⟨d, .binOp .neq t x y t', ty, ps, af, gd⟩) (hef0 : (ef i, wantedE ops ⟨d, .binOp .neq t x y t', ty, ps, af, gd⟩ e) = (false, true)) (hx : evo e x = some (.pointer (some p))) (hy : evo e y = some (.pointer none)) (ht : undIs t dPtr = true)
    (h : X Tryz.prog ops lo ef K r S (bif lo i then (i, .bool true) :: U else U) (pute d (.bool true) e)) : X Tryz.prog ops lo ef K (i :: r) S U e := have ⟨hef, hw⟩ := tri2 hef0;
  xbo ho hef0 hx hy run_gdn (run_nep ht) h
end
theorem run_fill2 {lay : List (Nat × Nat)} {place : Nat → Option (Nat × Nat)} (hp : ∀ i x, lay[i]? = some x → place i = some x) : ∀ (pv : List (Nat × Value)) (zs : List Value), okParts lay zs.length pv = true → Instr.fill place zs.toArray pv = some (bldv lay zs pv).toArray
  | [], _, _ => rfl
  | (i, v) :: r, zs, h => by
    unfold okParts at h
    rw [Bool.and_eq_true] at h
    obtain ⟨h1, h2⟩ := h
    unfold Instr.fill
    split at h1
    · rename_i off sz he
      rw [hp i _ he]
      simp only [Bool.and_eq_true, beq_iff_eq, decide_eq_true_eq] at h1
      obtain ⟨h3, h4⟩ := h1
      have hn : ¬ ((v.cells.size ≠ sz || decide (off + v.cells.size > zs.toArray.size)) = true) := by
        simp [h3]
        omega
      simp only
      rw [if_neg hn]
      have hf : v.cells.zipIdx.foldl (fun (cs : Array Value) (x : Value × Nat) => cs.setIfInBounds (off + x.2) x.1) zs.toArray = (setcs zs off v.cells.toList).toArray := by
        have := foldl_setcs v.cells.toList zs off 0
        rw [Nat.add_zero] at this
        rw [← this]
        rw [← Array.foldl_toList]
        simp [Array.toList_zipIdx]
      have hf' : (v.cells.zipIdx.foldl (fun cs (x : Value × Nat) => match x with | (c, j) => cs.setIfInBounds (off + j) c) zs.toArray) = (setcs zs off v.cells.toList).toArray := hf
      rw [hf', run_fill2 hp r _ (by rw [setcs_length]; exact h2)]
      have : lay.getD i (0, 0) = (off, sz) := by simp [List.getD, he]
      simp only [bldv, this]
    · cases h1
def rows (n : Nat) : Nat → Nat → List (Nat × Nat)
  | 0, _ => []
  | k + 1, i => (i * n, n) :: rows n k (i + 1)
theorem rows_get {n : Nat} : ∀ {k j i : Nat} {x : Nat × Nat}, (rows n k j)[i]? = some x → x = ((j + i) * n, n)
  | 0, _, _, _, h => by simp [rows] at h
  | k + 1, j, 0, x, h => by simp [rows] at h; simp [← h]
  | k + 1, j, i + 1, x, h => by
    have : (rows n k (j + 1))[i]? = some x := by simpa [rows] using h
    rw [rows_get this, show j + 1 + i = j + (i + 1) by omega]
theorem zer_of {t : Nat} {zs : List Value} (h : zer t = some zs) : ∃ i z, Tryz.prog.info? t = some i ∧ i.zero = some z ∧ z.cells.toList = zs := by
  unfold zer at h
  cases hi : Tryz.prog.info? t with
  | none => rw [hi] at h; cases h
  | some i =>
    rw [hi] at h
    cases hz : i.zero with
    | none => simp [hz] at h
    | some z =>
      simp [hz] at h
      exact ⟨i, z, rfl, hz, h⟩
theorem run_bsl {t et n len : Nat} {zs0 zs : List Value} {pv : List (Nat × Value)} (ht : slcB t et n = true) (hz : zer et = some zs0) (hn : 0 < len * n ∧ len * n ≤ 1000) (hzs : (List.range (len * n)).map (fun k => zs0.toArray[k % zs0.length]!) = zs) (hok : okParts (rows n len 0) zs.length pv = true) (w : World) :
    (Instr.buildSlice t len pv.toArray).run Tryz.prog w = .ok (.slice (some ⟨w.heap.size, 0, none⟩) len len) (w.alloc (.cells (bldv (rows n len 0) zs pv).toArray et)) := by
  obtain ⟨inf, z, hu, hi, hz1, hs, -, -⟩ := slcB_of ht
  obtain ⟨inf', z', hi', hz', hc'⟩ := zer_of hz
  rw [hi] at hi'
  cases hi'
  rw [hz1] at hz'
  cases hz'
  have hu' : (underlying t).run Tryz.prog w = .ok (.slice et) w := by unfold underlying; simp [go_sem, hu]
  have hzc : (zeroValue et).run Tryz.prog w = .ok z w := by unfold zeroValue typeInfo; simp [go_sem, hi, hz1]
  have hsz : (sizeOf et).run Tryz.prog w = .ok n w := by unfold sizeOf typeInfo; simp [go_sem, hi, hs]
  have hb : ¬ len * n > 2 ^ 24 := by omega
  have h0 : ¬ len * n = 0 := by omega

  have hzz : (Array.range (len * n)).map (fun k => z.cells[k % z.cells.size]!) = zs.toArray := by
    rw [← hzs]
    have : z.cells = zs0.toArray := by rw [← hc']
    rw [this]
    apply Array.ext'
    simp [Array.toList_range]
  have hf := run_fill2 (lay := rows n len 0) (place := fun i => some (i * n, n)) (fun i x hx => by rw [rows_get hx, Nat.zero_add]) pv zs hok

  unfold Instr.buildSlice
  simp only [Sem.run_bind, hu', Result.andThen_ok, hsz, hb, h0, if_false, hzc, Sem.run_pure, hzz, hf, newRow]
  rfl
theorem exec_bsl {ρ : Operand → Value} {d : Option Nat} {t len ty : Nat} {parts : Array (Nat × Operand)} {ps : String} {af : Array Edge} {g : Option (Nat × Bool)} : execOp ρ ⟨d, .buildSlice t len parts, ty, ps, af, g⟩ = (Instr.buildSlice t len (parts.map fun (p : Nat × Operand) => (p.1, ρ p.2)) >>= fun v => pure (.value v)) := rfl
section
variable {C : Cx} {w0 : World} {D0 : Dom} {l l' : Wds} {H H' H1 H2 H2' : List Bk} {R R' : Asr}
variable {ops : Array Oper} {lo ef : Nat → Bool} {K : (World → Prop) → Env → Prop} {i : Nat} {r : List Nat} {S : World → Prop} {U : List (Nat × Value)} {e : Env} {v : Value} {d : Option Nat} {ty : Nat} {ps : String} {af : Array Edge} {gd : Option (Nat × Bool)} {x y z : Operand}
theorem xbs {t et n len : Nat} {parts : Array (Nat × Operand)} {zs0 zs : List Value} {pv : List (Nat × Value)} {cs : List Value} (ho : ops[i]? = some ⟨d, .buildSlice t len parts, ty, ps, af, none⟩) (hef : ef i = true) (hp : evop e parts.toList = some pv) (ht : slcB t et n = true) (hz : zer et = some zs0) (hn : 0 < len * n ∧ len * n ≤ 1000) (hzs : (List.range (len * n)).map (fun k => zs0.toArray[k % zs0.length]!) = zs) (hok : okParts (rows n len 0) zs.length pv = true) (hcs : bldv (rows n len 0) zs pv = cs)
    (hpd : ∀ b, Pend ops i U (Sy C w0 D0 l (⟨b, et, cs⟩ :: H) R) e) (h : ∀ b, X Tryz.prog ops lo ef K r (Sy C w0 D0 l (⟨b, et, cs⟩ :: H) R) U (pute d (.slice (some ⟨b, 0, none⟩) len len) e)) : X Tryz.prog ops lo ef K (i :: r) (Sy C w0 D0 l H R) U e := by
  subst hcs
  exact x_eff (K' := fun v w' => ∃ b, v = .slice (some ⟨b, 0, none⟩) len len ∧ Sy C w0 D0 l (⟨b, et, bldv (rows n len 0) zs pv⟩ :: H) R w') ho hef rfl (fun w hS => by
    have h1 : (parts.map fun (p : Nat × Operand) => (p.1, ev e p.2)) = pv.toArray := by
      cases parts with
      | mk l =>
        rw [← evop_of hp]
        simp
    have h2 := run_bsl (w := w) ht hz hn hzs hok
    rw [← h1] at h2
    have h3 : (execOp (ev e) ⟨d, .buildSlice t len parts, ty, ps, af, none⟩).run Tryz.prog w = .ok (.value (.slice (some ⟨w.heap.size, 0, none⟩) len len)) (w.alloc (.cells (bldv (rows n len 0) zs pv).toArray et)) := exv exec_bsl h2
    have h4 : ∃ b : Nat, (Value.slice (some ⟨w.heap.size, 0, none⟩) len len = Value.slice (some ⟨b, 0, none⟩) len len) ∧ Sy C w0 D0 l (⟨b, et, bldv (rows n len 0) zs pv⟩ :: H) R (w.alloc (.cells (bldv (rows n len 0) zs pv).toArray et)) := ⟨w.heap.size, rfl, hS.alloc et _⟩
    unfold eff
    rw [h3]
    exact h4) (fun v w' ⟨b, hb, hk⟩ => ⟨_, hk, hpd b, by rw [hb]; exact h b⟩)
end
section
variable {C : Cx} {w0 : World} {D0 : Dom} {l l' : Wds} {H H' H1 H2 H2' : List Bk} {R R' : Asr}
theorem Sy.pick {w : World} (is : List Nat) (hn : is.Nodup) (h : Sy C w0 D0 l H R w) : Sy C w0 D0 l (pick H is) R w := by
  obtain ⟨D, h1, h2⟩ := h.rep
  obtain ⟨D', h3, h4⟩ := blks_pick is hn h1
  exact ⟨h.amb, h.chg, h.mem, h.loc, D', h3, fun k hk => h2 k (h4 k hk)⟩
variable {ops : Array Oper} {lo ef : Nat → Bool} {K : (World → Prop) → Env → Prop} {i : Nat} {r : List Nat} {S : World → Prop} {U : List (Nat × Value)} {e : Env} {v : Value} {d : Option Nat} {ty : Nat} {ps : String} {af : Array Edge} {gd : Option (Nat × Bool)} {x y z : Operand}
theorem xcng {is : List Nat} {f : Operand} {a : Array Operand} {tys : Array Nat} {g : Nat} {first captured args : List Value} {R' : Nat → Asr} (hn : is.Nodup) (ho : ops[i]? = some ⟨d, .call ⟨.value f, a, tys⟩, ty, ps, af, none⟩) (hef : ef i = true) (hf : evo e f = some (.func (.func g) first.toArray captured.toArray)) (ha : evos e a.toList = some args) (hg : fnB g = true) (hH : H1 ++ H2 = Mo.pick H is)
    (hc : Cn C g (first ++ args ++ captured) l (blks H2 emp) l' R') (hl : ∀ q, Loc (R' q)) (hp : ∀ q, Pend ops i U (Sy C w0 D0 l' H1 (R' q)) e)
    (h : ∀ q, X Tryz.prog ops lo ef K r (Sy C w0 D0 l' H1 (R' q)) U (pute d (.pointer (some ⟨q, 0, none⟩)) e)) : X Tryz.prog ops lo ef K (i :: r) (Sy C w0 D0 l H R) U e :=
  x_eff (K' := fun u w' => ∃ q, u = .pointer (some ⟨q, 0, none⟩) ∧ Sy C w0 D0 l' H1 (R' q) w') ho hef rfl (fun w hS => by
    have hS := hS.pick is hn
    rw [← hH] at hS
    exact eff_call hf ha hg ((hS.drop.fold.calln hc hl).mono fun e w' ⟨q, h1, h2⟩ => ⟨_, h1, q, rfl, h2⟩)) (fun u w' ⟨q, h1, h2⟩ => ⟨_, h2, hp q, by rw [h1]; exact h q⟩)
theorem pendv {j : Nat} {o : Oper} (ho : ops[i]? = some o) (hw : wantedE ops o e = true) (hq : ∀ w, S w → (execOp (ev e) o).run Tryz.prog w = .ok (.value v) w) (h : Pend ops j U S e) : Pend ops j ((i, v) :: U) S e := fun y hy hd => by
  rcases List.mem_cons.1 hy with rfl | hy
  · refine ⟨_, ho, .inl ⟨hw, fun w hS => ?_⟩⟩
    unfold eff
    rw [hq w hS]
    exact ⟨rfl, hS⟩
  · exact h y hy hd
end
section
variable {C : Cx} {w0 : World} {D0 : Dom} {l l' : Wds} {H H' H1 H2 H2' : List Bk} {R R' : Asr}
variable {ops : Array Oper} {i : Nat} {S : World → Prop} {U : List (Nat × Value)} {e : Env} {v : Value} {d : Option Nat} {ty : Nat} {ps : String} {af : Array Edge} {gd : Option (Nat × Bool)} {x y z : Operand} {k' : IntKind}
theorem pend_still {j : Nat} {o : Oper} (ho : ops[i]? = some o) (hw : wantedE ops o e = true) (hq : ∀ w, S w → eff Tryz.prog o (ev e) w fun u w' => u = v ∧ S w') (h : Pend ops j U S e) : Pend ops j ((i, v) :: U) S e := fun y hy hd => by
  rcases List.mem_cons.1 hy with rfl | hy
  · exact ⟨_, ho, .inl ⟨hw, hq⟩⟩
  · exact h y hy hd
theorem pxnc {jj : Nat} {a : Addr} (ho0 : (ops[i]?, wantedE ops ⟨d, .nilCheck x, ty, ps, af, gd⟩ e) = (some ⟨d, .nilCheck x, ty, ps, af, gd⟩, true)) (hx : evo e x = some (.pointer (some a))) (h : Pend ops jj U S e) : Pend ops jj ((i, .pointer (some a)) :: U) S e := have ⟨ho, hw⟩ := tri2 ho0;
  pendv ho hw (fun w _ => by simp only [execOp, ev_of hx]; rfl) h
theorem pxfa {jj : Nat} {s f k b off : Nat} (ho0 : (ops[i]?, wantedE ops ⟨d, .fieldAddr s x f, ty, ps, af, gd⟩ e) = (some ⟨d, .fieldAddr s x f, ty, ps, af, gd⟩, true)) (hx : evo e x = some (.pointer (some ⟨b, off, none⟩))) (hf : fld s f k = true)
    (h : Pend ops jj U S e) : Pend ops jj ((i, .pointer (some ⟨b, off + k, none⟩)) :: U) S e := have ⟨ho, hw⟩ := tri2 ho0;
  pendv ho hw (fun w hS => by
    exact exv (m := Instr.fieldAt s (ev e x) f) rfl (by rw [ev_of hx]; exact run_field hf w)) h
theorem pxld {jj : Nat} {t b off : Nat} {cs : List Value} (ho0 : (ops[i]?, wantedE ops ⟨d, .load t x, ty, ps, af, gd⟩ e) = (some ⟨d, .load t x, ty, ps, af, gd⟩, true)) (hx : evo e x = some (.pointer (some ⟨b, off, none⟩))) (h1 : one t = true) (hi : In b cs H) (hv : nth cs off = some v)
    (h : Pend ops jj U (Sy C w0 D0 l H R) e) : Pend ops jj ((i, v) :: U) (Sy C w0 D0 l H R) e := have ⟨ho, hw⟩ := tri2 ho0;
  pendv ho hw (fun w hS => by
    exact exv (m := Instr.loadAt t (ev e x)) rfl (by rw [ev_of hx]; exact run_loadVar_one h1 (hS.cell hi hv).1)) h
theorem pxcv {jj : Nat} {t t' : Nat} {k k' : IntKind} {a : Int} (ho0 : (ops[i]?, wantedE ops ⟨d, .convert t t' x, ty, ps, af, gd⟩ e) = (some ⟨d, .convert t t' x, ty, ps, af, gd⟩, true)) (hx : evo e x = some (.int k a)) (ht : undIs t' (dInt k') = true) (ht0 : undIs t (fun _ => true) = true)
    (h : Pend ops jj U S e) : Pend ops jj ((i, .int k' (k'.wrap a)) :: U) S e := have ⟨ho, hw⟩ := tri2 ho0;
  pendv ho hw (fun w _ => by
    refine exv (m := convert t t' (ev e x)) rfl ?_
    obtain ⟨d, hd, hu, -⟩ := run_und ht w
    obtain ⟨d0, -, hu0, -⟩ := run_und ht0 w
    rw [ev_of hx]
    unfold convert
    rw [Sem.run_bind, hu0, Result.andThen_ok, Sem.run_bind, hu, Result.andThen_ok]
    cases d <;> first | (simp [dInt] at hd; done) | skip
    rename_i k2
    have : k' = k2 := eq_of_beq hd
    subst this
    cases d0 <;> rfl) h
theorem pxcvc {jj : Nat} {t t' : Nat} {k k' : IntKind} {a c : Int} (ho0 : (ops[i]?, wantedE ops ⟨d, .convert t t' x, ty, ps, af, gd⟩ e) = (some ⟨d, .convert t t' x, ty, ps, af, gd⟩, true)) (hx : evo e x = some (.int k a)) (ht : undIs t' (dInt k') = true) (ht0 : undIs t (fun _ => true) = true) (hc : k'.wrap a = c)
    (h : Pend ops jj U S e) : Pend ops jj ((i, .int k' c) :: U) S e := by
  have ⟨ho, hw⟩ := tri2 ho0
  subst hc
  exact pxcv ho0 hx ht ht0 h
theorem pxex {jj : Nat} {vs : List Value} {j : Nat} (ho0 : (ops[i]?, wantedE ops ⟨d, .extract x j, ty, ps, af, gd⟩ e) = (some ⟨d, .extract x j, ty, ps, af, gd⟩, true)) (hx : evo e x = some (.tuple vs.toArray)) (hv : nth vs j = some v)
    (h : Pend ops jj U S e) : Pend ops jj ((i, v) :: U) S e := have ⟨ho, hw⟩ := tri2 ho0;
  pendv ho hw (fun w _ => by
    refine exv (m := Instr.extract (ev e x) j) rfl ?_
    rw [ev_of hx]
    rw [nth_eq] at hv
    unfold Instr.extract
    simp [hv, go_sem]) h
theorem pxfd {jj : Nat} {t f off t' : Nat} {cs : List Value} (ho0 : (ops[i]?, wantedE ops ⟨d, .field t x f, ty, ps, af, gd⟩ e) = (some ⟨d, .field t x f, ty, ps, af, gd⟩, true)) (hx : evo e x = some (.agg cs.toArray)) (hf : fld t f off = true) (hft : fldT t f t' = true) (h1 : one t' = true) (hv : nth cs off = some v)
    (h : Pend ops jj U S e) : Pend ops jj ((i, v) :: U) S e := have ⟨ho, hw⟩ := tri2 ho0;
  pendv ho hw (fun w _ => exv (m := Instr.field t (ev e x) f) rfl (by rw [ev_of hx]; exact run_fieldv hf hft h1 hv w)) h
theorem pxcq {jj : Nat} {f : Operand} {a : Array Operand} {tys : Array Nat} {g : Nat} {first captured args : List Value} (ho0 : (ops[i]?, wantedE ops ⟨d, .call ⟨.value f, a, tys⟩, ty, ps, af, gd⟩ e) = (some ⟨d, .call ⟨.value f, a, tys⟩, ty, ps, af, gd⟩, true)) (hf : evo e f = some (.func (.func g) first.toArray captured.toArray)) (ha : evos e a.toList = some args) (hg : fnB g = true)
    (hc : Cv C g (first ++ args ++ captured) l R v l R) (hl : Loc R)
    (h : Pend ops jj U (Sy C w0 D0 l H R) e) : Pend ops jj ((i, v) :: U) (Sy C w0 D0 l H R) e := have ⟨ho, hw⟩ := tri2 ho0;
  pend_still ho hw (fun w hS => eff_call hf ha hg ((hS.callv hc hl).mono fun e w' ⟨h1, h2⟩ => ⟨v, h1, rfl, h2⟩)) h
theorem pxmf {jj : Nat} {fn : Fn} {a b : Array Operand} {vs us : List Value} (ho0 : (ops[i]?, wantedE ops ⟨d, .makeFunc fn a b, ty, ps, af, gd⟩ e) = (some ⟨d, .makeFunc fn a b, ty, ps, af, gd⟩, true)) (ha : evos e a.toList = some vs) (hb : evos e b.toList = some us)
    (h : Pend ops jj U S e) : Pend ops jj ((i, .func fn vs.toArray us.toArray) :: U) S e := have ⟨ho, hw⟩ := tri2 ho0;
  pendv ho hw (fun w _ => by
    refine exv (m := Instr.makeFunc fn (a.map (ev e)) (b.map (ev e))) rfl ?_
    rw [evs_arr ha, evs_arr hb]
    rfl) h
theorem pxar {jj : Nat} {op : BinOp} {t t' : Nat} {k : IntKind} {a b : Int} (ho0 : (ops[i]?, wantedE ops ⟨d, .binOp op t x y t', ty, ps, af, gd⟩ e) = (some ⟨d, .binOp op t x y t', ty, ps, af, gd⟩, true)) (hx : evo e x = some (.int k a)) (hy : evo e y = some (.int k b)) (hop : isAri op = true)
    (h : Pend ops jj U S e) : Pend ops jj ((i, .int k (k.wrap (ari op a b))) :: U) S e := have ⟨ho, hw⟩ := tri2 ho0;
  pendv ho hw (fun w _ => by
    refine exv (m := do eqGuard op t x y (ev e x) (ev e y); binOp op t (ev e x) (ev e y)) rfl ?_
    rw [ev_of hx, ev_of hy, Sem.run_bind, run_guard_int]
    exact run_ari hop w) h
theorem pxarc {jj : Nat} {op : BinOp} {t t' : Nat} {k : IntKind} {a b c : Int} (ho0 : (ops[i]?, wantedE ops ⟨d, .binOp op t x y t', ty, ps, af, gd⟩ e) = (some ⟨d, .binOp op t x y t', ty, ps, af, gd⟩, true)) (hx : evo e x = some (.int k a)) (hy : evo e y = some (.int k b)) (hop : isAri op = true) (hc : k.wrap (ari op a b) = c)
    (h : Pend ops jj U S e) : Pend ops jj ((i, .int k c) :: U) S e := by
  have ⟨ho, hw⟩ := tri2 ho0
  subst hc
  exact pxar ho0 hx hy hop h
theorem pxbd {jj : Nat} {t : Nat} {parts : Array (Nat × Operand)} {lay : List (Nat × Nat)} {zs : List Value} {pv : List (Nat × Value)} (ho0 : (ops[i]?, wantedE ops ⟨d, .build t parts, ty, ps, af, gd⟩ e) = (some ⟨d, .build t parts, ty, ps, af, gd⟩, true)) (hp : evop e parts.toList = some pv) (hl : layB t lay = true) (hz : zer t = some zs) (hok : okParts lay zs.length pv = true)
    (h : Pend ops jj U S e) : Pend ops jj ((i, .agg (bldv lay zs pv).toArray) :: U) S e := have ⟨ho, hw⟩ := tri2 ho0;
  pendv ho hw (fun w _ => by
    have h1 : (parts.map fun (p : Nat × Operand) => (p.1, ev e p.2)) = pv.toArray := by
      cases parts with
      | mk l =>
        rw [← evop_of hp]
        simp
    refine exv (m := Instr.build t (parts.map fun (p : Nat × Operand) => (p.1, ev e p.2))) rfl ?_
    rw [h1]
    exact run_build hl hz hok w) h
end
def BQ (id : Nat) (Q : Exit → Act → World → Prop) (r : List Code) : Exit → Act → World → Prop := Exit.inBlock id (Exit.then (wps Q r) Q)
def UQ (c : Code) (Q : Exit → Act → World → Prop) (r : List Code) (k : Nat) : Exit → Act → World → Prop := Exit.then (Code.rounds Tryz.prog c (Exit.then (wps Q r) Q) k) (Exit.then (wps Q r) Q)
def TE (Q : Exit → Act → World → Prop) (n : Nat) (x : Exit) (S : World → Prop) (e : Env) : Prop := ∀ w a, S w → Fits a n e → Q x a w
def subE (e : Env) : Env → Prop
  | [] => True
  | (t, v) :: k => lk? e t = some v ∧ subE e k
theorem subE_lk {e : Env} : ∀ {k : Env} {t : Nat} {v : Value}, subE e k → lk? k t = some v → lk? e t = some v
  | [], _, _, _, h => nomatch h
  | (d, u) :: k, t, v, hs, h => by
    have h' : (bif Nat.beq d t then some u else lk? k t) = some v := h
    cases hb : Nat.beq d t with
    | true =>
      rw [hb] at h'
      have e1 : d = t := Nat.eq_of_beq_eq_true hb
      subst e1
      rw [← h']
      exact hs.1
    | false => rw [hb] at h'; exact subE_lk hs.2 h'
theorem lk_app : ∀ (k g : Env) (t : Nat), lk (k ++ g) t = match lk? k t with | some v => v | none => lk g t
  | [], _, _ => rfl
  | (d, u) :: k, g, t => by
    show lk ((d, u) :: (k ++ g)) t = (match (bif Nat.beq d t then some u else lk? k t) with | some v => v | none => lk g t)
    rw [lk_cons, lk_app k g t]
    cases hb : Nat.beq d t with
    | true => rw [if_pos (Nat.eq_of_beq_eq_true hb)]; rfl
    | false =>
      rw [if_neg (fun h => by subst h; simp at hb)]
      rfl
theorem fits_sub {a : Act} {n : Nat} {e k : Env} (h : Fits a n e) (hs : subE e k) : Fits a n (k ++ e) := by
  refine ⟨h.defers, h.size, fun t => ?_⟩
  rw [h.at_ t, lk_app]
  split
  · rename_i v hv
    exact lk_of (subE_lk hs hv)
  · rfl
def LQ {σ : Type} (n : Nat) (S : σ → World → Prop) (Kn : σ → Env) (μ : σ → Nat) (m : Nat) (Q : Exit → Act → World → Prop) : Exit → Act → World → Prop :=
  Exit.then (fun a w => ∃ x g, μ x < m ∧ S x w ∧ Fits a n (Kn x ++ g)) Q
section
variable {Q : Exit → Act → World → Prop} {n : Nat} {r r' : List Code} {S : World → Prop} {e : Env} {id id' : Nat} {c : Code}
theorem T.block (h : T (BQ id Q r) n [c] S e) : T Q n (.block id c :: r) S e := fun w a hS hF => by
  refine wp_block (wp_mono (h w a hS hF) ?_)
  intro ex a' w' hq
  cases ex <;> exact hq
theorem T.blk_end (h : T Q n r S e) : T (BQ id Q r) n [] S e := h
theorem T.exit (h : TE Q n (.exit id) S e) : T Q n (.exit id :: r) S e := fun w a hS hF => wp_exit (h w a hS hF)
theorem T.rets (h : TE Q n .ret S e) : T Q n (.ret :: r) S e := T.ret h
theorem TE.blk_exit (h : T Q n r S e) : TE (BQ id Q r) n (.exit id) S e := fun w a hS hF => by
  show (if id = id then _ else _)
  rw [if_pos rfl]
  exact h w a hS hF
theorem TE.blk_ret (h : TE Q n .ret S e) : TE (BQ id Q r) n .ret S e := h
theorem T.unroll (k : Nat) (h : T (UQ c Q r k) n [c] S e) : T Q n (.loop c :: r) S e := fun w a hS hF => by
  refine wp_loop_rounds (k + 1) ?_
  refine wp_mono (h w a hS hF) ?_
  intro ex a' w' hq
  cases ex <;> exact hq
theorem T.un_end {k : Nat} (h : T (UQ c Q r k) n [c] S e) : T (UQ c Q r (k + 1)) n [] S e := fun w a hS hF => by
  refine wp_mono (h w a hS hF) ?_
  intro ex a' w' hq
  cases ex <;> exact hq
theorem TE.un_exit {k : Nat} (h : TE Q n (.exit id) S e) : TE (UQ c Q r k) n (.exit id) S e := h
theorem TE.un_ret {k : Nat} (h : TE Q n .ret S e) : TE (UQ c Q r k) n .ret S e := h
section
variable {σ : Type} {S' : σ → World → Prop} {Kn : σ → Env} {μ : σ → Nat} {m : Nat}
theorem TE.lq_exit (h : TE Q n (.exit id) S e) : TE (LQ n S' Kn μ m Q) n (.exit id) S e := h
theorem TE.lq_ret (h : TE Q n .ret S e) : TE (LQ n S' Kn μ m Q) n .ret S e := h
theorem T.loop (S' : σ → World → Prop) (Kn : σ → Env) (μ : σ → Nat) (x0 : σ) (h0 : ∀ w, S w → S' x0 w) (he : subE e (Kn x0)) (h : ∀ x g, T (LQ n S' Kn μ (μ x) Q) n [c] (S' x) (Kn x ++ g)) : T Q n (.loop c :: r) S e := fun w a hS hF => by
  refine wp_loop_ghost (fun k a w => ∃ x g, μ x = k ∧ S' x w ∧ Fits a n (Kn x ++ g)) (μ x0) ⟨x0, e, rfl, h0 w hS, fits_sub hF he⟩ ?_
  rintro k a w ⟨x, g, rfl, h1, h2⟩
  refine wp_mono (h x g w a h1 h2) ?_
  intro ex a' w' hq
  cases ex with
  | normal =>
    obtain ⟨y, g', h3, h4, h5⟩ := hq
    exact ⟨μ y, h3, y, g', rfl, h4, h5⟩
  | exit id => exact hq
  | goto l => exact hq
  | ret => exact hq
  | panic ch => exact hq
  | outgrown => exact hq
theorem T.lq_end (y : σ) (hm : μ y < m) (hS : ∀ w, S w → S' y w) (he : subE e (Kn y)) : T (LQ n S' Kn μ m Q) n [] S e := fun w a hw hF => ⟨y, e, hm, hS w hw, fits_sub hF he⟩
end
end
section
variable {C : Cx} {w0 : World} {D0 : Dom} {l : Wds} {H : List Bk} {R : Asr} {fn : Func} {n : Nat} {e : Env} {Q : Value → Wds → Asr} {a t b off k u v : Nat} {cs : List Value}
theorem TE.ret1 {t : Nat} (hr : fn.results = #[.tmp t]) (hq : ∀ w D, blks H R D w → ∃ D', Q (lk e t) l D' w ∧ ∀ k, D' k → D k) : TE (bodyPost Tryz.prog fn (Fin C w0 D0 Q)) n .ret (Sy C w0 D0 l H R) e :=
  fun w a hS hF => ⟨hF.defers, _, results_tmp hr _ _ _, by rw [hF.at_ t]; exact hS.fin (hq w)⟩
end
noncomputable def arrB (t et len : Nat) : Bool := match Tryz.prog.underlying t with
  | some (.array n e) => n == len && e == et
  | _ => false
theorem run_idx {t et len : Nat} {cs : List Value} {k : IntKind} {j : Int} {v : Value} (ht : arrB t et len = true) (h1 : one et = true) (h0 : 0 ≤ j ∧ j < len) (hv : nth cs j.toNat = some v) (w : World) : (Instr.index t (.agg cs.toArray) (.int k j)).run Tryz.prog w = .ok v w := by
  unfold arrB at ht
  split at ht
  · rename_i n e hu0
    simp only [Bool.and_eq_true, beq_iff_eq] at ht
    obtain ⟨rfl, rfl⟩ := ht
    have hu : (underlying t).run Tryz.prog w = .ok (.array n e) w := by unfold underlying; simp [go_sem, hu0]
    have hp := run_isAgg_one h1 w
    rw [nth_eq] at hv
    have ha : (asIntOf (.int k j)).run Tryz.prog w = .ok (k, j) w := by simp [asIntOf, go_sem]
    unfold Instr.index
    simp only [Sem.run_bind, ha, Result.andThen_ok, hu, h0, and_self, if_true, hp.2, part, hp.1, Nat.mul_one]
    simp [hv, go_sem]
  · cases ht
section
variable {ops : Array Oper} {lo ef : Nat → Bool} {K : (World → Prop) → Env → Prop} {i : Nat} {r : List Nat} {S : World → Prop} {U : List (Nat × Value)} {e : Env} {v : Value} {d : Option Nat} {ty : Nat} {ps : String} {af : Array Edge} {gd : Option (Nat × Bool)} {x y : Operand}
theorem xid {t et len : Nat} {cs : List Value} {k : IntKind} {j : Int} (ho : ops[i]? = some ⟨d, .index t x y, ty, ps, af, gd⟩) (hef0 : (ef i, wantedE ops ⟨d, .index t x y, ty, ps, af, gd⟩ e) = (false, true)) (hx : evo e x = some (.agg cs.toArray)) (hy : evo e y = some (.int k j)) (ht : arrB t et len = true) (h1 : one et = true) (h0 : 0 ≤ j ∧ j < len) (hv : nth cs j.toNat = some v)
    (h : X Tryz.prog ops lo ef K r S (bif lo i then (i, v) :: U else U) (pute d v e)) : X Tryz.prog ops lo ef K (i :: r) S U e := have ⟨hef, hw⟩ := tri2 hef0;
  x_val ho hef hw (fun w _ => exv (m := Instr.index t (ev e x) (ev e y)) rfl (by rw [ev_of hx, ev_of hy]; exact run_idx ht h1 h0 hv w)) h
end
theorem blks_rot {H : List Bk} {x : Bk} {R : Asr} {D : Dom} {w : World} (h : blks (H ++ [x]) R D w) : ∃ D', blks (x :: H) R D' w ∧ ∀ k, D' k → D k := by
  obtain ⟨h1, h2, DR, h3, h4, h5⟩ := blks_all h
  have hm : ∀ y ∈ x :: H, y ∈ H ++ [x] := fun y hy => by
    rcases List.mem_cons.1 hy with rfl | hy
    · simp
    · simp [hy]
  have hp : (x :: H).Pairwise (fun a b => a.b ≠ b.b) := by
    rw [List.pairwise_append] at h1
    exact List.pairwise_cons.2 ⟨fun y hy => fun e => h1.2.2 y hy x (by simp) e.symm, h1.1⟩
  obtain ⟨D', g1, g2⟩ := blks_mk h3 hp (fun y hy => ⟨(h2 y (hm y hy)).1, h4 y (hm y hy)⟩)
  refine ⟨D', g1, fun k hk => ?_⟩
  rcases g2 k hk with h6 | ⟨y, hy, rfl⟩
  · exact h5 k h6
  · exact (h2 y (hm y hy)).2
theorem setcs_app : ∀ (vs cs rest : List Value), vs.length ≤ rest.length → setcs (cs ++ rest) cs.length vs = cs ++ vs ++ rest.drop vs.length
  | [], cs, rest, _ => by simp [setcs]
  | v :: vs, cs, rest, h => by
    cases rest with
    | nil => simp at h
    | cons y rest =>
      show setcs (setc (cs ++ y :: rest) cs.length v) (cs.length + 1) vs = _
      have e : setc (cs ++ y :: rest) cs.length v = (cs ++ [v]) ++ rest := by
        rw [setc_eq]
        simp
      rw [e, show cs.length + 1 = (cs ++ [v]).length by simp, setcs_app vs (cs ++ [v]) rest (by simpa using h)]
      simp
theorem upd_last : ∀ (Hr : List Bk) (b t : Nat) (cs : List Value) (f : List Value → List Value), (∀ x ∈ Hr, True) → Upd (Hr ++ [⟨b, t, cs⟩]) b f (Hr ++ [⟨b, t, f cs⟩])
  | [], _, _, _, _, _ => .z
  | x :: Hr, b, t, cs, f, h => .s (upd_last Hr b t cs f (fun _ _ => trivial))
theorem in_last : ∀ (Hr : List Bk) (b t : Nat) (cs : List Value), In b cs (Hr ++ [⟨b, t, cs⟩])
  | [], _, _, _ => .z
  | x :: Hr, b, t, cs => .s (in_last Hr b t cs)
theorem in_app : ∀ {Hr : List Bk} {b : Nat} {cs : List Value} {H2 : List Bk}, In b cs Hr → In b cs (Hr ++ H2)
  | _, _, _, _, .z => .z
  | _, _, _, _, .s h => .s (in_app h)
section
variable {C : Cx} {w0 : World} {D0 : Dom} {l l' : Wds} {H H' Hr : List Bk} {R R' : Asr}
theorem Sy.rot {w : World} {x : Bk} (h : Sy C w0 D0 l (H ++ [x]) R w) : Sy C w0 D0 l (x :: H) R w := by
  obtain ⟨D, h1, h2⟩ := h.rep
  obtain ⟨D', h3, h4⟩ := blks_rot h1
  exact ⟨h.amb, h.chg, h.mem, h.loc, D', h3, fun k hk => h2 k (h4 k hk)⟩
theorem blks_front {H : List Bk} {x : Bk} {R : Asr} {D : Dom} {w : World} (h : blks (H ++ [x]) R D w) : ∃ D', blks H R D' w ∧ ∀ k, D' k → D k := by
  obtain ⟨D1, h1, h2⟩ := blks_rot h
  obtain ⟨D2, h3, h4⟩ := blks_tail h1
  exact ⟨D2, h3, fun k hk => h2 k (h4 k hk)⟩
theorem Sy.front {w : World} {x : Bk} (h : Sy C w0 D0 l (H ++ [x]) R w) : Sy C w0 D0 l H R w := by
  obtain ⟨D, h1, h2⟩ := h.rep
  obtain ⟨D', h3, h4⟩ := blks_front h1
  exact ⟨h.amb, h.chg, h.mem, h.loc, D', h3, fun k hk => h2 k (h4 k hk)⟩
variable {ops : Array Oper} {lo ef : Nat → Bool} {K : (World → Prop) → Env → Prop} {i : Nat} {r : List Nat} {S : World → Prop} {U : List (Nat × Value)} {e : Env} {v : Value} {d : Option Nat} {ty : Nat} {ps : String} {af : Array Edge}
theorem run_ap {t et n b k c b2 k2 c2 ty : Nat} {cs rest news rest2 : List Value} {w : World} (hS : Sy C w0 D0 l (Hr ++ [⟨b, et, cs ++ rest⟩]) R w) (ht : slcB t et n = true) (hcs : cs.length = k * n) (hc : cs.length + rest.length = c * n) (hi : In b2 (news ++ rest2) Hr) (hn : news.length = k2 * n) (hcell : ∀ v ∈ news, isCell v = true) (hk : 0 < k2 ∧ k + k2 ≤ 1000000 ∧ 0 < n ∧ n ≤ 100 ∧ k ≤ c) :
    ∃ q rs m w', (Builtin.append_ #[t, t] ty #[.slice (some ⟨b, 0, none⟩) k c, .slice (some ⟨b2, 0, none⟩) k2 c2]).run Tryz.prog w = .ok (.slice (some ⟨q, 0, none⟩) (k + k2) m) w' ∧ k + k2 ≤ m ∧ (cs ++ news).length + rs.length = m * n ∧ Sy C w0 D0 l (⟨q, et, cs ++ news ++ rs⟩ :: Hr) R w' := by
  obtain ⟨inf, z, hu, hin, hz, hs, hb, hzs⟩ := slcB_of ht
  have hnews : ∀ (w : World) (hS : Sy C w0 D0 l (Hr ++ [⟨b, et, cs ++ rest⟩]) R w) (j : Nat) (v : Value), news[j]? = some v → w.cell? ((⟨b2, 0, none⟩ : Addr).add j) = some v := fun w hS j v hj => by
    rw [addr_add, Nat.zero_add]
    exact (hS.cell (in_app hi) (nth_app_l (by rw [nth_eq]; exact hj))).1
  by_cases hle : k + k2 ≤ c
  · have hr : news.length ≤ rest.length := by
      have h1 : (k + k2) * n ≤ c * n := Nat.mul_le_mul_right _ hle
      rw [Nat.add_mul] at h1
      omega
    have hf := run_firstCells_some (P := Tryz.prog) w inf.size k2 ⟨b2, 0, none⟩ k2 c2 news (by rw [hs]; exact hn) (hnews w hS)
    rw [hs] at hf
    obtain ⟨w', g1, g2⟩ := Sy.sets news (k * n) hS (upd_last Hr b et (cs ++ rest) (fun cs => setcs cs (k * n) news) (fun _ _ => trivial)) (in_last Hr b et (cs ++ rest)) (by simp only [List.length_append]; omega) hcell
    refine ⟨b, rest.drop news.length, c, w', ?_, hle, ?_, ?_⟩
    · have g3 : (storeCells ((⟨b, 0, none⟩ : Addr).add (k * n)) news).run Tryz.prog w = .ok () w' := by
        rw [addr_add, storeCells_at]
        simpa using g1
      simp [Builtin.append_, run_underlying hu, sizeOf, typeInfo, hin, hz, Builtin.lenOf, hle, hf, hs, g3]
    · simp only [List.length_append, List.length_drop]
      omega
    · have e1 := setcs_app news cs rest hr
      rw [hcs] at e1
      have g4 := g2.rot
      simp only [e1] at g4
      exact g4
  · have hS2 := hS.drew
    have h48 : Builtin.nextslicecap (k + k2) c * inf.bytes ≤ 281474976710656 := by
      have h1 := nextslicecap_le (need := k + k2) (old := c) (by omega)
      have h2 : Builtin.nextslicecap (k + k2) c * inf.bytes ≤ 2 * (k + k2) * 1000 := Nat.mul_le_mul h1 hb
      omega
    have hr := run_append_grow (P := Tryz.prog) (w := w) t ty et inf z hu hin hz ⟨b, 0, none⟩ k c cs (by rw [hs]; exact hcs) (fun j v hj => by
      rw [addr_add, Nat.zero_add]
      exact (hS.cell (in_last Hr b et (cs ++ rest)) (nth_app_l (by rw [nth_eq]; exact hj))).1) ⟨b2, 0, none⟩ k2 c2 news (by rw [hs]; exact hn) (hnews w hS) (by omega) (by omega) h48
    have hge := grownCap_ge w (k + k2) c et
    refine ⟨w.heap.size, (Builtin.zeroCells z.cells (grownCap w (k + k2) c et - (k + k2))).toList, _, _, hr, hge, ?_, ?_⟩
    · have := zc_len (n := n) hzs hge
      simp only [List.length_append]
      rw [Nat.add_mul] at this
      omega
    · have := (hS2.front).alloc et (cs ++ news ++ (Builtin.zeroCells z.cells (grownCap w (k + k2) c et - (k + k2))).toList)
      have e1 : (cs ++ news ++ (Builtin.zeroCells z.cells (grownCap w (k + k2) c et - (k + k2))).toList).toArray = cs.toArray ++ news.toArray ++ Builtin.zeroCells z.cells (grownCap w (k + k2) c et - (k + k2)) := by
        apply Array.ext'
        simp
      rw [e1] at this
      exact this
end
section
variable {C : Cx} {w0 : World} {D0 : Dom} {l l' : Wds} {H H' Hr : List Bk} {R R' : Asr}
variable {ops : Array Oper} {lo ef : Nat → Bool} {K : (World → Prop) → Env → Prop} {i : Nat} {r : List Nat} {S : World → Prop} {U : List (Nat × Value)} {e : Env} {v : Value} {d : Option Nat} {ty : Nat} {ps : String} {af : Array Edge}
theorem xapg {a : Array Operand} {t et n b k c b2 k2 c2 kn : Nat} {cs rest news rest2 cn : List Value} (ho : ops[i]? = some ⟨d, .call ⟨.builtin .append, a, #[t, t]⟩, ty, ps, af, none⟩) (hef : ef i = true) (ha : evos e a.toList = some [.slice (some ⟨b, 0, none⟩) k c, .slice (some ⟨b2, 0, none⟩) k2 c2]) (ht : slcB t et n = true) (hH : Hr ++ [⟨b, et, cs ++ rest⟩] = H)
    (hcs : cs.length = k * n) (hc : cs.length + rest.length = c * n) (hi : In b2 (news ++ rest2) Hr) (hn : news.length = k2 * n) (hcell : ∀ v ∈ news, isCell v = true) (hk : 0 < k2 ∧ k + k2 ≤ 1000000 ∧ 0 < n ∧ n ≤ 100 ∧ k ≤ c)
    (hcn : cs ++ news = cn) (hkn : k + k2 = kn) (hp : ∀ q rs, Pend ops i U (Sy C w0 D0 l (⟨q, et, cn ++ rs⟩ :: Hr) R) e) (h : ∀ q rs m, kn ≤ m ∧ cn.length + rs.length = m * n → X Tryz.prog ops lo ef K r (Sy C w0 D0 l (⟨q, et, cn ++ rs⟩ :: Hr) R) U (pute d (.slice (some ⟨q, 0, none⟩) kn m) e)) : X Tryz.prog ops lo ef K (i :: r) (Sy C w0 D0 l H R) U e := by
  subst hcn hkn
  exact x_eff (K' := fun v w' => ∃ q rs m, v = .slice (some ⟨q, 0, none⟩) (k + k2) m ∧ (k + k2 ≤ m ∧ (cs ++ news).length + rs.length = m * n) ∧ Sy C w0 D0 l (⟨q, et, cs ++ news ++ rs⟩ :: Hr) R w') ho hef rfl (fun w hS => by
    subst hH
    obtain ⟨q, rs, m, w', h1, h2, h3, h4⟩ := run_ap (ty := ty) hS ht hcs hc hi hn hcell hk
    have hr := run_builtin (d := d) (ps := ps) (af := af) (gd := none) (b := .append) (ty := ty) (tys := #[t, t]) ha (v := .slice (some ⟨q, 0, none⟩) (k + k2) m) (w := w) (w' := w') (by
      simp only [builtin, Sem.run_bind]
      rw [h1]
      rfl)
    exact eff_val hr ⟨q, rs, m, rfl, ⟨h2, h3⟩, h4⟩) (fun v w' ⟨q, rs, m, hv, hm, hk⟩ => ⟨_, hk, hp q rs, by rw [hv]; exact h q rs m hm⟩)
end
section
variable {C : Cx} {w0 : World} {D0 : Dom} {l l' : Wds} {H H' H2 : List Bk} {R R' : Asr}
variable {ops : Array Oper} {lo ef : Nat → Bool} {K : (World → Prop) → Env → Prop} {i : Nat} {rr : List Nat} {S : World → Prop} {U : List (Nat × Value)} {e : Env} {v : Value} {d : Option Nat} {ty : Nat} {ps : String} {af : Array Edge}
theorem xcfp {is : List Nat} {f : Operand} {a : Array Operand} {tys : Array Nat} {g : Nat} {first captured args : List Value} (hn : is.Nodup) (ho : ops[i]? = some ⟨d, .call ⟨.value f, a, tys⟩, ty, ps, af, none⟩) (hef : ef i = true) (hf : evo e f = some (.func (.func g) first.toArray captured.toArray)) (ha : evos e a.toList = some args) (hg : fnB g = true) (hH : H2 = Mo.pick H is)
    (hc : Cv C g (first ++ args ++ captured) l (blks H2 R) v l' R') (hl : Loc R') (hp : Pend ops i U (Sy C w0 D0 l' [] R') e)
    (h : X Tryz.prog ops lo ef K rr (Sy C w0 D0 l' [] R') U (pute d v e)) : X Tryz.prog ops lo ef K (i :: rr) (Sy C w0 D0 l H R) U e :=
  x_eff (K' := fun u w' => u = v ∧ Sy C w0 D0 l' [] R' w') ho hef rfl (fun w hS => by
    have hS := hS.pick is hn
    rw [← hH] at hS
    have hS' : Sy C w0 D0 l ([] ++ H2) R w := hS
    exact eff_call hf ha hg ((hS'.fold.callv hc hl).mono fun e w' ⟨h1, h2⟩ => ⟨v, h1, rfl, h2⟩)) (fun u w' ⟨h1, h2⟩ => ⟨_, h2, hp, by rw [h1]; exact h⟩)
end
theorem f109_1 : fld 109 1 9 = true := by kernel_rfl
theorem f185_2 : fld 185 2 2 = true := by kernel_rfl
theorem f185_3 : fld 185 3 3 = true := by kernel_rfl
theorem m24 : many 24 12 = true := by kernel_rfl
theorem o3 : one 3 = true := by kernel_rfl
theorem u2_dInti64 : undIs 2 (dInt .i64) = true := by kernel_rfl
theorem u3_dInti64 : undIs 3 (dInt .i64) = true := by kernel_rfl
theorem u3_fun_true : undIs 3 (fun _ => true) = true := by kernel_rfl
theorem u39_dPtr : undIs 39 (dPtr) = true := by kernel_rfl
theorem u90_dIntu64 : undIs 90 (dInt .u64) = true := by kernel_rfl
theorem u90_fun_true : undIs 90 (fun _ => true) = true := by kernel_rfl
theorem z24 : zer 24 = some [.int .i64 0, .int .i64 0, .int .i64 0, .int .i64 0, .int .i64 0, .int .i64 0, .int .i64 0, .int .i64 0, .int .i64 0, .int .i64 0, .int .i64 0, .int .i64 0] := by kernel_rfl
set_option maxHeartbeats 1000000 in
theorem ct_Ahead0 {C : Cx} {l : Wds} {a b : Int} : Cv C 210 [.int .u64 a, .int .u64 b] l emp (.int .i64 (dist a b)) l emp := by
 refine Ct.of Tryz.func210 rfl Tryz.ntmps210 (by simp) loc_emp ?_
 intro w0 D0
 refine T.seq <| tx [0] nf Z Z <| xas Z Z Z <| X.nil <| T.seq <| T.seq <| tx [0,1,2,3,4] nf Z Z <| xmv Z Z Z <| x_val (v := .agg #[.int .u64 a, .int .u64 0]) Z Z Z (fun w _ => by kernel_rfl) <| xmv Z Z Z ?_
 refine x_val (v := .agg #[.int .u64 b, .int .u64 0]) Z Z Z (fun w _ => by kernel_rfl) <| xbo Z Z Z Z (fun w => by kernel_rfl) (fun w => run_eq256 _ _ w) <| X.nil <| T.cond Z ?_ ?_
 ·intro hb0
  refine T.seq <| tx [0] nf Z Z <| xas Z Z Z <| X.nil <| T.ret1 Z (fun W D h => ?_)
  refine ⟨D, ⟨?_, rfl, h⟩, fun _ hk => hk⟩
  have : a = b := by simpa using hb0
  subst this
  show Value.int .i64 0 = _
  rw [show dist a a = 0 by unfold dist w64; simp]
 ·intro hb0
  refine T.skip <| T.seq <| tx [0,1,2,3,4] nf Z Z <| xmv Z Z Z <| xmv Z Z Z <| xarc Z Z Z Z Z (wrap64u _) <| xcv Z Z Z u2_dInti64 u90_fun_true <| xas Z Z Z <| X.nil <| T.ret1 Z (fun W D h => ?_)
  refine ⟨D, ⟨?_, rfl, h⟩, fun _ hk => hk⟩
  show Value.int .i64 (IntKind.i64.wrap (IntKind.u64.wrap (a - b))) = _
  rw [IntKind.wrap_i64, IntKind.wrap_u64]
  congr 1
  unfold dist w64
  split <;> omega
set_option maxHeartbeats 1000000 in
theorem ct_entry0 {C : Cx} {l : Wds} {e : DqE} {a : Int} (h1 : 0 ≤ e.entry ∧ e.entry ≤ 200000) (h2 : 0 ≤ e.room ∧ e.room ≤ 100) (ha : 0 ≤ a ∧ a ≤ 18446744073709551615) : Cv C 230 [.agg #[.int .i64 e.top, .int .i64 e.bottom, .int .i64 e.entry, .int .i64 e.room], .int .u64 a] l emp (.int .i64 (e.at_ a)) l emp := by
 refine Ct.of Tryz.func230 rfl Tryz.ntmps230 (by simp) loc_emp ?_
 intro w0 D0
 refine T.seq <| tx [0,1] (ct [0]) Z Z <| xbx Z Z Z Z (fun _ => pend0) (fun b0 => ?_)
 refine xas Z Z Z <| X.nil <| T.seq <| T.any (ord := [0, 1, 2, 3, 4, 5, 6, 7, 8, 9, 10]) (lo := (fun _ => false)) (ef := (fun _ => false)) (by kernel_rfl) (fun _ h => h.drew) <| xfa Z Z Z f185_2 <| xld Z Z Z o3 .z Z <| xmv Z Z Z <| xfa Z Z Z f185_3 ?_
 refine xld Z Z Z o3 .z Z <| xmax Z Z Z <| xcv Z Z Z u90_dIntu64 u3_fun_true <| xbo (v := .int .u64 (a % (IntKind.u64.wrap (max e.room 1)))) Z Z Z Z (fun w => run_guard_int w) (fun w => run_rem ha.1 (by rw [IntKind.wrap_u64]; omega) w) ?_
 refine xcv Z Z Z u3_dInti64 u90_fun_true <| xar Z Z Z Z Z <| xas Z Z Z <| X.nil <| T.ret1 Z (fun W D h => ?_)
 obtain ⟨D2, h3, h4⟩ := blks_drop (H := []) (R := emp) (D := fun _ => False) (w := W) (fun _ h => h)
 refine ⟨fun _ => False, ⟨?_, rfl, fun _ h => h⟩, fun _ hk => hk.elim⟩
 show Value.int .i64 (IntKind.i64.wrap (e.entry + IntKind.i64.wrap (a % (IntKind.u64.wrap (max e.room 1))))) = _
 have hm : IntKind.u64.wrap (max e.room 1) = max e.room 1 := by rw [IntKind.wrap_u64]; omega
 rw [hm]
 have hb : 0 ≤ a % max e.room 1 ∧ a % max e.room 1 < max e.room 1 := ⟨Int.emod_nonneg _ (by omega), Int.emod_lt_of_pos _ (by omega)⟩
 unfold DqE.at_
 generalize a % max e.room 1 = k at *
 rw [IntWalk.i64_in k (by omega), IntWalk.i64_in _ (by omega)]
def MapM.cfg (M : MapM) : List Value := [.int .i64 M.k0, .int .i64 M.k1, .int .i64 M.k2, .int .i64 M.k3, .int .i64 M.k4, .int .i64 M.markers, .int .i64 M.mutators, .int .i64 M.deque, .int .i64 M.chunk, .int .i64 M.buffer, .int .i64 M.roots, .int .i64 M.sweep]
set_option maxHeartbeats 1000000 in
theorem ct_Config {C : Cx} {l : Wds} : Cv C 115 [ptr C.m] l emp (.agg C.M.cfg.toArray) l emp := by
 refine Ct.of Tryz.func115 rfl Tryz.ntmps115 (by simp) loc_emp ?_
 intro w0 D0
 refine T.seq <| tx [0] (ct [0]) Z Z <| xal Z Z z24 (fun _ => pend0) (fun b0 => ?_)
 refine X.nil <| T.seq <| T.seq <| tx [0,1] nf Z Z <| xmv Z Z Z <| xnp Z Z Z Z u39_dPtr <| X.nil <| T.no Z <| T.skip <| T.seq <| tx [0,1,2,3,4] (ct [4]) Z Z <| xmv Z Z Z <| xnc Z Z Z <| xfa Z Z Z f109_1 <| xldam Z Z Z m24 Z Z ?_
 refine xsta Z Z Z Z m24 Z Z .z (Nat.le_of_ble_eq_true Z) .z pend0 <| X.nil <| T.retc Z Z m24 .z Z (fun W D h => ?_)
 obtain ⟨D', h1, h2⟩ := blks_tail h
 exact ⟨D', ⟨rfl, rfl, h1⟩, h2⟩
def Dq.cs (m : Dq) (nv : Value) : List Value := [.int .i64 m.e.top, .int .i64 m.e.bottom, .int .i64 m.e.entry, .int .i64 m.e.room, nv, .int .u64 m.b, .int .u64 m.t, .int .u64 m.w, .int .i64 m.out, .bool m.won]
abbrev dqF (d id : Nat) (nv : Value) (RN : Asr) : Prop := ∃ b1 b2, nv = .func (.func 167) #[] #[ptr b1, ptr b2] ∧ RN = blks [⟨b1, 204, [.func (.func id) #[] #[]]⟩, ⟨b2, 179, [ptr d]⟩] emp
def DqNx (d : Nat) (m : Dq) (nv : Value) (RN : Asr) : Prop := match m.next with
 | .nil => nv = .nilFunc ∧ RN = emp
 | .pushFirst => dqF d 258 nv RN
 | .popFirst => dqF d 135 nv RN
 | .stealFirst => dqF d 217 nv RN
 | .pushTop => nv = fm 262 d ∧ RN = emp
 | .pushEntry => nv = fm 263 d ∧ RN = emp
 | .pushEnd => nv = fm 264 d ∧ RN = emp
 | .popDown => nv = fm 168 d ∧ RN = emp
 | .popTop => nv = fm 185 d ∧ RN = emp
 | .popEntry => nv = fm 209 d ∧ RN = emp
 | .popSwap => nv = fm 231 d ∧ RN = emp
 | .popBack => nv = fm 211 d ∧ RN = emp
 | .stealBottom => nv = fm 236 d ∧ RN = emp
 | .stealEntry => nv = fm 248 d ∧ RN = emp
 | .stealSwap => nv = fm 257 d ∧ RN = emp
theorem loc_DqNx {d : Nat} {m : Dq} (nv : Value) (RN : Asr) (h : DqNx d m nv RN) : Loc RN := by
 unfold DqNx at h
 split at h <;> first
  | (obtain ⟨-, rfl⟩ := h; exact loc_emp)
  | (obtain ⟨b1, b2, -, rfl⟩ := h; exact loc_blks loc_emp _)
def DqR (d : Nat) (m : Dq) : Asr := Mch 220 d m.cs (DqNx d m)
theorem loc_DqR {d : Nat} {m : Dq} : Loc (DqR d m) := loc_Mch loc_DqNx
def u64R (x : Int) : Prop := 0 ≤ x ∧ x ≤ 18446744073709551615
structure Dq.Ok (m : Dq) : Prop where
 entry : 0 ≤ m.e.entry ∧ m.e.entry ≤ 200000
 room : 0 ≤ m.e.room ∧ m.e.room ≤ 100
 b : u64R m.b
 t : u64R m.t
 w : u64R m.w
def DqRun (C : Cx) (d : Nat) (m : Dq) (l : Wds) (m' : Dq) (l' : Wds) : Prop := ∀ nv RN, DqNx d m nv RN → ∃ fid fs cs, nv = .func (.func fid) (List.toArray fs) (List.toArray cs) ∧ fnB fid = true ∧ Cv C fid (fs ++ [ptr C.s] ++ cs) l (blks [⟨d, 220, m.cs nv⟩] RN) (.tuple #[]) l' (DqR d m')
theorem f185_0 : fld 185 0 0 = true := by kernel_rfl
theorem f185_1 : fld 185 1 1 = true := by kernel_rfl
theorem f220_0 : fld 220 0 0 = true := by kernel_rfl
theorem f220_1 : fld 220 1 4 = true := by kernel_rfl
theorem f220_2 : fld 220 2 5 = true := by kernel_rfl
theorem f220_3 : fld 220 3 6 = true := by kernel_rfl
theorem f220_4 : fld 220 4 7 = true := by kernel_rfl
theorem f220_5 : fld 220 5 8 = true := by kernel_rfl
theorem f220_6 : fld 220 6 9 = true := by kernel_rfl
theorem f24_3 : fld 24 3 7 = true := by kernel_rfl
theorem g115 : fnB 115 = true := by kernel_rfl
theorem g134 : fnB 134 = true := by kernel_rfl
theorem g135 : fnB 135 = true := by kernel_rfl
theorem g136 : fnB 136 = true := by kernel_rfl
theorem g137 : fnB 137 = true := by kernel_rfl
theorem g148 : fnB 148 = true := by kernel_rfl
theorem g167 : fnB 167 = true := by kernel_rfl
theorem g168 : fnB 168 = true := by kernel_rfl
theorem g175 : fnB 175 = true := by kernel_rfl
theorem g185 : fnB 185 = true := by kernel_rfl
theorem g209 : fnB 209 = true := by kernel_rfl
theorem g210 : fnB 210 = true := by kernel_rfl
theorem g211 : fnB 211 = true := by kernel_rfl
theorem g217 : fnB 217 = true := by kernel_rfl
theorem g230 : fnB 230 = true := by kernel_rfl
theorem g231 : fnB 231 = true := by kernel_rfl
theorem g232 : fnB 232 = true := by kernel_rfl
theorem g236 : fnB 236 = true := by kernel_rfl
theorem g248 : fnB 248 = true := by kernel_rfl
theorem g257 : fnB 257 = true := by kernel_rfl
theorem g258 : fnB 258 = true := by kernel_rfl
theorem g262 : fnB 262 = true := by kernel_rfl
theorem g263 : fnB 263 = true := by kernel_rfl
theorem g264 : fnB 264 = true := by kernel_rfl
theorem g32 : fnB 32 = true := by kernel_rfl
theorem g57 : fnB 57 = true := by kernel_rfl
theorem l185 : layB 185 [(0, 1), (1, 1), (2, 1), (3, 1)] = true := by kernel_rfl
theorem l220 : layB 220 [(0, 4), (4, 1), (5, 1), (6, 1), (7, 1), (8, 1), (9, 1)] = true := by kernel_rfl
theorem m185 : many 185 4 = true := by kernel_rfl
theorem o130 : one 130 = true := by kernel_rfl
theorem o179 : one 179 = true := by kernel_rfl
theorem o204 : one 204 = true := by kernel_rfl
theorem o4 : one 4 = true := by kernel_rfl
theorem o90 : one 90 = true := by kernel_rfl
theorem t24_3 : fldT 24 3 3 = true := by kernel_rfl
theorem u130_dFun : undIs 130 (dFun) = true := by kernel_rfl
theorem u179_dPtr : undIs 179 (dPtr) = true := by kernel_rfl
theorem z179 : zer 179 = some [.pointer none] := by kernel_rfl
theorem z185 : zer 185 = some [.int .i64 0, .int .i64 0, .int .i64 0, .int .i64 0] := by kernel_rfl
theorem z220 : zer 220 = some [.int .i64 0, .int .i64 0, .int .i64 0, .int .i64 0, .nilFunc, .int .u64 0, .int .u64 0, .int .u64 0, .int .i64 0, .bool false] := by kernel_rfl
set_option maxHeartbeats 1000000 in
theorem ct_dqend {C : Cx} {l : Wds} {d : Nat} {Hx : List Bk} {R : Asr} (hl : Loc R) {a0 a1 a2 a3 nx b t w ou wo : Value} {o : Int} : Cv C 232 [ptr d, .int .i64 o] l (blks (⟨d, 220, [a0, a1, a2, a3, nx, b, t, w, ou, wo]⟩ :: Hx) R) (.tuple #[]) l (blks (⟨d, 220, [a0, a1, a2, a3, .nilFunc, b, t, w, .int .i64 o, wo]⟩ :: Hx) R) := by
 refine Ct.of Tryz.func232 rfl Tryz.ntmps232 (by simp) (loc_blks hl _) ?_
 intro w0 D0
 refine T.conv (fun w h => Sy.opens (H2 := _ :: Hx) h hl) <| tx [0,1,2,3,4,5,6,7,8] (ct [5,8]) Z Z <| xmv Z Z Z <| xmv Z Z Z <| xmv Z Z Z <| xnc Z Z Z <| xfa Z Z Z f220_5 <| xst Z Z Z Z o3 Z .z Z .z pend0 <| xnc Z Z Z <| xfa Z Z Z f220_1 ?_
 refine xst Z Z Z Z o130 Z .z Z .z pend0 <| X.nil <| T.end0 Z (fun W D h => ?_)
 exact ⟨D, ⟨rfl, rfl, h⟩, fun _ hk => hk⟩
set_option maxHeartbeats 1000000 in
theorem ct_pushBottom {C : Cx} {l : Wds} {d : Nat} {Hx : List Bk} {R : Asr} (hl : Loc R) {nx ou wo : Value} {i1 i2 i3 i4 x1 x2 x3 : Int} : Cv C 258 [ptr d, ptr C.s] l (blks (⟨d, 220, [.int .i64 i1, .int .i64 i2, .int .i64 i3, .int .i64 i4, nx, .int .u64 x1, .int .u64 x2, .int .u64 x3, ou, wo]⟩ :: Hx) R) (.tuple #[]) l (blks (⟨d, 220, [.int .i64 i1, .int .i64 i2, .int .i64 i3, .int .i64 i4, fm 262 d, .int .u64 (ld l i2), .int .u64 x2, .int .u64 x3, ou, wo]⟩ :: Hx) R) := by
 refine Ct.of Tryz.func258 rfl Tryz.ntmps258 (by simp) (loc_blks hl _) ?_
 intro w0 D0
 refine T.conv (fun w h => Sy.opens (H2 := _ :: Hx) h hl) <| T.seq <| tx [0,1,2,3,4,5,6,7,8,9,10] (ct [10]) Z Z <| xmv Z Z Z <| xmv Z Z Z <| xmv Z Z Z <| xnc Z Z Z <| xfa Z Z Z f220_0 <| xfa Z Z Z f185_1 <| xld Z Z Z o3 .z Z ?_
 refine xcq Z Z Z Z g32 (ct_Load hl) hl <| xnc Z Z Z <| xfa Z Z Z f220_2 <| xst Z Z Z Z o90 Z .z Z .z pend0 <| X.nil <| tx [0,1,2,3,4,5] (ct [5]) Z Z <| xmv Z Z Z <| xmv Z Z Z <| xmf Z Z Z Z <| xnc Z Z Z <| xfa Z Z Z f220_1 ?_
 refine xst Z Z Z Z o130 Z .z Z .z pend0 <| X.nil <| T.end0 Z (fun W D h => ?_)
 exact ⟨D, ⟨rfl, rfl, h⟩, fun _ hk => hk⟩
set_option maxHeartbeats 1000000 in
theorem ct_popBottom {C : Cx} {l : Wds} {d : Nat} {Hx : List Bk} {R : Asr} (hl : Loc R) {nx ou wo : Value} {i1 i2 i3 i4 x1 x2 x3 : Int} : Cv C 135 [ptr d, ptr C.s] l (blks (⟨d, 220, [.int .i64 i1, .int .i64 i2, .int .i64 i3, .int .i64 i4, nx, .int .u64 x1, .int .u64 x2, .int .u64 x3, ou, wo]⟩ :: Hx) R) (.tuple #[]) l (blks (⟨d, 220, [.int .i64 i1, .int .i64 i2, .int .i64 i3, .int .i64 i4, fm 168 d, .int .u64 (w64 (ld l i2 - 1)), .int .u64 x2, .int .u64 x3, ou, wo]⟩ :: Hx) R) := by
 refine Ct.of Tryz.func135 rfl Tryz.ntmps135 (by simp) (loc_blks hl _) ?_
 intro w0 D0
 refine T.conv (fun w h => Sy.opens (H2 := _ :: Hx) h hl) <| T.seq <| tx [0,1,2,3,4,5,6,7,8,9,10,11] (ct [11]) Z Z <| xmv Z Z Z <| xmv Z Z Z <| xmv Z Z Z <| xnc Z Z Z <| xfa Z Z Z f220_0 <| xfa Z Z Z f185_1 <| xld Z Z Z o3 .z Z ?_
 refine xcq Z Z Z Z g32 (ct_Load hl) hl <| xarc Z Z Z Z Z (wrap64u _) <| xnc Z Z Z <| xfa Z Z Z f220_2 <| xst Z Z Z Z o90 Z .z Z .z pend0 <| X.nil <| tx [0,1,2,3,4,5] (ct [5]) Z Z <| xmv Z Z Z <| xmv Z Z Z <| xmf Z Z Z Z <| xnc Z Z Z <| xfa Z Z Z f220_1 ?_
 refine xst Z Z Z Z o130 Z .z Z .z pend0 <| X.nil <| T.end0 Z (fun W D h => ?_)
 exact ⟨D, ⟨rfl, rfl, h⟩, fun _ hk => hk⟩
set_option maxHeartbeats 1000000 in
theorem ct_stealTop {C : Cx} {l : Wds} {d : Nat} {Hx : List Bk} {R : Asr} (hl : Loc R) {nx ou wo : Value} {i1 i2 i3 i4 x1 x2 x3 : Int} : Cv C 217 [ptr d, ptr C.s] l (blks (⟨d, 220, [.int .i64 i1, .int .i64 i2, .int .i64 i3, .int .i64 i4, nx, .int .u64 x1, .int .u64 x2, .int .u64 x3, ou, wo]⟩ :: Hx) R) (.tuple #[]) l (blks (⟨d, 220, [.int .i64 i1, .int .i64 i2, .int .i64 i3, .int .i64 i4, fm 236 d, .int .u64 x1, .int .u64 (ld l i1), .int .u64 x3, ou, wo]⟩ :: Hx) R) := by
 refine Ct.of Tryz.func217 rfl Tryz.ntmps217 (by simp) (loc_blks hl _) ?_
 intro w0 D0
 refine T.conv (fun w h => Sy.opens (H2 := _ :: Hx) h hl) <| T.seq <| tx [0,1,2,3,4,5,6,7,8,9,10] (ct [10]) Z Z <| xmv Z Z Z <| xmv Z Z Z <| xmv Z Z Z <| xnc Z Z Z <| xfa Z Z Z f220_0 <| xfa Z Z Z f185_0 <| xld Z Z Z o3 .z Z ?_
 refine xcq Z Z Z Z g32 (ct_Load hl) hl <| xnc Z Z Z <| xfa Z Z Z f220_3 <| xst Z Z Z Z o90 Z .z Z .z pend0 <| X.nil <| tx [0,1,2,3,4,5] (ct [5]) Z Z <| xmv Z Z Z <| xmv Z Z Z <| xmf Z Z Z Z <| xnc Z Z Z <| xfa Z Z Z f220_1 ?_
 refine xst Z Z Z Z o130 Z .z Z .z pend0 <| X.nil <| T.end0 Z (fun W D h => ?_)
 exact ⟨D, ⟨rfl, rfl, h⟩, fun _ hk => hk⟩
set_option maxHeartbeats 1000000 in
theorem dq_pushTop {C : Cx} {d : Nat} {m : Dq} {l : Wds} (hm : m.Ok) (hr : ∀ a, u64R (ld l a)) (hn : m.next = .pushTop) : DqRun C d m l (m.step l).1 (m.step l).2 := by
 obtain ⟨e, nx, b, t, w, out, won⟩ := m
 obtain rfl : nx = .pushTop := hn
 rintro nv RN ⟨rfl, rfl⟩
 refine ⟨262, [ptr d], [], rfl, g262, ?_⟩
 refine Ct.of (vs := [ptr d, ptr C.s]) Tryz.func262 rfl Tryz.ntmps262 (by simp) (loc_blks loc_emp _) ?_
 intro w0 D0
 refine T.conv (fun w h => Sy.opens (H2 := [_]) h loc_emp) <| T.seq <| tx [0,1,2,3,4,5,6,7,8,9,10] (ct [10]) Z Z <| xmv Z Z Z <| xmv Z Z Z <| xmv Z Z Z <| xnc Z Z Z <| xfa Z Z Z f220_0 <| xfa Z Z Z f185_0 <| xld Z Z Z o3 .z Z ?_
 refine xcq Z Z Z Z g32 (ct_Load loc_emp) loc_emp <| xnc Z Z Z <| xfa Z Z Z f220_3 <| xst Z Z Z Z o90 Z .z Z .z pend0 <| X.nil <| T.seq <| tx [0,1,2,3,4,5] (ct [5]) Z Z <| xmv Z Z Z <| xmv Z Z Z <| xmf Z Z Z Z <| xnc Z Z Z <| xfa Z Z Z f220_1 ?_
 refine xst Z Z Z Z o130 Z .z Z .z pend0 <| X.nil <| T.seq <| T.any (ord := [0, 1, 2, 3, 4, 5, 6, 7, 8, 9, 10, 11, 12, 13, 14, 15]) (lo := (fun _ => false)) (ef := (fun _ => false)) (by kernel_rfl) (fun _ h => h.drew) <| xmv Z Z Z <| xnc Z Z Z ?_
 refine xfa Z Z Z f220_2 <| xld Z Z Z o90 .z Z <| xmv Z Z Z <| xnc Z Z Z <| xfa Z Z Z f220_3 <| xld Z Z Z o90 .z Z <| xcq Z Z Z Z g210 (ct_Ahead0) loc_emp <| xmv Z Z Z <| xnc Z Z Z <| xfa Z Z Z f220_0 <| xfa Z Z Z f185_3 <| xld Z Z Z o3 .z Z <| xmax Z Z Z ?_
 refine xcm Z Z Z Z Z Z <| X.nil <| T.cond Z ?_ ?_
 ·intro hb0
  refine T.seq <| tx [0,1,2,3] (ct [3]) Z Z <| xmv Z Z Z <| xnc Z Z Z <| xfa Z Z Z f220_4 <| xst Z Z Z Z o90 Z .z Z .z pend0 <| X.nil <| tx [0,1] (ct [1]) Z Z <| xmv Z Z Z ?_
  refine xcb (H1 := []) (H2 := _ :: _) (H2' := _ :: _) Z Z Z Z g232 Z (ct_dqend loc_emp) loc_emp Z pend0 <| X.nil <| T.end0 Z (fun W D h => ?_)
  rw [show (⟨e, .pushTop, b, t, w, out, won⟩ : Dq).step l = _ from if_pos (of_decide_eq_true hb0)]
  exact ⟨D, ⟨rfl, rfl, _, _, ⟨rfl, rfl⟩, h⟩, fun _ hk => hk⟩
 ·intro hb0
  refine T.skip <| T.end0 Z (fun W D h => ?_)
  rw [show (⟨e, .pushTop, b, t, w, out, won⟩ : Dq).step l = _ from if_neg (of_decide_eq_false hb0)]
  exact ⟨D, ⟨rfl, rfl, _, _, ⟨rfl, rfl⟩, h⟩, fun _ hk => hk⟩
set_option maxHeartbeats 1000000 in
theorem dq_pushEntry {C : Cx} {d : Nat} {m : Dq} {l : Wds} (hm : m.Ok) (hr : ∀ a, u64R (ld l a)) (hn : m.next = .pushEntry) : DqRun C d m l (m.step l).1 (m.step l).2 := by
 obtain ⟨e, nx, b, t, w, out, won⟩ := m
 obtain rfl : nx = .pushEntry := hn
 rintro nv RN ⟨rfl, rfl⟩
 refine ⟨263, [ptr d], [], rfl, g263, ?_⟩
 refine Ct.of (vs := [ptr d, ptr C.s]) Tryz.func263 rfl Tryz.ntmps263 (by simp) (loc_blks loc_emp _) ?_
 intro w0 D0
 refine T.conv (fun w h => Sy.opens (H2 := [_]) h loc_emp) <| T.seq <| T.any (ord := [0, 1, 2, 3, 4, 5, 6, 7, 8, 9, 10, 11, 12, 13, 14]) (lo := (fun _ => false)) (ef := (fun i => [14].contains i)) (by kernel_rfl) (fun _ h => h.drew) <| xmv Z Z Z ?_
 refine xmv Z Z Z <| xnc Z Z Z <| xfa Z Z Z f220_0 <| xlda Z Z Z m185 .z Z <| xmv Z Z Z <| xnc Z Z Z <| xfa Z Z Z f220_2 <| xld Z Z Z o90 .z Z <| xcq Z Z Z Z g230 (ct_entry0 hm.entry hm.room hm.b) loc_emp <| xmv Z Z Z <| xnc Z Z Z <| xfa Z Z Z f220_4 ?_
 refine xld Z Z Z o90 .z Z <| xce Z Z Z Z g148 (ct_Put loc_emp hm.w) loc_emp pend0 <| X.nil <| tx [0,1,2,3,4,5] (ct [5]) Z Z <| xmv Z Z Z <| xmv Z Z Z <| xmf Z Z Z Z <| xnc Z Z Z <| xfa Z Z Z f220_1 <| xst Z Z Z Z o130 Z .z Z .z pend0 <| X.nil ?_
 refine T.end0 Z (fun W D h => ?_)
 exact ⟨D, ⟨rfl, rfl, _, _, ⟨rfl, rfl⟩, h⟩, fun _ hk => hk⟩
set_option maxHeartbeats 1000000 in
theorem dq_pushEnd {C : Cx} {d : Nat} {m : Dq} {l : Wds} (hm : m.Ok) (hr : ∀ a, u64R (ld l a)) (hn : m.next = .pushEnd) : DqRun C d m l (m.step l).1 (m.step l).2 := by
 obtain ⟨e, nx, b, t, w, out, won⟩ := m
 obtain rfl : nx = .pushEnd := hn
 rintro nv RN ⟨rfl, rfl⟩
 refine ⟨264, [ptr d], [], rfl, g264, ?_⟩
 refine Ct.of (vs := [ptr d, ptr C.s]) Tryz.func264 rfl Tryz.ntmps264 (by simp) (loc_blks loc_emp _) ?_
 intro w0 D0
 refine T.conv (fun w h => Sy.opens (H2 := [_]) h loc_emp) <| T.seq <| T.any (ord := [0, 1, 2, 3, 4, 5, 6, 7, 8, 9, 10, 11]) (lo := (fun _ => false)) (ef := (fun i => [11].contains i)) (by kernel_rfl) (fun _ h => h.drew) <| xmv Z Z Z <| xmv Z Z Z ?_
 refine xnc Z Z Z <| xfa Z Z Z f220_0 <| xfa Z Z Z f185_1 <| xld Z Z Z o3 .z Z <| xmv Z Z Z <| xnc Z Z Z <| xfa Z Z Z f220_2 <| xld Z Z Z o90 .z Z <| xarc Z Z Z Z Z (wrap64u _) <| xce Z Z Z Z g148 (ct_Put loc_emp (w64_rng _)) loc_emp pend0 <| X.nil ?_
 refine T.seq <| tx [0,1,2,3] (ct [3]) Z Z <| xmv Z Z Z <| xnc Z Z Z <| xfa Z Z Z f220_4 <| xst Z Z Z Z o90 Z .z Z .z pend0 <| X.nil <| tx [0,1] (ct [1]) Z Z <| xmv Z Z Z ?_
 refine xcb (H1 := []) (H2 := _ :: _) (H2' := _ :: _) Z Z Z Z g232 Z (ct_dqend loc_emp) loc_emp Z pend0 <| X.nil <| T.end0 Z (fun W D h => ?_)
 exact ⟨D, ⟨rfl, rfl, _, _, ⟨rfl, rfl⟩, h⟩, fun _ hk => hk⟩
set_option maxHeartbeats 1000000 in
theorem dq_popDown {C : Cx} {d : Nat} {m : Dq} {l : Wds} (hm : m.Ok) (hr : ∀ a, u64R (ld l a)) (hn : m.next = .popDown) : DqRun C d m l (m.step l).1 (m.step l).2 := by
 obtain ⟨e, nx, b, t, w, out, won⟩ := m
 obtain rfl : nx = .popDown := hn
 rintro nv RN ⟨rfl, rfl⟩
 refine ⟨168, [ptr d], [], rfl, g168, ?_⟩
 refine Ct.of (vs := [ptr d, ptr C.s]) Tryz.func168 rfl Tryz.ntmps168 (by simp) (loc_blks loc_emp _) ?_
 intro w0 D0
 refine T.conv (fun w h => Sy.opens (H2 := [_]) h loc_emp) <| T.seq <| T.any (ord := [0, 1, 2, 3, 4, 5, 6, 7, 8, 9, 10]) (lo := (fun _ => false)) (ef := (fun i => [10].contains i)) (by kernel_rfl) (fun _ h => h.drew) <| xmv Z Z Z <| xmv Z Z Z <| xnc Z Z Z ?_
 refine xfa Z Z Z f220_0 <| xfa Z Z Z f185_1 <| xld Z Z Z o3 .z Z <| xmv Z Z Z <| xnc Z Z Z <| xfa Z Z Z f220_2 <| xld Z Z Z o90 .z Z <| xce Z Z Z Z g148 (ct_Put loc_emp hm.b) loc_emp pend0 <| X.nil <| tx [0,1,2,3,4,5] (ct [5]) Z Z <| xmv Z Z Z ?_
 refine xmv Z Z Z <| xmf Z Z Z Z <| xnc Z Z Z <| xfa Z Z Z f220_1 <| xst Z Z Z Z o130 Z .z Z .z pend0 <| X.nil <| T.end0 Z (fun W D h => ?_)
 exact ⟨D, ⟨rfl, rfl, _, _, ⟨rfl, rfl⟩, h⟩, fun _ hk => hk⟩
set_option maxHeartbeats 1000000 in
theorem dq_popTop {C : Cx} {d : Nat} {m : Dq} {l : Wds} (hm : m.Ok) (hr : ∀ a, u64R (ld l a)) (hn : m.next = .popTop) : DqRun C d m l (m.step l).1 (m.step l).2 := by
 obtain ⟨e, nx, b, t, w, out, won⟩ := m
 obtain rfl : nx = .popTop := hn
 rintro nv RN ⟨rfl, rfl⟩
 refine ⟨185, [ptr d], [], rfl, g185, ?_⟩
 refine Ct.of (vs := [ptr d, ptr C.s]) Tryz.func185 rfl Tryz.ntmps185 (by simp) (loc_blks loc_emp _) ?_
 intro w0 D0
 refine T.conv (fun w h => Sy.opens (H2 := [_]) h loc_emp) <| T.seq <| tx [0,1,2,3,4,5,6,7,8,9,10] (ct [10]) Z Z <| xmv Z Z Z <| xmv Z Z Z <| xmv Z Z Z <| xnc Z Z Z <| xfa Z Z Z f220_0 <| xfa Z Z Z f185_0 <| xld Z Z Z o3 .z Z ?_
 refine xcq Z Z Z Z g32 (ct_Load loc_emp) loc_emp <| xnc Z Z Z <| xfa Z Z Z f220_3 <| xst Z Z Z Z o90 Z .z Z .z pend0 <| X.nil <| T.seq <| tx [0,1,2,3,4,5] (ct [5]) Z Z <| xmv Z Z Z <| xmv Z Z Z <| xmf Z Z Z Z <| xnc Z Z Z <| xfa Z Z Z f220_1 ?_
 refine xst Z Z Z Z o130 Z .z Z .z pend0 <| X.nil <| T.seq <| T.any (ord := [0, 1, 2, 3, 4, 5, 6, 7, 8, 9]) (lo := (fun _ => false)) (ef := (fun _ => false)) (by kernel_rfl) (fun _ h => h.drew) <| xmv Z Z Z <| xnc Z Z Z <| xfa Z Z Z f220_3 ?_
 refine xld Z Z Z o90 .z Z <| xmv Z Z Z <| xnc Z Z Z <| xfa Z Z Z f220_2 <| xld Z Z Z o90 .z Z <| xcq Z Z Z Z g210 (ct_Ahead0) loc_emp <| xcm Z Z Z Z Z Z <| X.nil <| T.cond Z ?_ ?_
 ·intro hb0
  refine tx [0,1,2,3,4,5] (ct [5]) Z Z <| xmv Z Z Z <| xmv Z Z Z <| xmf Z Z Z Z <| xnc Z Z Z <| xfa Z Z Z f220_1 <| xst Z Z Z Z o130 Z .z Z .z pend0 <| X.nil <| T.end0 Z (fun W D h => ?_)
  rw [show (⟨e, .popTop, b, t, w, out, won⟩ : Dq).step l = _ from if_pos (of_decide_eq_true hb0)]
  exact ⟨D, ⟨rfl, rfl, _, _, ⟨rfl, rfl⟩, h⟩, fun _ hk => hk⟩
 ·intro hb0
  refine T.skip <| T.end0 Z (fun W D h => ?_)
  rw [show (⟨e, .popTop, b, t, w, out, won⟩ : Dq).step l = _ from if_neg (of_decide_eq_false hb0)]
  exact ⟨D, ⟨rfl, rfl, _, _, ⟨rfl, rfl⟩, h⟩, fun _ hk => hk⟩
set_option maxHeartbeats 1000000 in
theorem dq_popEntry {C : Cx} {d : Nat} {m : Dq} {l : Wds} (hm : m.Ok) (hr : ∀ a, u64R (ld l a)) (hn : m.next = .popEntry) : DqRun C d m l (m.step l).1 (m.step l).2 := by
 obtain ⟨e, nx, b, t, w, out, won⟩ := m
 obtain rfl : nx = .popEntry := hn
 rintro nv RN ⟨rfl, rfl⟩
 refine ⟨209, [ptr d], [], rfl, g209, ?_⟩
 refine Ct.of (vs := [ptr d, ptr C.s]) Tryz.func209 rfl Tryz.ntmps209 (by simp) (loc_blks loc_emp _) ?_
 intro w0 D0
 refine T.conv (fun w h => Sy.opens (H2 := [_]) h loc_emp) <| T.seq <| T.any (ord := [0, 1, 2, 3, 4, 5, 6, 7, 8, 9, 10, 11, 12, 13, 14]) (lo := (fun _ => false)) (ef := (fun i => [14].contains i)) (by kernel_rfl) (fun _ h => h.drew) <| xmv Z Z Z ?_
 refine xmv Z Z Z <| xmv Z Z Z <| xnc Z Z Z <| xfa Z Z Z f220_0 <| xlda Z Z Z m185 .z Z <| xmv Z Z Z <| xnc Z Z Z <| xfa Z Z Z f220_2 <| xld Z Z Z o90 .z Z <| xcq Z Z Z Z g230 (ct_entry0 hm.entry hm.room hm.b) loc_emp ?_
 refine xcq Z Z Z Z g32 (ct_Load loc_emp) loc_emp <| xnc Z Z Z <| xfa Z Z Z f220_4 <| xst Z Z Z Z o90 Z .z Z .z pend0 <| X.nil <| T.seq <| tx [0,1,2,3,4,5] (ct [5]) Z Z <| xmv Z Z Z <| xmv Z Z Z <| xmf Z Z Z Z <| xnc Z Z Z <| xfa Z Z Z f220_1 ?_
 refine xst Z Z Z Z o130 Z .z Z .z pend0 <| X.nil <| T.seq <| T.any (ord := [0, 1, 2, 3, 4, 5, 6, 7, 8, 9]) (lo := (fun _ => false)) (ef := (fun _ => false)) (by kernel_rfl) (fun _ h => h.drew) <| xmv Z Z Z <| xnc Z Z Z <| xfa Z Z Z f220_2 ?_
 refine xld Z Z Z o90 .z Z <| xmv Z Z Z <| xnc Z Z Z <| xfa Z Z Z f220_3 <| xld Z Z Z o90 .z Z <| xcq Z Z Z Z g210 (ct_Ahead0) loc_emp <| xcm Z Z Z Z Z Z <| X.nil <| T.cond Z ?_ ?_
 ·intro hb0
  refine tx [0,1] (ct [1]) Z Z <| xmv Z Z Z <| xcb (H1 := []) (H2 := _ :: _) (H2' := _ :: _) Z Z Z Z g232 Z (ct_dqend loc_emp) loc_emp Z pend0 <| X.nil <| T.end0 Z (fun W D h => ?_)
  rw [show (⟨e, .popEntry, b, t, w, out, won⟩ : Dq).step l = _ from if_pos (of_decide_eq_true hb0)]
  exact ⟨D, ⟨rfl, rfl, _, _, ⟨rfl, rfl⟩, h⟩, fun _ hk => hk⟩
 ·intro hb0
  refine T.skip <| T.end0 Z (fun W D h => ?_)
  rw [show (⟨e, .popEntry, b, t, w, out, won⟩ : Dq).step l = _ from if_neg (of_decide_eq_false hb0)]
  exact ⟨D, ⟨rfl, rfl, _, _, ⟨rfl, rfl⟩, h⟩, fun _ hk => hk⟩
set_option maxHeartbeats 1000000 in
theorem dq_popSwap {C : Cx} {d : Nat} {m : Dq} {l : Wds} (hm : m.Ok) (hr : ∀ a, u64R (ld l a)) (hn : m.next = .popSwap) : DqRun C d m l (m.step l).1 (m.step l).2 := by
 obtain ⟨e, nx, b, t, w, out, won⟩ := m
 obtain rfl : nx = .popSwap := hn
 rintro nv RN ⟨rfl, rfl⟩
 refine ⟨231, [ptr d], [], rfl, g231, ?_⟩
 refine Ct.of (vs := [ptr d, ptr C.s]) Tryz.func231 rfl Tryz.ntmps231 (by simp) (loc_blks loc_emp _) ?_
 intro w0 D0
 refine T.conv (fun w h => Sy.opens (H2 := [_]) h loc_emp) <| T.seq ?_
 refine T.any (ord := [0, 1, 2, 3, 4, 5, 6, 7, 8, 9, 10, 11, 12, 13, 14, 15, 16, 17, 18, 19]) (lo := (fun i => [0].contains i)) (ef := (fun i => [16, 19].contains i)) (by kernel_rfl) (fun _ h => h.drew) <| xmv Z Z Z <| xmv Z Z Z <| xmv Z Z Z <| xnc Z Z Z ?_
 refine xfa Z Z Z f220_0 <| xfa Z Z Z f185_0 <| xld Z Z Z o3 .z Z <| xmv Z Z Z <| xnc Z Z Z <| xfa Z Z Z f220_3 <| xld Z Z Z o90 .z Z <| xmv Z Z Z <| xnc Z Z Z <| xfa Z Z Z f220_3 <| xld Z Z Z o90 .z Z <| xarc Z Z Z Z Z (wrap64u _) ?_
 refine xce Z Z Z Z g175 (ct_Swap loc_emp (w64_rng _)) loc_emp (pendmv Z Z pend0) <| xnc Z Z Z <| xfa Z Z Z f220_6 <| xst Z Z Z Z o4 Z .z Z .z (pendsk (by kernel_rfl) pend0) <| X.nil <| tx [0,1,2,3,4,5] (ct [5]) Z Z <| xmv Z Z Z <| xmv Z Z Z <| xmf Z Z Z Z ?_
 refine xnc Z Z Z <| xfa Z Z Z f220_1 <| xst Z Z Z Z o130 Z .z Z .z pend0 <| X.nil <| T.end0 Z (fun W D h => ?_)
 exact ⟨D, ⟨rfl, rfl, _, _, ⟨rfl, rfl⟩, h⟩, fun _ hk => hk⟩
set_option maxHeartbeats 1000000 in
theorem dq_popBack {C : Cx} {d : Nat} {m : Dq} {l : Wds} (hm : m.Ok) (hr : ∀ a, u64R (ld l a)) (hn : m.next = .popBack) : DqRun C d m l (m.step l).1 (m.step l).2 := by
 obtain ⟨e, nx, b, t, w, out, won⟩ := m
 obtain rfl : nx = .popBack := hn
 rintro nv RN ⟨rfl, rfl⟩
 refine ⟨211, [ptr d], [], rfl, g211, ?_⟩
 refine Ct.of (vs := [ptr d, ptr C.s]) Tryz.func211 rfl Tryz.ntmps211 (by simp) (loc_blks loc_emp _) ?_
 intro w0 D0
 refine T.conv (fun w h => Sy.opens (H2 := [_]) h loc_emp) <| T.seq <| T.any (ord := [0, 1, 2, 3, 4, 5, 6, 7, 8, 9, 10, 11]) (lo := (fun _ => false)) (ef := (fun i => [11].contains i)) (by kernel_rfl) (fun _ h => h.drew) <| xmv Z Z Z <| xmv Z Z Z ?_
 refine xnc Z Z Z <| xfa Z Z Z f220_0 <| xfa Z Z Z f185_1 <| xld Z Z Z o3 .z Z <| xmv Z Z Z <| xnc Z Z Z <| xfa Z Z Z f220_2 <| xld Z Z Z o90 .z Z <| xarc Z Z Z Z Z (wrap64u _) <| xce Z Z Z Z g148 (ct_Put loc_emp (w64_rng _)) loc_emp pend0 <| X.nil ?_
 refine T.seq <| T.seq <| tx [0,1,2,3] nf Z Z <| xmv Z Z Z <| xnc Z Z Z <| xfa Z Z Z f220_6 <| xld Z Z Z o4 .z Z <| X.nil <| T.cond Z ?_ ?_
 ·intro hb0
  refine T.seq <| tx [0,1] (ct [1]) Z Z <| xmv Z Z Z <| xcb (H1 := []) (H2 := _ :: _) (H2' := _ :: _) Z Z Z Z g232 Z (ct_dqend loc_emp) loc_emp Z pend0 <| X.nil <| T.ret0 Z (fun W D h => ?_)
  rw [show (⟨e, .popBack, b, t, w, out, won⟩ : Dq).step l = _ from if_pos hb0]
  exact ⟨D, ⟨rfl, rfl, _, _, ⟨rfl, rfl⟩, h⟩, fun _ hk => hk⟩
 ·intro hb0
  refine T.skip <| T.seq <| tx [0,1,2,3] (ct [3]) Z Z <| xmv Z Z Z <| xnc Z Z Z <| xfa Z Z Z f220_4 <| xst Z Z Z Z o90 Z .z Z .z pend0 <| X.nil <| tx [0,1] (ct [1]) Z Z <| xmv Z Z Z ?_
  refine xcb (H1 := []) (H2 := _ :: _) (H2' := _ :: _) Z Z Z Z g232 Z (ct_dqend loc_emp) loc_emp Z pend0 <| X.nil <| T.end0 Z (fun W D h => ?_)
  rw [show (⟨e, .popBack, b, t, w, out, won⟩ : Dq).step l = _ from if_neg (by rw [hb0]; exact Bool.false_ne_true)]
  exact ⟨D, ⟨rfl, rfl, _, _, ⟨rfl, rfl⟩, h⟩, fun _ hk => hk⟩
set_option maxHeartbeats 1000000 in
theorem dq_stealBottom {C : Cx} {d : Nat} {m : Dq} {l : Wds} (hm : m.Ok) (hr : ∀ a, u64R (ld l a)) (hn : m.next = .stealBottom) : DqRun C d m l (m.step l).1 (m.step l).2 := by
 obtain ⟨e, nx, b, t, w, out, won⟩ := m
 obtain rfl : nx = .stealBottom := hn
 rintro nv RN ⟨rfl, rfl⟩
 refine ⟨236, [ptr d], [], rfl, g236, ?_⟩
 refine Ct.of (vs := [ptr d, ptr C.s]) Tryz.func236 rfl Tryz.ntmps236 (by simp) (loc_blks loc_emp _) ?_
 intro w0 D0
 refine T.conv (fun w h => Sy.opens (H2 := [_]) h loc_emp) <| T.seq <| tx [0,1,2,3,4,5,6,7,8,9,10] (ct [10]) Z Z <| xmv Z Z Z <| xmv Z Z Z <| xmv Z Z Z <| xnc Z Z Z <| xfa Z Z Z f220_0 <| xfa Z Z Z f185_1 <| xld Z Z Z o3 .z Z ?_
 refine xcq Z Z Z Z g32 (ct_Load loc_emp) loc_emp <| xnc Z Z Z <| xfa Z Z Z f220_2 <| xst Z Z Z Z o90 Z .z Z .z pend0 <| X.nil <| T.seq <| tx [0,1,2,3,4,5] (ct [5]) Z Z <| xmv Z Z Z <| xmv Z Z Z <| xmf Z Z Z Z <| xnc Z Z Z <| xfa Z Z Z f220_1 ?_
 refine xst Z Z Z Z o130 Z .z Z .z pend0 <| X.nil <| T.seq <| T.any (ord := [0, 1, 2, 3, 4, 5, 6, 7, 8, 9]) (lo := (fun _ => false)) (ef := (fun _ => false)) (by kernel_rfl) (fun _ h => h.drew) <| xmv Z Z Z <| xnc Z Z Z <| xfa Z Z Z f220_2 ?_
 refine xld Z Z Z o90 .z Z <| xmv Z Z Z <| xnc Z Z Z <| xfa Z Z Z f220_3 <| xld Z Z Z o90 .z Z <| xcq Z Z Z Z g210 (ct_Ahead0) loc_emp <| xcm Z Z Z Z Z Z <| X.nil <| T.cond Z ?_ ?_
 ·intro hb0
  refine tx [0,1] (ct [1]) Z Z <| xmv Z Z Z <| xcb (H1 := []) (H2 := _ :: _) (H2' := _ :: _) Z Z Z Z g232 Z (ct_dqend loc_emp) loc_emp Z pend0 <| X.nil <| T.end0 Z (fun W D h => ?_)
  rw [show (⟨e, .stealBottom, b, t, w, out, won⟩ : Dq).step l = _ from if_pos (of_decide_eq_true hb0)]
  exact ⟨D, ⟨rfl, rfl, _, _, ⟨rfl, rfl⟩, h⟩, fun _ hk => hk⟩
 ·intro hb0
  refine T.skip <| T.end0 Z (fun W D h => ?_)
  rw [show (⟨e, .stealBottom, b, t, w, out, won⟩ : Dq).step l = _ from if_neg (of_decide_eq_false hb0)]
  exact ⟨D, ⟨rfl, rfl, _, _, ⟨rfl, rfl⟩, h⟩, fun _ hk => hk⟩
set_option maxHeartbeats 1000000 in
theorem dq_stealEntry {C : Cx} {d : Nat} {m : Dq} {l : Wds} (hm : m.Ok) (hr : ∀ a, u64R (ld l a)) (hn : m.next = .stealEntry) : DqRun C d m l (m.step l).1 (m.step l).2 := by
 obtain ⟨e, nx, b, t, w, out, won⟩ := m
 obtain rfl : nx = .stealEntry := hn
 rintro nv RN ⟨rfl, rfl⟩
 refine ⟨248, [ptr d], [], rfl, g248, ?_⟩
 refine Ct.of (vs := [ptr d, ptr C.s]) Tryz.func248 rfl Tryz.ntmps248 (by simp) (loc_blks loc_emp _) ?_
 intro w0 D0
 refine T.conv (fun w h => Sy.opens (H2 := [_]) h loc_emp) <| T.seq <| T.any (ord := [0, 1, 2, 3, 4, 5, 6, 7, 8, 9, 10, 11, 12, 13, 14]) (lo := (fun _ => false)) (ef := (fun i => [14].contains i)) (by kernel_rfl) (fun _ h => h.drew) <| xmv Z Z Z ?_
 refine xmv Z Z Z <| xmv Z Z Z <| xnc Z Z Z <| xfa Z Z Z f220_0 <| xlda Z Z Z m185 .z Z <| xmv Z Z Z <| xnc Z Z Z <| xfa Z Z Z f220_3 <| xld Z Z Z o90 .z Z <| xcq Z Z Z Z g230 (ct_entry0 hm.entry hm.room hm.t) loc_emp ?_
 refine xcq Z Z Z Z g32 (ct_Load loc_emp) loc_emp <| xnc Z Z Z <| xfa Z Z Z f220_4 <| xst Z Z Z Z o90 Z .z Z .z pend0 <| X.nil <| tx [0,1,2,3,4,5] (ct [5]) Z Z <| xmv Z Z Z <| xmv Z Z Z <| xmf Z Z Z Z <| xnc Z Z Z <| xfa Z Z Z f220_1 ?_
 refine xst Z Z Z Z o130 Z .z Z .z pend0 <| X.nil <| T.end0 Z (fun W D h => ?_)
 exact ⟨D, ⟨rfl, rfl, _, _, ⟨rfl, rfl⟩, h⟩, fun _ hk => hk⟩
set_option maxHeartbeats 1000000 in
theorem dq_stealSwap {C : Cx} {d : Nat} {m : Dq} {l : Wds} (hm : m.Ok) (hr : ∀ a, u64R (ld l a)) (hn : m.next = .stealSwap) : DqRun C d m l (m.step l).1 (m.step l).2 := by
 obtain ⟨e, nx, b, t, w, out, won⟩ := m
 obtain rfl : nx = .stealSwap := hn
 rintro nv RN ⟨rfl, rfl⟩
 refine ⟨257, [ptr d], [], rfl, g257, ?_⟩
 refine Ct.of (vs := [ptr d, ptr C.s]) Tryz.func257 rfl Tryz.ntmps257 (by simp) (loc_blks loc_emp _) ?_
 intro w0 D0
 refine T.conv (fun w h => Sy.opens (H2 := [_]) h loc_emp) <| T.seq <| T.seq <| T.any (ord := [0, 1, 2, 3, 4, 5, 6, 7, 8, 9, 10, 11, 12, 13, 14, 15]) (lo := (fun _ => false)) (ef := (fun i => [15].contains i)) (by kernel_rfl) (fun _ h => h.drew) ?_
 refine xmv Z Z Z <| xmv Z Z Z <| xnc Z Z Z <| xfa Z Z Z f220_0 <| xfa Z Z Z f185_0 <| xld Z Z Z o3 .z Z <| xmv Z Z Z <| xnc Z Z Z <| xfa Z Z Z f220_3 <| xld Z Z Z o90 .z Z <| xmv Z Z Z <| xnc Z Z Z <| xfa Z Z Z f220_3 <| xld Z Z Z o90 .z Z ?_
 refine xarc Z Z Z Z Z (wrap64u _) <| xce Z Z Z Z g175 (ct_Swap loc_emp (w64_rng _)) loc_emp pend0 <| X.nil <| T.cond Z ?_ ?_
 ·intro hb0
  refine T.seq <| tx [0,1] (ct [1]) Z Z <| xmv Z Z Z <| xcb (H1 := []) (H2 := _ :: _) (H2' := _ :: _) Z Z Z Z g232 Z (ct_dqend loc_emp) loc_emp Z pend0 <| X.nil <| T.ret0 Z (fun W D h => ?_)
  rw [show (⟨e, .stealSwap, b, t, w, out, won⟩ : Dq).step l = _ from if_pos hb0]
  exact ⟨D, ⟨rfl, rfl, _, _, ⟨rfl, rfl⟩, h⟩, fun _ hk => hk⟩
 ·intro hb0
  refine T.skip <| T.seq <| tx [0,1,2,3] (ct [3]) Z Z <| xmv Z Z Z <| xnc Z Z Z <| xfa Z Z Z f220_4 <| xst Z Z Z Z o90 Z .z Z .z pend0 <| X.nil <| tx [0,1] (ct [1]) Z Z <| xmv Z Z Z ?_
  refine xcb (H1 := []) (H2 := _ :: _) (H2' := _ :: _) Z Z Z Z g232 Z (ct_dqend loc_emp) loc_emp Z pend0 <| X.nil <| T.end0 Z (fun W D h => ?_)
  rw [show (⟨e, .stealSwap, b, t, w, out, won⟩ : Dq).step l = _ from if_neg (by rw [hb0]; exact Bool.false_ne_true)]
  exact ⟨D, ⟨rfl, rfl, _, _, ⟨rfl, rfl⟩, h⟩, fun _ hk => hk⟩
set_option maxHeartbeats 1000000 in
theorem dq_pushFirst {C : Cx} {d : Nat} {m : Dq} {l : Wds} (hn : m.next = .pushFirst) : DqRun C d m l (m.step l).1 (m.step l).2 := by
 obtain ⟨e, nx, b, t, w, out, won⟩ := m
 obtain rfl : nx = .pushFirst := hn
 rintro nv RN ⟨b1, b2, rfl, rfl⟩
 refine ⟨167, [], [ptr b1, ptr b2], rfl, g167, ?_⟩
 refine Ct.of (vs := [ptr C.s, ptr b1, ptr b2]) Tryz.func167 rfl Tryz.ntmps167 (by simp) (loc_blks (loc_blks loc_emp _) _) ?_
 intro w0 D0
 refine T.conv (fun w h => Sy.opens (H2 := [_, _, _]) h loc_emp) <| tx [0,1,2,3] (ct [3]) Z Z <| xld Z Z Z o204 (.s .z) Z <| xld Z Z Z o179 (.s (.s .z)) Z <| xmv Z Z Z ?_
 refine xcb (H1 := []) (H2 := _ :: _) (H2' := _ :: _) Z Z Z Z g258 Z (ct_pushBottom loc_emp) loc_emp Z pend0 <| X.nil <| T.end0 Z (fun W D h => ?_)
 obtain ⟨D', h1, h2⟩ := blks_one h
 exact ⟨D', ⟨rfl, rfl, _, _, ⟨rfl, rfl⟩, h1⟩, h2⟩
set_option maxHeartbeats 1000000 in
theorem dq_popFirst {C : Cx} {d : Nat} {m : Dq} {l : Wds} (hn : m.next = .popFirst) : DqRun C d m l (m.step l).1 (m.step l).2 := by
 obtain ⟨e, nx, b, t, w, out, won⟩ := m
 obtain rfl : nx = .popFirst := hn
 rintro nv RN ⟨b1, b2, rfl, rfl⟩
 refine ⟨167, [], [ptr b1, ptr b2], rfl, g167, ?_⟩
 refine Ct.of (vs := [ptr C.s, ptr b1, ptr b2]) Tryz.func167 rfl Tryz.ntmps167 (by simp) (loc_blks (loc_blks loc_emp _) _) ?_
 intro w0 D0
 refine T.conv (fun w h => Sy.opens (H2 := [_, _, _]) h loc_emp) <| tx [0,1,2,3] (ct [3]) Z Z <| xld Z Z Z o204 (.s .z) Z <| xld Z Z Z o179 (.s (.s .z)) Z <| xmv Z Z Z ?_
 refine xcb (H1 := []) (H2 := _ :: _) (H2' := _ :: _) Z Z Z Z g135 Z (ct_popBottom loc_emp) loc_emp Z pend0 <| X.nil <| T.end0 Z (fun W D h => ?_)
 obtain ⟨D', h1, h2⟩ := blks_one h
 exact ⟨D', ⟨rfl, rfl, _, _, ⟨rfl, rfl⟩, h1⟩, h2⟩
set_option maxHeartbeats 1000000 in
theorem dq_stealFirst {C : Cx} {d : Nat} {m : Dq} {l : Wds} (hn : m.next = .stealFirst) : DqRun C d m l (m.step l).1 (m.step l).2 := by
 obtain ⟨e, nx, b, t, w, out, won⟩ := m
 obtain rfl : nx = .stealFirst := hn
 rintro nv RN ⟨b1, b2, rfl, rfl⟩
 refine ⟨167, [], [ptr b1, ptr b2], rfl, g167, ?_⟩
 refine Ct.of (vs := [ptr C.s, ptr b1, ptr b2]) Tryz.func167 rfl Tryz.ntmps167 (by simp) (loc_blks (loc_blks loc_emp _) _) ?_
 intro w0 D0
 refine T.conv (fun w h => Sy.opens (H2 := [_, _, _]) h loc_emp) <| tx [0,1,2,3] (ct [3]) Z Z <| xld Z Z Z o204 (.s .z) Z <| xld Z Z Z o179 (.s (.s .z)) Z <| xmv Z Z Z ?_
 refine xcb (H1 := []) (H2 := _ :: _) (H2' := _ :: _) Z Z Z Z g217 Z (ct_stealTop loc_emp) loc_emp Z pend0 <| X.nil <| T.end0 Z (fun W D h => ?_)
 obtain ⟨D', h1, h2⟩ := blks_one h
 exact ⟨D', ⟨rfl, rfl, _, _, ⟨rfl, rfl⟩, h1⟩, h2⟩
set_option maxHeartbeats 1000000 in
theorem ct_begun_push {C : Cx} {l : Wds} {e : DqE} {wv : Int} : Cn C 134 [.agg #[.int .i64 e.top, .int .i64 e.bottom, .int .i64 e.entry, .int .i64 e.room], .int .u64 wv, .func (.func 258) #[] #[]] l emp l (fun q => DqR q (.push e wv)) := by
 refine Ct.of Tryz.func134 rfl Tryz.ntmps134 (by simp) loc_emp ?_
 intro w0 D0
 refine T.seq <| tx [0,1,2] (ct [0,1]) Z Z <| xbx Z Z Z Z (fun _ => pend0) (fun b0 => ?_)
 refine xbx Z Z Z Z (fun _ => pend0) (fun b1 => ?_)
 refine xas Z Z Z <| X.nil <| T.seq <| tx [0,1,2,3,4,5] (ct [3,4,5]) Z Z <| xlda Z Z Z m185 (.s .z) Z <| xmv Z Z Z <| xbd Z Z Z l220 z220 Z <| xbx Z Z Z Z (fun _ => pend0) (fun b2 => ?_)
 refine xal Z Z z179 (fun _ => pend0) (fun b3 => ?_)
 refine xst Z Z Z Z o179 Z .z Z .z pend0 <| X.nil <| T.seq <| tx [0,1,2,3,4] (ct [4]) Z Z <| xld Z Z Z o179 .z Z <| xmf Z Z Z Z <| xnc Z Z Z <| xfa Z Z Z f220_1 <| xst Z Z Z Z o130 Z (.s .z) Z (.s .z) pend0 <| X.nil <| T.seq <| tx [0,1] nf Z Z ?_
 refine xld Z Z Z o179 .z Z <| xas Z Z Z <| X.nil <| T.ret1 Z (fun W D h => ?_)
 obtain ⟨D', h1, h2⟩ := blks_pick0 [1, 2, 0] (by decide) h
 exact ⟨D', ⟨_, rfl, rfl, _, _, ⟨_, _, rfl, rfl⟩, h1⟩, h2⟩
set_option maxHeartbeats 1000000 in
theorem ct_push {C : Cx} {l : Wds} {e : DqE} {wv : Int} : Cn C 249 [.agg #[.int .i64 e.top, .int .i64 e.bottom, .int .i64 e.entry, .int .i64 e.room], .int .u64 wv] l emp l (fun q => DqR q (.push e wv)) := by
 refine Ct.of Tryz.func249 rfl Tryz.ntmps249 (by simp) loc_emp ?_
 intro w0 D0
 refine T.seq <| tx [0,1] (ct [0]) Z Z <| xbx Z Z Z Z (fun _ => pend0) (fun b0 => ?_)
 refine xas Z Z Z <| X.nil <| T.seq <| tx [0,1,2,3] (ct [2]) Z Z <| xlda Z Z Z m185 .z Z <| xmv Z Z Z <| xcn Z Z Z Z g134 (ct_begun_push) (fun _ => loc_DqR) (fun _ => pend0) (fun q1 => ?_)
 refine xas Z Z Z <| X.nil <| T.ret1 Z (fun W D h => ?_)
 obtain ⟨D', h1, h2⟩ := blks_tail h
 exact ⟨D', ⟨_, rfl, rfl, h1⟩, h2⟩
set_option maxHeartbeats 1000000 in
theorem ct_begun_pop {C : Cx} {l : Wds} {e : DqE} {wv : Int} : Cn C 134 [.agg #[.int .i64 e.top, .int .i64 e.bottom, .int .i64 e.entry, .int .i64 e.room], .int .u64 0, .func (.func 135) #[] #[]] l emp l (fun q => DqR q (.pop e)) := by
 refine Ct.of Tryz.func134 rfl Tryz.ntmps134 (by simp) loc_emp ?_
 intro w0 D0
 refine T.seq <| tx [0,1,2] (ct [0,1]) Z Z <| xbx Z Z Z Z (fun _ => pend0) (fun b0 => ?_)
 refine xbx Z Z Z Z (fun _ => pend0) (fun b1 => ?_)
 refine xas Z Z Z <| X.nil <| T.seq <| tx [0,1,2,3,4,5] (ct [3,4,5]) Z Z <| xlda Z Z Z m185 (.s .z) Z <| xmv Z Z Z <| xbd Z Z Z l220 z220 Z <| xbx Z Z Z Z (fun _ => pend0) (fun b2 => ?_)
 refine xal Z Z z179 (fun _ => pend0) (fun b3 => ?_)
 refine xst Z Z Z Z o179 Z .z Z .z pend0 <| X.nil <| T.seq <| tx [0,1,2,3,4] (ct [4]) Z Z <| xld Z Z Z o179 .z Z <| xmf Z Z Z Z <| xnc Z Z Z <| xfa Z Z Z f220_1 <| xst Z Z Z Z o130 Z (.s .z) Z (.s .z) pend0 <| X.nil <| T.seq <| tx [0,1] nf Z Z ?_
 refine xld Z Z Z o179 .z Z <| xas Z Z Z <| X.nil <| T.ret1 Z (fun W D h => ?_)
 obtain ⟨D', h1, h2⟩ := blks_pick0 [1, 2, 0] (by decide) h
 exact ⟨D', ⟨_, rfl, rfl, _, _, ⟨_, _, rfl, rfl⟩, h1⟩, h2⟩
set_option maxHeartbeats 1000000 in
theorem ct_pop {C : Cx} {l : Wds} {e : DqE} : Cn C 104 [.agg #[.int .i64 e.top, .int .i64 e.bottom, .int .i64 e.entry, .int .i64 e.room]] l emp l (fun q => DqR q (.pop e)) := by
 refine Ct.of Tryz.func104 rfl Tryz.ntmps104 (by simp) loc_emp ?_
 intro w0 D0
 refine T.seq <| tx [0,1] (ct [0]) Z Z <| xbx Z Z Z Z (fun _ => pend0) (fun b0 => ?_)
 refine xas Z Z Z <| X.nil <| T.seq <| tx [0,1,2] (ct [1]) Z Z <| xlda Z Z Z m185 .z Z <| xcn Z Z Z Z g134 (ct_begun_pop (wv := 0)) (fun _ => loc_DqR) (fun _ => pend0) (fun q1 => ?_)
 refine xas Z Z Z <| X.nil <| T.ret1 Z (fun W D h => ?_)
 obtain ⟨D', h1, h2⟩ := blks_tail h
 exact ⟨D', ⟨_, rfl, rfl, h1⟩, h2⟩
set_option maxHeartbeats 1000000 in
theorem ct_begun_steal {C : Cx} {l : Wds} {e : DqE} {wv : Int} : Cn C 134 [.agg #[.int .i64 e.top, .int .i64 e.bottom, .int .i64 e.entry, .int .i64 e.room], .int .u64 0, .func (.func 217) #[] #[]] l emp l (fun q => DqR q (.steal e)) := by
 refine Ct.of Tryz.func134 rfl Tryz.ntmps134 (by simp) loc_emp ?_
 intro w0 D0
 refine T.seq <| tx [0,1,2] (ct [0,1]) Z Z <| xbx Z Z Z Z (fun _ => pend0) (fun b0 => ?_)
 refine xbx Z Z Z Z (fun _ => pend0) (fun b1 => ?_)
 refine xas Z Z Z <| X.nil <| T.seq <| tx [0,1,2,3,4,5] (ct [3,4,5]) Z Z <| xlda Z Z Z m185 (.s .z) Z <| xmv Z Z Z <| xbd Z Z Z l220 z220 Z <| xbx Z Z Z Z (fun _ => pend0) (fun b2 => ?_)
 refine xal Z Z z179 (fun _ => pend0) (fun b3 => ?_)
 refine xst Z Z Z Z o179 Z .z Z .z pend0 <| X.nil <| T.seq <| tx [0,1,2,3,4] (ct [4]) Z Z <| xld Z Z Z o179 .z Z <| xmf Z Z Z Z <| xnc Z Z Z <| xfa Z Z Z f220_1 <| xst Z Z Z Z o130 Z (.s .z) Z (.s .z) pend0 <| X.nil <| T.seq <| tx [0,1] nf Z Z ?_
 refine xld Z Z Z o179 .z Z <| xas Z Z Z <| X.nil <| T.ret1 Z (fun W D h => ?_)
 obtain ⟨D', h1, h2⟩ := blks_pick0 [1, 2, 0] (by decide) h
 exact ⟨D', ⟨_, rfl, rfl, _, _, ⟨_, _, rfl, rfl⟩, h1⟩, h2⟩
set_option maxHeartbeats 1000000 in
theorem ct_steal {C : Cx} {l : Wds} {e : DqE} : Cn C 196 [.agg #[.int .i64 e.top, .int .i64 e.bottom, .int .i64 e.entry, .int .i64 e.room]] l emp l (fun q => DqR q (.steal e)) := by
 refine Ct.of Tryz.func196 rfl Tryz.ntmps196 (by simp) loc_emp ?_
 intro w0 D0
 refine T.seq <| tx [0,1] (ct [0]) Z Z <| xbx Z Z Z Z (fun _ => pend0) (fun b0 => ?_)
 refine xas Z Z Z <| X.nil <| T.seq <| tx [0,1,2] (ct [1]) Z Z <| xlda Z Z Z m185 .z Z <| xcn Z Z Z Z g134 (ct_begun_steal (wv := 0)) (fun _ => loc_DqR) (fun _ => pend0) (fun q1 => ?_)
 refine xas Z Z Z <| X.nil <| T.ret1 Z (fun W D h => ?_)
 obtain ⟨D', h1, h2⟩ := blks_tail h
 exact ⟨D', ⟨_, rfl, rfl, h1⟩, h2⟩
theorem Dq_is {d : Nat} {m : Dq} {nv : Value} {RN : Asr} (h : DqNx d m nv RN) : NxIs nv (decide (m.next = .nil)) := by
 unfold DqNx at h
 split at h <;> rename_i hn <;> rw [hn] <;> first
  | (obtain ⟨rfl, -⟩ := h; exact .inl ⟨rfl, rfl⟩)
  | (obtain ⟨rfl, -⟩ := h; exact .inr ⟨_, _, _, rfl, rfl⟩)
  | (obtain ⟨b1, b2, rfl, -⟩ := h; exact .inr ⟨_, _, _, rfl, rfl⟩)
set_option maxHeartbeats 1000000 in
theorem dq_Step {C : Cx} {d : Nat} {m m' : Dq} {l l' : Wds} (hrun : DqRun C d m l m' l') : Cv C 138 [ptr d, ptr C.s] l (DqR d m) (.bool (decide (m'.next = .nil))) l' (DqR d m') := by
 refine Ct.of Tryz.func138 rfl Tryz.ntmps138 (by simp) loc_DqR ?_
 intro w0 D0
 refine T.mch (H := []) loc_DqNx ?_
 intro nv RN hN hl
 obtain ⟨fid, fs, cs, rfl, hg, hc⟩ := hrun nv RN hN
 refine T.seq <| tx [0] nf Z Z <| xas Z Z Z <| X.nil <| T.seq <| T.seq <| tx [0,1,2,3,4,5,6,7,8] nf Z Z <| xmv Z Z Z <| xnp Z Z Z Z u179_dPtr <| xmv Z Z Z <| xmv Z Z Z <| xnc Z Z Z <| xfa Z Z Z f220_1 <| xld Z Z Z o130 .z Z <| xnf Z Z Z Z u130_dFun ?_
 refine xpk Z Z Z Z <| X.nil <| T.no Z <| T.skip <| T.seq <| tx [0,1,2,3,4,5] (ct [5]) Z Z <| xmv Z Z Z <| xnc Z Z Z <| xfa Z Z Z f220_1 <| xld Z Z Z o130 .z Z <| xmv Z Z Z <| xcf (H1 := []) (H2 := [_]) Z Z Z Z hg Z hc loc_DqR pend0 <| X.nil <| T.seq ?_
 refine T.mch loc_DqNx ?_
 rintro nv' RN' hN' hl'
 refine tx [0,1,2,3,4,5] nf Z Z <| xmv Z Z Z <| xnc Z Z Z <| xfa Z Z Z f220_1 <| xld Z Z Z o130 .z Z <| xbo Z Z Z Z (nx_gd (Dq_is hN')) (nx_eq (Dq_is hN') u130_dFun) <| xas Z Z Z <| X.nil <| T.ret1 Z (fun W D h => ?_)
 refine ⟨D, ⟨rfl, rfl, nv', RN', hN', h⟩, fun _ hk => hk⟩
set_option maxHeartbeats 1000000 in
theorem dq_Step0 {C : Cx} {d : Nat} {m : Dq} {l : Wds} (hn : m.next = .nil) : Cv C 138 [ptr d, ptr C.s] l (DqR d m) (.bool true) l (DqR d m) := by
 refine Ct.of Tryz.func138 rfl Tryz.ntmps138 (by simp) loc_DqR ?_
 intro w0 D0
 refine T.mch (H := []) loc_DqNx ?_
 intro nv RN hN hl
 have hi := Dq_is hN
 rw [hn] at hi
 refine T.seq <| tx [0] nf Z Z <| xas Z Z Z <| X.nil <| T.seq <| T.seq <| tx [0,1,2,3,4,5,6,7,8] nf Z Z <| xmv Z Z Z <| xnp Z Z Z Z u179_dPtr <| xmv Z Z Z <| xmv Z Z Z <| xnc Z Z Z <| xfa Z Z Z f220_1 <| xld Z Z Z o130 .z Z ?_
 refine xbo Z Z Z Z (nx_gd hi) (nx_eq hi u130_dFun) <| xpk Z Z Z Z <| X.nil <| T.yes Z <| T.seq <| tx [0] nf Z Z <| xas Z Z Z <| X.nil <| T.ret1 Z (fun W D h => ?_)
 exact ⟨D, ⟨rfl, rfl, nv, RN, hN, h⟩, fun _ hk => hk⟩
set_option maxHeartbeats 1000000 in
theorem ct_Result {C : Cx} {d : Nat} {m : Dq} {l : Wds} (hn : m.next = .nil) : Cv C 139 [ptr d] l (DqR d m) (.tuple #[.int .i64 m.out, .int .u64 m.w]) l (DqR d m) := by
 refine Ct.of Tryz.func139 rfl Tryz.ntmps139 (by simp) loc_DqR ?_
 intro w0 D0
 refine T.mch (H := []) loc_DqNx ?_
 intro nv RN hN hl
 have hi := Dq_is hN
 rw [hn] at hi
 refine T.seq <| tx [0,1] nf Z Z <| xas Z Z Z <| xas Z Z Z <| X.nil <| T.seq <| T.seq <| tx [0,1,2,3,4,5,6,7,8] nf Z Z <| xmv Z Z Z <| xnp Z Z Z Z u179_dPtr <| xmv Z Z Z <| xmv Z Z Z <| xnc Z Z Z <| xfa Z Z Z f220_1 <| xld Z Z Z o130 .z Z ?_
 refine xbo Z Z Z Z (nx_gd hi) (nx_ne hi u130_dFun) <| xpk Z Z Z Z <| X.nil <| T.no Z <| T.skip <| T.seq <| T.any (ord := [0, 1, 2, 3, 4, 5, 6, 7, 8, 9]) (lo := (fun _ => false)) (ef := (fun _ => false)) (by kernel_rfl) (fun _ h => h.drew) <| xmv Z Z Z ?_
 refine xnc Z Z Z <| xfa Z Z Z f220_5 <| xld Z Z Z o3 .z Z <| xmv Z Z Z <| xnc Z Z Z <| xfa Z Z Z f220_4 <| xld Z Z Z o90 .z Z <| xas Z Z Z <| xas Z Z Z <| X.nil <| T.ret2 Z (fun W D h => ?_)
 exact ⟨D, ⟨rfl, rfl, nv, RN, hN, h⟩, fun _ hk => hk⟩
theorem dq_run {C : Cx} {d : Nat} {m : Dq} {l : Wds} (hm : m.Ok) (hr : ∀ a, u64R (ld l a)) (hn : m.next ≠ .nil) : DqRun C d m l (m.step l).1 (m.step l).2 := by
 cases h : m.next with
 | nil => exact (hn h).elim
 | pushFirst => exact dq_pushFirst h
 | popFirst => exact dq_popFirst h
 | stealFirst => exact dq_stealFirst h
 | pushTop => exact dq_pushTop hm hr h
 | pushEntry => exact dq_pushEntry hm hr h
 | pushEnd => exact dq_pushEnd hm hr h
 | popDown => exact dq_popDown hm hr h
 | popTop => exact dq_popTop hm hr h
 | popEntry => exact dq_popEntry hm hr h
 | popSwap => exact dq_popSwap hm hr h
 | popBack => exact dq_popBack hm hr h
 | stealBottom => exact dq_stealBottom hm hr h
 | stealEntry => exact dq_stealEntry hm hr h
 | stealSwap => exact dq_stealSwap hm hr h
theorem ct_dqStep {C : Cx} {d : Nat} {m : Dq} {l : Wds} (hm : m.Ok) (hr : ∀ a, u64R (ld l a)) : Cv C 138 [ptr d, ptr C.s] l (DqR d m) (.bool (decide ((m.step l).1.next = .nil))) (m.step l).2 (DqR d (m.step l).1) := by
 by_cases hn : m.next = .nil
 ·have e : m.step l = (m, l) := by unfold Dq.step; rw [hn]
  rw [e]
  simp only [hn, decide_true]
  exact dq_Step0 hn
 ·exact dq_Step (dq_run hm hr hn)
theorem w64_u64 (x : Int) : u64R (w64 x) := w64_rng x
theorem Dq.step_ok {m : Dq} {l : Wds} (hm : m.Ok) (hr : ∀ a, u64R (ld l a)) : (m.step l).1.Ok := by
 obtain ⟨h1, h2, h3, h4, h5⟩ := hm
 have h0 : u64R 0 := by unfold u64R; omega
 unfold Dq.step
 split <;> (try split) <;> exact ⟨h1, h2, by first | exact h3 | exact hr _ | exact w64_u64 _, by first | exact h4 | exact hr _, by first | exact h5 | exact h0 | exact hr _⟩
theorem Dq.step_rng {m : Dq} {l : Wds} (hm : m.Ok) (hr : ∀ i, 0 ≤ l.getD i 0 ∧ l.getD i 0 ≤ 18446744073709551615) : ∀ i, 0 ≤ (m.step l).2.getD i 0 ∧ (m.step l).2.getD i 0 ≤ 18446744073709551615 := by
 have hp : ∀ a v, u64R v → ∀ i, 0 ≤ (put l a v).getD i 0 ∧ (put l a v).getD i 0 ≤ 18446744073709551615 := fun a v hv => by
  unfold put
  split
  ·exact put_rng hr _ v hv
  ·exact hr
 have hc : ∀ a o v, u64R v → ∀ i, 0 ≤ (cas l a o v).getD i 0 ∧ (cas l a o v).getD i 0 ≤ 18446744073709551615 := fun a o v hv => by
  unfold cas
  split
  ·exact hp a v hv
  ·exact hr
 unfold Dq.step
 split <;> (try split) <;> first | exact hr | exact hp _ _ hm.w | exact hp _ _ hm.b | exact hp _ _ (w64_u64 _) | exact hc _ _ _ (w64_u64 _)
set_option maxHeartbeats 1000000 in
theorem ct_Ends {C : Cx} {l : Wds} {i : Int} : Cv C 105 [ptr C.m, .int .i64 i] l emp (.agg #[.int .i64 (C.M.Top i), .int .i64 (C.M.Bottom i), .int .i64 (C.M.Entry i 0), .int .i64 C.M.deque]) l emp := by
 refine Ct.of Tryz.func105 rfl Tryz.ntmps105 (by simp) loc_emp ?_
 intro w0 D0
 refine T.seq <| tx [0] (ct [0]) Z Z <| xal Z Z z185 (fun _ => pend0) (fun b0 => ?_)
 refine X.nil <| T.seq <| tx [0,1,2,3,4,5,6,7,8,9,10,11,12,13] (ct [13]) Z Z <| xmv Z Z Z <| xmv Z Z Z <| xcq Z Z Z Z g57 (ct_Top loc_emp) loc_emp <| xmv Z Z Z <| xmv Z Z Z <| xcq Z Z Z Z g136 (ct_Bottom loc_emp) loc_emp <| xmv Z Z Z <| xmv Z Z Z ?_
 refine xcq Z Z Z Z g137 (ct_Entry loc_emp) loc_emp <| xmv Z Z Z <| xcq Z Z Z Z g115 (ct_Config) loc_emp <| xfd Z Z Z f24_3 t24_3 o3 Z <| xbd Z Z Z l185 z185 Z <| xsta Z Z Z Z m185 Z Z .z (Nat.le_of_ble_eq_true Z) .z pend0 <| X.nil ?_
 refine T.retc Z Z m185 .z Z (fun W D h => ?_)
 obtain ⟨D', h1, h2⟩ := blks_tail h
 exact ⟨D', ⟨rfl, rfl, h1⟩, h2⟩
def atF (node : Bool) : Nat := bif node then 36 else 54
def St.cs (C : Cx) (m : St) (tr : Int) (nv : Value) : List Value := [.int .i64 m.head, .func (.func (atF m.node)) #[ptr C.m] #[], .int .u32 m.item, .int .u64 m.h, nv, .int .u32 m.link, .int .i64 tr]
def StNx (d : Nat) (m : St) (nv : Value) (RN : Asr) : Prop := match m.next with
 | .nil => nv = .nilFunc ∧ RN = emp
 | .pushHead => nv = fm 212 d ∧ RN = emp
 | .pushLink => nv = fm 234 d ∧ RN = emp
 | .pushSwap => nv = fm 246 d ∧ RN = emp
 | .popHead => nv = fm 215 d ∧ RN = emp
 | .popLink => nv = fm 235 d ∧ RN = emp
 | .popSwap => nv = fm 247 d ∧ RN = emp
theorem loc_StNx {d : Nat} {m : St} (nv : Value) (RN : Asr) (h : StNx d m nv RN) : Loc RN := by
 unfold StNx at h
 split at h <;> (obtain ⟨-, rfl⟩ := h; exact loc_emp)
theorem St_is {d : Nat} {m : St} {nv : Value} {RN : Asr} (h : StNx d m nv RN) : NxIs nv (decide (m.next = .nil)) := by
 unfold StNx at h
 split at h <;> rename_i hn <;> rw [hn] <;> obtain ⟨rfl, -⟩ := h <;> first | exact .inl ⟨rfl, rfl⟩ | exact .inr ⟨_, _, _, rfl, rfl⟩
def StR (C : Cx) (d : Nat) (m : St) : Asr := fun D w => ∃ tr : Int, Mch 248 d (m.cs C tr) (StNx d m) D w
theorem loc_StR {C : Cx} {d : Nat} {m : St} : Loc (StR C d m) := loc_ex fun _ => loc_Mch loc_StNx
def u32R (x : Int) : Prop := 0 ≤ x ∧ x ≤ 4294967295
structure St.Ok (m : St) : Prop where
 item : u32R m.item
 h : u64R m.h
 link : u32R m.link
def StRun (C : Cx) (d : Nat) (m : St) (l : Wds) (m' : St) (l' : Wds) : Prop := ∀ tr nv RN, StNx d m nv RN → ∃ fid fs cs, nv = .func (.func fid) (List.toArray fs) (List.toArray cs) ∧ fnB fid = true ∧ Cv C fid (fs ++ [ptr C.s] ++ cs) l (blks [⟨d, 248, m.cs C tr nv⟩] RN) (.tuple #[]) l' (StR C d m')
theorem fnB_at (node : Bool) : fnB (atF node) = true := by cases node <;> kernel_rfl
theorem ct_at {C : Cx} {l : Wds} {R : Asr} {node : Bool} {i : Int} : Cv C (atF node) [ptr C.m, .int .i64 i] l R (.int .i64 (C.M.link node i)) l R := by
 cases node
 ·exact ct_Link
 ·exact ct_Next
theorem turn_rng {h k : Int} (hk : u32R k) : u64R (turn h k) := pair_rng (w32_rng _) hk
theorem f248_0 : fld 248 0 0 = true := by kernel_rfl
theorem f248_1 : fld 248 1 1 = true := by kernel_rfl
theorem f248_2 : fld 248 2 2 = true := by kernel_rfl
theorem f248_3 : fld 248 3 3 = true := by kernel_rfl
theorem f248_4 : fld 248 4 4 = true := by kernel_rfl
theorem f248_5 : fld 248 5 5 = true := by kernel_rfl
theorem f248_6 : fld 248 6 6 = true := by kernel_rfl
theorem g144 : fnB 144 = true := by kernel_rfl
theorem g207 : fnB 207 = true := by kernel_rfl
theorem g212 : fnB 212 = true := by kernel_rfl
theorem g215 : fnB 215 = true := by kernel_rfl
theorem g233 : fnB 233 = true := by kernel_rfl
theorem g234 : fnB 234 = true := by kernel_rfl
theorem g235 : fnB 235 = true := by kernel_rfl
theorem g246 : fnB 246 = true := by kernel_rfl
theorem g247 : fnB 247 = true := by kernel_rfl
theorem g256 : fnB 256 = true := by kernel_rfl
theorem l248 : layB 248 [(0, 1), (1, 1), (2, 1), (3, 1), (4, 1), (5, 1), (6, 1)] = true := by kernel_rfl
theorem o115 : one 115 = true := by kernel_rfl
theorem o138 : one 138 = true := by kernel_rfl
theorem u115_dIntu32 : undIs 115 (dInt .u32) = true := by kernel_rfl
theorem u115_fun_true : undIs 115 (fun _ => true) = true := by kernel_rfl
theorem u191_dPtr : undIs 191 (dPtr) = true := by kernel_rfl
theorem z248 : zer 248 = some [.int .i64 0, .nilFunc, .int .u32 0, .int .u64 0, .nilFunc, .int .u32 0, .int .i64 0] := by kernel_rfl
set_option maxHeartbeats 1000000 in
theorem ct_stLook {C : Cx} {l : Wds} {d : Nat} {Hx : List Bk} {R : Asr} (hl : Loc R) {av nx : Value} {hd it hh lk0 tr : Int} (hr : ∀ a, u64R (ld l a)) : Cv C 233 [ptr d, ptr C.s] l (blks (⟨d, 248, [.int .i64 hd, av, .int .u32 it, .int .u64 hh, nx, .int .u32 lk0, .int .i64 tr]⟩ :: Hx) R) (.int .u32 (lo (ld l hd))) (l) (blks (⟨d, 248, [.int .i64 hd, av, .int .u32 it, .int .u64 (ld l hd), nx, .int .u32 lk0, .int .i64 (IntKind.i64.wrap (tr + 1))]⟩ :: Hx) R) := by
 refine Ct.of Tryz.func233 rfl Tryz.ntmps233 (by simp) (loc_blks hl _) ?_
 intro w0 D0
 refine T.conv (fun w h => Sy.opens (H2 := _ :: Hx) h hl) <| T.seq <| tx [0] nf Z Z <| xas Z Z Z <| X.nil <| T.seq <| tx [0,1,2,3,4,5,6,7] (ct [7]) Z Z <| xmv Z Z Z <| xnc Z Z Z <| xfa Z Z Z f248_6 <| xld Z Z Z o3 .z Z <| xar Z Z Z Z Z <| xnc Z Z Z ?_
 refine xfa Z Z Z f248_6 <| xst Z Z Z Z o3 Z .z Z .z pend0 <| X.nil <| T.seq <| tx [0,1,2,3,4,5,6,7,8,9] (ct [9]) Z Z <| xmv Z Z Z <| xmv Z Z Z <| xmv Z Z Z <| xnc Z Z Z <| xfa Z Z Z f248_0 <| xld Z Z Z o3 .z Z <| xcq Z Z Z Z g32 (ct_Load hl) hl ?_
 refine xnc Z Z Z <| xfa Z Z Z f248_3 <| xst Z Z Z Z o90 Z .z Z .z pend0 <| X.nil <| T.seq <| tx [0,1,2,3,4,5,6,7,8,9] nf Z Z <| xmv Z Z Z <| xnc Z Z Z <| xfa Z Z Z f248_3 <| xld Z Z Z o90 .z Z <| xcq Z Z Z Z g144 (ct_Split hl (hr _)) hl <| xmv Z Z Z ?_
 refine xex Z Z Z Z <| xex Z Z Z Z <| xas Z Z Z <| xas Z Z Z <| X.nil <| T.seq <| tx [0,1] nf Z Z <| xmv Z Z Z <| xas Z Z Z <| X.nil <| T.ret1 Z (fun W D h => ?_)
 exact ⟨D, ⟨rfl, rfl, h⟩, fun _ hk => hk⟩
set_option maxHeartbeats 1000000 in
theorem ct_stTurn {C : Cx} {l : Wds} {d : Nat} {Hx : List Bk} {R : Asr} (hl : Loc R) {av nx : Value} {hd it hh lk0 tr : Int} {k : Int} {again : Value} (hc : isCell again = true) (h1 : u64R hh) (h2 : u32R k) : Cv C 256 [ptr d, ptr C.s, .int .u32 k, again] l (blks (⟨d, 248, [.int .i64 hd, av, .int .u32 it, .int .u64 hh, nx, .int .u32 lk0, .int .i64 tr]⟩ :: Hx) R) (.tuple #[]) (cas l hd hh (turn hh k)) (blks (⟨d, 248, [.int .i64 hd, av, .int .u32 it, .int .u64 hh, bif casB l hd hh then .nilFunc else again, .int .u32 lk0, .int .i64 tr]⟩ :: Hx) R) := by
 refine Ct.of Tryz.func256 rfl Tryz.ntmps256 (by simp) (loc_blks hl _) ?_
 intro w0 D0
 refine T.conv (fun w h => Sy.opens (H2 := _ :: Hx) h hl) <| T.seq <| tx [0,1,2,3,4] (ct [4]) Z Z <| xmv Z Z Z <| xmv Z Z Z <| xnc Z Z Z <| xfa Z Z Z f248_4 <| xst Z Z Z Z o130 hc .z Z .z pend0 <| X.nil <| T.seq ?_
 refine T.any (ord := [0, 1, 2, 3, 4, 5, 6, 7, 8, 9, 10, 11, 12, 13, 14, 15]) (lo := (fun _ => false)) (ef := (fun i => [15].contains i)) (by kernel_rfl) (fun _ h => h.drew) <| xmv Z Z Z <| xmv Z Z Z <| xnc Z Z Z <| xfa Z Z Z f248_0 <| xld Z Z Z o3 .z Z ?_
 refine xmv Z Z Z <| xnc Z Z Z <| xfa Z Z Z f248_3 <| xld Z Z Z o90 .z Z <| xmv Z Z Z <| xnc Z Z Z <| xfa Z Z Z f248_3 <| xld Z Z Z o90 .z Z <| xmv Z Z Z <| xcq Z Z Z Z g207 (ct_Turn hl h1 h2) hl <| xce Z Z Z Z g175 (ct_Swap hl (turn_rng h2)) hl pend0 ?_
 refine X.nil <| T.cond Z ?_ ?_
 ·intro hb0
  refine tx [0,1,2,3] (ct [3]) Z Z <| xmv Z Z Z <| xnc Z Z Z <| xfa Z Z Z f248_4 <| xst Z Z Z Z o130 Z .z Z .z pend0 <| X.nil <| T.end0 Z (fun W D h => ?_)
  rw [hb0]
  exact ⟨D, ⟨rfl, rfl, h⟩, fun _ hk => hk⟩
 ·intro hb0
  refine T.skip <| T.end0 Z (fun W D h => ?_)
  rw [hb0]
  exact ⟨D, ⟨rfl, rfl, h⟩, fun _ hk => hk⟩
set_option maxHeartbeats 1000000 in
theorem st_pushHead {C : Cx} {d : Nat} {m : St} {l : Wds} (hm : m.Ok) (hr : ∀ a, u64R (ld l a)) (hn : m.next = .pushHead) : StRun C d m l (m.step C.M l).1 (m.step C.M l).2 := by
 obtain ⟨hd, node, item, hh, nx, link⟩ := m
 obtain rfl : nx = .pushHead := hn
 rintro tr nv RN ⟨rfl, rfl⟩
 refine ⟨212, [ptr d], [], rfl, g212, ?_⟩
 refine Ct.of (vs := [ptr d, ptr C.s]) Tryz.func212 rfl Tryz.ntmps212 (by simp) (loc_blks loc_emp _) ?_
 intro w0 D0
 refine T.conv (fun w h => Sy.opens (H2 := [_]) h loc_emp) <| T.seq <| tx [0,1,2,3,4,5,6] (ct [3,6]) Z Z <| xmv Z Z Z <| xmv Z Z Z <| xmv Z Z Z <| xcb (H1 := []) (H2 := _ :: _) (H2' := _ :: _) Z Z Z Z g233 Z (ct_stLook loc_emp hr) loc_emp Z pend0 ?_
 refine xnc Z Z Z <| xfa Z Z Z f248_5 <| xst Z Z Z Z o115 Z .z Z .z pend0 <| X.nil <| tx [0,1,2,3,4,5] (ct [5]) Z Z <| xmv Z Z Z <| xmv Z Z Z <| xmf Z Z Z Z <| xnc Z Z Z <| xfa Z Z Z f248_4 <| xst Z Z Z Z o130 Z .z Z .z pend0 <| X.nil ?_
 refine T.end0 Z (fun W D h => ?_)
 exact ⟨D, ⟨rfl, rfl, _, _, _, ⟨rfl, rfl⟩, h⟩, fun _ hk => hk⟩
set_option maxHeartbeats 1000000 in
theorem st_pushLink {C : Cx} {d : Nat} {m : St} {l : Wds} (hm : m.Ok) (hr : ∀ a, u64R (ld l a)) (hn : m.next = .pushLink) : StRun C d m l (m.step C.M l).1 (m.step C.M l).2 := by
 obtain ⟨hd, node, item, hh, nx, link⟩ := m
 obtain rfl : nx = .pushLink := hn
 rintro tr nv RN ⟨rfl, rfl⟩
 refine ⟨234, [ptr d], [], rfl, g234, ?_⟩
 refine Ct.of (vs := [ptr d, ptr C.s]) Tryz.func234 rfl Tryz.ntmps234 (by simp) (loc_blks loc_emp _) ?_
 intro w0 D0
 refine T.conv (fun w h => Sy.opens (H2 := [_]) h loc_emp) <| T.seq <| T.any (ord := [0, 1, 2, 3, 4, 5, 6, 7, 8, 9, 10, 11, 12, 13, 14, 15, 16]) (lo := (fun _ => false)) (ef := (fun i => [16].contains i)) (by kernel_rfl) (fun _ h => h.drew) <| xmv Z Z Z ?_
 refine xmv Z Z Z <| xnc Z Z Z <| xfa Z Z Z f248_1 <| xld Z Z Z o138 .z Z <| xmv Z Z Z <| xnc Z Z Z <| xfa Z Z Z f248_2 <| xld Z Z Z o115 .z Z <| xcvc Z Z Z u3_dInti64 u115_fun_true (wrap64i32 hm.item) <| xcq Z Z Z Z (fnB_at _) ct_at loc_emp <| xmv Z Z Z ?_
 refine xnc Z Z Z <| xfa Z Z Z f248_5 <| xld Z Z Z o115 .z Z <| xcvc Z Z Z u90_dIntu64 u115_fun_true (wrap64u32 hm.link) <| xce Z Z Z Z g148 (ct_Put loc_emp (show u64R link from ⟨hm.link.1, by have := hm.link.2; simp only at this; omega⟩)) loc_emp pend0 ?_
 refine X.nil <| tx [0,1,2,3,4,5] (ct [5]) Z Z <| xmv Z Z Z <| xmv Z Z Z <| xmf Z Z Z Z <| xnc Z Z Z <| xfa Z Z Z f248_4 <| xst Z Z Z Z o130 Z .z Z .z pend0 <| X.nil <| T.end0 Z (fun W D h => ?_)
 exact ⟨D, ⟨rfl, rfl, _, _, _, ⟨rfl, rfl⟩, h⟩, fun _ hk => hk⟩
set_option maxHeartbeats 1000000 in
theorem st_pushSwap {C : Cx} {d : Nat} {m : St} {l : Wds} (hm : m.Ok) (hr : ∀ a, u64R (ld l a)) (hn : m.next = .pushSwap) : StRun C d m l (m.step C.M l).1 (m.step C.M l).2 := by
 obtain ⟨hd, node, item, hh, nx, link⟩ := m
 obtain rfl : nx = .pushSwap := hn
 rintro tr nv RN ⟨rfl, rfl⟩
 refine ⟨246, [ptr d], [], rfl, g246, ?_⟩
 refine Ct.of (vs := [ptr d, ptr C.s]) Tryz.func246 rfl Tryz.ntmps246 (by simp) (loc_blks loc_emp _) ?_
 intro w0 D0
 refine T.conv (fun w h => Sy.opens (H2 := [_]) h loc_emp) <| tx [0,1,2,3,4,5,6,7,8] (ct [8]) Z Z <| xmv Z Z Z <| xmv Z Z Z <| xmv Z Z Z <| xnc Z Z Z <| xfa Z Z Z f248_2 <| xld Z Z Z o115 .z Z <| xmv Z Z Z <| xmf Z Z Z Z ?_
 refine xcb (H1 := []) (H2 := _ :: _) (H2' := _ :: _) Z Z Z Z g256 Z (ct_stTurn loc_emp Z hm.h hm.item) loc_emp Z pend0 <| X.nil <| T.end0 Z (fun W D h => ?_)
 cases hB : casB l hd hh with
 | true =>
  rw [hB] at h
  rw [show (⟨hd, node, item, hh, .pushSwap, link⟩ : St).step C.M l = _ from if_pos hB]
  exact ⟨D, ⟨rfl, rfl, _, _, _, ⟨rfl, rfl⟩, h⟩, fun _ hk => hk⟩
 | false =>
  rw [hB] at h
  rw [show (⟨hd, node, item, hh, .pushSwap, link⟩ : St).step C.M l = _ from if_neg (by rw [hB]; exact Bool.false_ne_true)]
  exact ⟨D, ⟨rfl, rfl, _, _, _, ⟨rfl, rfl⟩, h⟩, fun _ hk => hk⟩
set_option maxHeartbeats 1000000 in
theorem st_popHead {C : Cx} {d : Nat} {m : St} {l : Wds} (hm : m.Ok) (hr : ∀ a, u64R (ld l a)) (hn : m.next = .popHead) : StRun C d m l (m.step C.M l).1 (m.step C.M l).2 := by
 obtain ⟨hd, node, item, hh, nx, link⟩ := m
 obtain rfl : nx = .popHead := hn
 rintro tr nv RN ⟨rfl, rfl⟩
 refine ⟨215, [ptr d], [], rfl, g215, ?_⟩
 refine Ct.of (vs := [ptr d, ptr C.s]) Tryz.func215 rfl Tryz.ntmps215 (by simp) (loc_blks loc_emp _) ?_
 intro w0 D0
 refine T.conv (fun w h => Sy.opens (H2 := [_]) h loc_emp) <| T.seq <| tx [0,1,2,3,4,5,6] (ct [3,6]) Z Z <| xmv Z Z Z <| xmv Z Z Z <| xmv Z Z Z <| xcb (H1 := []) (H2 := _ :: _) (H2' := _ :: _) Z Z Z Z g233 Z (ct_stLook loc_emp hr) loc_emp Z pend0 ?_
 refine xnc Z Z Z <| xfa Z Z Z f248_2 <| xst Z Z Z Z o115 Z .z Z .z pend0 <| X.nil <| T.seq <| tx [0,1,2,3,4,5] (ct [5]) Z Z <| xmv Z Z Z <| xmv Z Z Z <| xmf Z Z Z Z <| xnc Z Z Z <| xfa Z Z Z f248_4 <| xst Z Z Z Z o130 Z .z Z .z pend0 <| X.nil <| T.seq ?_
 refine tx [0,1,2,3,4] nf Z Z <| xmv Z Z Z <| xnc Z Z Z <| xfa Z Z Z f248_2 <| xld Z Z Z o115 .z Z <| xcm Z Z Z Z Z Z <| X.nil <| T.cond Z ?_ ?_
 ·intro hb0
  refine tx [0,1,2,3] (ct [3]) Z Z <| xmv Z Z Z <| xnc Z Z Z <| xfa Z Z Z f248_4 <| xst Z Z Z Z o130 Z .z Z .z pend0 <| X.nil <| T.end0 Z (fun W D h => ?_)
  rw [show (⟨hd, node, item, hh, .popHead, link⟩ : St).step C.M l = _ from if_pos (eq_of_beq hb0)]
  exact ⟨D, ⟨rfl, rfl, _, _, _, ⟨rfl, rfl⟩, h⟩, fun _ hk => hk⟩
 ·intro hb0
  refine T.skip <| T.end0 Z (fun W D h => ?_)
  rw [show (⟨hd, node, item, hh, .popHead, link⟩ : St).step C.M l = _ from if_neg (ne_of_beq_false hb0)]
  exact ⟨D, ⟨rfl, rfl, _, _, _, ⟨rfl, rfl⟩, h⟩, fun _ hk => hk⟩
set_option maxHeartbeats 1000000 in
theorem st_popLink {C : Cx} {d : Nat} {m : St} {l : Wds} (hm : m.Ok) (hr : ∀ a, u64R (ld l a)) (hn : m.next = .popLink) : StRun C d m l (m.step C.M l).1 (m.step C.M l).2 := by
 obtain ⟨hd, node, item, hh, nx, link⟩ := m
 obtain rfl : nx = .popLink := hn
 rintro tr nv RN ⟨rfl, rfl⟩
 refine ⟨235, [ptr d], [], rfl, g235, ?_⟩
 refine Ct.of (vs := [ptr d, ptr C.s]) Tryz.func235 rfl Tryz.ntmps235 (by simp) (loc_blks loc_emp _) ?_
 intro w0 D0
 refine T.conv (fun w h => Sy.opens (H2 := [_]) h loc_emp) <| T.seq <| T.any (ord := [0, 1, 2, 3, 4, 5, 6, 7, 8, 9, 10, 11, 12, 13, 14, 15, 16]) (lo := (fun _ => false)) (ef := (fun i => [16].contains i)) (by kernel_rfl) (fun _ h => h.drew) <| xmv Z Z Z ?_
 refine xmv Z Z Z <| xmv Z Z Z <| xnc Z Z Z <| xfa Z Z Z f248_1 <| xld Z Z Z o138 .z Z <| xmv Z Z Z <| xnc Z Z Z <| xfa Z Z Z f248_2 <| xld Z Z Z o115 .z Z <| xcvc Z Z Z u3_dInti64 u115_fun_true (wrap64i32 hm.item) <| xcq Z Z Z Z (fnB_at _) ct_at loc_emp ?_
 refine xcq Z Z Z Z g32 (ct_Load loc_emp) loc_emp <| xcvc Z Z Z u115_dIntu32 u90_fun_true (wrap32u _) <| xnc Z Z Z <| xfa Z Z Z f248_5 <| xst Z Z Z Z o115 Z .z Z .z pend0 <| X.nil <| tx [0,1,2,3,4,5] (ct [5]) Z Z <| xmv Z Z Z <| xmv Z Z Z <| xmf Z Z Z Z ?_
 refine xnc Z Z Z <| xfa Z Z Z f248_4 <| xst Z Z Z Z o130 Z .z Z .z pend0 <| X.nil <| T.end0 Z (fun W D h => ?_)
 exact ⟨D, ⟨rfl, rfl, _, _, _, ⟨rfl, rfl⟩, h⟩, fun _ hk => hk⟩
set_option maxHeartbeats 1000000 in
theorem st_popSwap {C : Cx} {d : Nat} {m : St} {l : Wds} (hm : m.Ok) (hr : ∀ a, u64R (ld l a)) (hn : m.next = .popSwap) : StRun C d m l (m.step C.M l).1 (m.step C.M l).2 := by
 obtain ⟨hd, node, item, hh, nx, link⟩ := m
 obtain rfl : nx = .popSwap := hn
 rintro tr nv RN ⟨rfl, rfl⟩
 refine ⟨247, [ptr d], [], rfl, g247, ?_⟩
 refine Ct.of (vs := [ptr d, ptr C.s]) Tryz.func247 rfl Tryz.ntmps247 (by simp) (loc_blks loc_emp _) ?_
 intro w0 D0
 refine T.conv (fun w h => Sy.opens (H2 := [_]) h loc_emp) <| tx [0,1,2,3,4,5,6,7,8] (ct [8]) Z Z <| xmv Z Z Z <| xmv Z Z Z <| xmv Z Z Z <| xnc Z Z Z <| xfa Z Z Z f248_5 <| xld Z Z Z o115 .z Z <| xmv Z Z Z <| xmf Z Z Z Z ?_
 refine xcb (H1 := []) (H2 := _ :: _) (H2' := _ :: _) Z Z Z Z g256 Z (ct_stTurn loc_emp Z hm.h hm.link) loc_emp Z pend0 <| X.nil <| T.end0 Z (fun W D h => ?_)
 cases hB : casB l hd hh with
 | true =>
  rw [hB] at h
  rw [show (⟨hd, node, item, hh, .popSwap, link⟩ : St).step C.M l = _ from if_pos hB]
  exact ⟨D, ⟨rfl, rfl, _, _, _, ⟨rfl, rfl⟩, h⟩, fun _ hk => hk⟩
 | false =>
  rw [hB] at h
  rw [show (⟨hd, node, item, hh, .popSwap, link⟩ : St).step C.M l = _ from if_neg (by rw [hB]; exact Bool.false_ne_true)]
  exact ⟨D, ⟨rfl, rfl, _, _, _, ⟨rfl, rfl⟩, h⟩, fun _ hk => hk⟩
set_option maxHeartbeats 1000000 in
theorem st_Step {C : Cx} {d : Nat} {m m' : St} {l l' : Wds} (hrun : StRun C d m l m' l') : Cv C 260 [ptr d, ptr C.s] l (StR C d m) (.bool (decide (m'.next = .nil))) l' (StR C d m') := by
 refine Ct.of Tryz.func260 rfl Tryz.ntmps260 (by simp) loc_StR ?_
 intro w0 D0
 refine T.ex (fun _ => loc_Mch loc_StNx) ?_
 intro tr
 refine T.mch (H := []) loc_StNx ?_
 intro nv RN hN hl
 obtain ⟨fid, fs, cs, rfl, hg, hc⟩ := hrun tr nv RN hN
 refine T.seq <| tx [0] nf Z Z <| xas Z Z Z <| X.nil <| T.seq <| T.seq <| tx [0,1,2,3,4,5,6,7,8] nf Z Z <| xmv Z Z Z <| xnp Z Z Z Z u191_dPtr <| xmv Z Z Z <| xmv Z Z Z <| xnc Z Z Z <| xfa Z Z Z f248_4 <| xld Z Z Z o130 .z Z <| xnf Z Z Z Z u130_dFun ?_
 refine xpk Z Z Z Z <| X.nil <| T.no Z <| T.skip <| T.seq <| tx [0,1,2,3,4,5] (ct [5]) Z Z <| xmv Z Z Z <| xnc Z Z Z <| xfa Z Z Z f248_4 <| xld Z Z Z o130 .z Z <| xmv Z Z Z <| xcf (H1 := []) (H2 := [_]) Z Z Z Z hg Z hc loc_StR pend0 <| X.nil <| T.seq ?_
 refine T.ex (fun _ => loc_Mch loc_StNx) ?_
 intro tr'
 refine T.mch loc_StNx ?_
 intro nv' RN' hN' hl'
 refine tx [0,1,2,3,4,5] nf Z Z <| xmv Z Z Z <| xnc Z Z Z <| xfa Z Z Z f248_4 <| xld Z Z Z o130 .z Z <| xbo Z Z Z Z (nx_gd (St_is hN')) (nx_eq (St_is hN') u130_dFun) <| xas Z Z Z <| X.nil <| T.ret1 Z (fun W D h => ?_)
 exact ⟨D, ⟨rfl, rfl, tr', nv', RN', hN', h⟩, fun _ hk => hk⟩
set_option maxHeartbeats 1000000 in
theorem st_Step0 {C : Cx} {d : Nat} {m : St} {l : Wds} (hn : m.next = .nil) : Cv C 260 [ptr d, ptr C.s] l (StR C d m) (.bool true) l (StR C d m) := by
 refine Ct.of Tryz.func260 rfl Tryz.ntmps260 (by simp) loc_StR ?_
 intro w0 D0
 refine T.ex (fun _ => loc_Mch loc_StNx) ?_
 intro tr
 refine T.mch (H := []) loc_StNx ?_
 intro nv RN hN hl
 have hi := St_is hN
 rw [hn] at hi
 refine T.seq <| tx [0] nf Z Z <| xas Z Z Z <| X.nil <| T.seq <| T.seq <| tx [0,1,2,3,4,5,6,7,8] nf Z Z <| xmv Z Z Z <| xnp Z Z Z Z u191_dPtr <| xmv Z Z Z <| xmv Z Z Z <| xnc Z Z Z <| xfa Z Z Z f248_4 <| xld Z Z Z o130 .z Z ?_
 refine xbo Z Z Z Z (nx_gd hi) (nx_eq hi u130_dFun) <| xpk Z Z Z Z <| X.nil <| T.yes Z <| T.seq <| tx [0] nf Z Z <| xas Z Z Z <| X.nil <| T.ret1 Z (fun W D h => ?_)
 exact ⟨D, ⟨rfl, rfl, tr, nv, RN, hN, h⟩, fun _ hk => hk⟩
set_option maxHeartbeats 1000000 in
theorem ct_Item {C : Cx} {d : Nat} {m : St} {l : Wds} (hu : u32R m.item) (hn : m.next = .nil) : Cv C 214 [ptr d] l (StR C d m) (.int .i64 m.item) l (StR C d m) := by
 refine Ct.of Tryz.func214 rfl Tryz.ntmps214 (by simp) loc_StR ?_
 intro w0 D0
 refine T.ex (fun _ => loc_Mch loc_StNx) ?_
 intro tr
 refine T.mch (H := []) loc_StNx ?_
 intro nv RN hN hl
 have hi := St_is hN
 rw [hn] at hi
 refine T.seq <| tx [0] nf Z Z <| xas Z Z Z <| X.nil <| T.seq <| T.seq <| tx [0,1,2,3,4,5,6,7,8] nf Z Z <| xmv Z Z Z <| xnp Z Z Z Z u191_dPtr <| xmv Z Z Z <| xmv Z Z Z <| xnc Z Z Z <| xfa Z Z Z f248_4 <| xld Z Z Z o130 .z Z ?_
 refine xbo Z Z Z Z (nx_gd hi) (nx_ne hi u130_dFun) <| xpk Z Z Z Z <| X.nil <| T.no Z <| T.skip <| T.seq <| tx [0,1,2,3,4,5] nf Z Z <| xmv Z Z Z <| xnc Z Z Z <| xfa Z Z Z f248_2 <| xld Z Z Z o115 .z Z <| xcvc Z Z Z u3_dInti64 u115_fun_true (wrap64i32 hu) ?_
 refine xas Z Z Z <| X.nil <| T.ret1 Z (fun W D h => ?_)
 exact ⟨D, ⟨rfl, rfl, tr, nv, RN, hN, h⟩, fun _ hk => hk⟩
set_option maxHeartbeats 1000000 in
theorem ct_stPop {C : Cx} {l : Wds} {hd : Int} {node : Bool} : Cn C 191 [.int .i64 hd, .func (.func (atF node)) #[ptr C.m] #[]] l emp l (fun q => StR C q (.pop hd node)) := by
 refine Ct.of Tryz.func191 rfl Tryz.ntmps191 (by simp) loc_emp ?_
 intro w0 D0
 refine T.seq <| tx [0] nf Z Z <| xas Z Z Z <| X.nil <| T.seq <| tx [0,1,2,3,4] (ct [3]) Z Z <| xmv Z Z Z <| xmv Z Z Z <| xbd Z Z Z l248 z248 Z <| xbx Z Z Z Z (fun _ => pend0) (fun b0 => ?_)
 refine xas Z Z Z <| X.nil <| T.seq <| tx [0,1,2,3,4,5] (ct [5]) Z Z <| xmv Z Z Z <| xmv Z Z Z <| xmf Z Z Z Z <| xnc Z Z Z <| xfa Z Z Z f248_4 <| xst Z Z Z Z o130 Z .z Z .z pend0 <| X.nil <| T.seq <| tx [0,1] nf Z Z <| xmv Z Z Z <| xas Z Z Z <| X.nil ?_
 refine T.ret1 Z (fun W D h => ?_)
 exact ⟨D, ⟨_, rfl, rfl, _, _, _, ⟨rfl, rfl⟩, h⟩, fun _ hk => hk⟩
set_option maxHeartbeats 1000000 in
theorem ct_stPush {C : Cx} {l : Wds} {hd i : Int} {node : Bool} (hi : u32R i) : Cn C 187 [.int .i64 hd, .func (.func (atF node)) #[ptr C.m] #[], .int .i64 i] l emp l (fun q => StR C q (.push hd node i)) := by
 refine Ct.of Tryz.func187 rfl Tryz.ntmps187 (by simp) loc_emp ?_
 intro w0 D0
 refine T.seq <| tx [0] nf Z Z <| xas Z Z Z <| X.nil <| T.seq <| T.seq <| tx [0,1,2,3,4,5] nf Z Z <| xmv Z Z Z <| xcm (c := false) Z Z Z Z Z (decide_eq_false (by have := hi.1; omega)) <| xmv Z Z Z <| xmv Z Z Z ?_
 refine xcm (c := false) Z Z Z Z Z (decide_eq_false (by have := hi.2; omega)) <| xpk Z Z Z Z <| X.nil <| T.no Z <| T.skip <| T.seq <| tx [0,1,2,3,4,5,6] (ct [5]) Z Z <| xmv Z Z Z <| xmv Z Z Z <| xmv Z Z Z ?_
 refine xcvc Z Z Z u115_dIntu32 u3_fun_true (wrap32u32 hi) <| xbd Z Z Z l248 z248 Z <| xbx Z Z Z Z (fun _ => pend0) (fun b0 => ?_)
 refine xas Z Z Z <| X.nil <| T.seq <| tx [0,1,2,3,4,5] (ct [5]) Z Z <| xmv Z Z Z <| xmv Z Z Z <| xmf Z Z Z Z <| xnc Z Z Z <| xfa Z Z Z f248_4 <| xst Z Z Z Z o130 Z .z Z .z pend0 <| X.nil <| T.seq <| tx [0,1] nf Z Z <| xmv Z Z Z <| xas Z Z Z <| X.nil ?_
 refine T.ret1 Z (fun W D h => ?_)
 exact ⟨D, ⟨_, rfl, rfl, _, _, _, ⟨rfl, rfl⟩, h⟩, fun _ hk => hk⟩
theorem st_run {C : Cx} {d : Nat} {m : St} {l : Wds} (hm : m.Ok) (hr : ∀ a, u64R (ld l a)) (hn : m.next ≠ .nil) : StRun C d m l (m.step C.M l).1 (m.step C.M l).2 := by
 cases h : m.next with
 | nil => exact (hn h).elim
 | pushHead => exact st_pushHead hm hr h
 | pushLink => exact st_pushLink hm hr h
 | pushSwap => exact st_pushSwap hm hr h
 | popHead => exact st_popHead hm hr h
 | popLink => exact st_popLink hm hr h
 | popSwap => exact st_popSwap hm hr h
theorem ct_stStep {C : Cx} {d : Nat} {m : St} {l : Wds} (hm : m.Ok) (hr : ∀ a, u64R (ld l a)) : Cv C 260 [ptr d, ptr C.s] l (StR C d m) (.bool (decide ((m.step C.M l).1.next = .nil))) (m.step C.M l).2 (StR C d (m.step C.M l).1) := by
 by_cases hn : m.next = .nil
 ·have e : m.step C.M l = (m, l) := by unfold St.step; rw [hn]
  rw [e]
  simp only [hn, decide_true]
  exact st_Step0 hn
 ·exact st_Step (st_run hm hr hn)
theorem lo_u32 (x : Int) : u32R (lo x) := lo_rng x
theorem St.step_ok {M : MapM} {m : St} {l : Wds} (hm : m.Ok) (hr : ∀ a, u64R (ld l a)) : (m.step M l).1.Ok := by
 obtain ⟨h1, h2, h3⟩ := hm
 unfold St.step
 split <;> (try split) <;> exact ⟨by first | exact h1 | exact lo_u32 _, by first | exact h2 | exact hr _, by first | exact h3 | exact lo_u32 _ | exact w32_u32 _⟩
def Rng (l : Wds) : Prop := ∀ i, 0 ≤ l.getD i 0 ∧ l.getD i 0 ≤ 18446744073709551615
theorem Rng.ld {l : Wds} (h : Rng l) (a : Int) : u64R (ld l a) := by
 unfold Mo.ld
 split
 ·exact h _
 ·unfold u64R; omega
theorem Rng.put {l : Wds} (h : Rng l) {a v : Int} (hv : u64R v) : Rng (put l a v) := by
 unfold Mo.put
 split
 ·exact put_rng h _ v hv
 ·exact h
theorem Rng.cas {l : Wds} (h : Rng l) {a o v : Int} (hv : u64R v) : Rng (cas l a o v) := by
 unfold Mo.cas
 split
 ·exact h.put hv
 ·exact h
theorem Rng.fad {l : Wds} (h : Rng l) {a n : Int} : Rng (fad l a n) := h.put (w64_u64 _)
theorem St.step_rng {M : MapM} {m : St} {l : Wds} (hm : m.Ok) (hr : Rng l) : Rng (m.step M l).2 := by
 have hl : u64R m.link := ⟨hm.link.1, by have := hm.link.2; omega⟩
 unfold St.step
 split <;> (try split) <;> first | exact hr | exact hr.put hl | exact hr.cas (turn_rng hm.item) | exact hr.cas (turn_rng hm.link)
def u64s (ts : List Int) : List Value := ts.map (.int .u64)
theorem nth_u64s {ts : List Int} {rs : List Value} {j : Nat} (h : j < ts.length) : nth (u64s ts ++ rs) (0 + (j : Int).toNat * 1) = some (.int .u64 (ts.getD j 0)) := by
 rw [nth_eq]
 unfold u64s
 rw [show 0 + (j : Int).toNat * 1 = j by omega, List.getElem?_append_left (by simpa using h)]
 simp [h]
theorem getD_mem {ts : List Int} {j : Nat} (h : j < ts.length) : ts.getD j 0 ∈ ts := by
 rw [List.getD_eq_getElem?_getD, List.getElem?_eq_getElem h]
 exact List.getElem_mem h
theorem len_u32 {ts : List Int} (h : ts.length ≤ 1000) : (0 : Int) ≤ (ts.length : Int) ∧ (ts.length : Int) ≤ 4294967295 := by omega
theorem len_u64 {ts : List Int} (h : ts.length ≤ 1000) : u64R (ts.length : Int) := by unfold u64R; omega
abbrev slv (b n m : Nat) : Value := .slice (some ⟨b, 0, none⟩) n m
def Pk.cs (C : Cx) (x : Pk) (tv iv nv : Value) : List Value := [ptr C.m, tv, .int .i64 x.j, .int .i64 x.p, iv, nv]
def PkNx (C : Cx) (d : Nat) (x : Pk) (tv iv nv : Value) (RN : Asr) : Prop := match x.next with
 | .nil => nv = .nilFunc ∧ RN = emp
 | .spare => nv = fm 228 d ∧ ∃ q b rs m, tv = slv b x.tasks.length m ∧ iv = ptr q ∧ RN = blks [⟨b, 90, u64s x.tasks ++ rs⟩] (StR C q x.inner)
 | .fill => nv = fm 243 d ∧ ∃ b rs m, tv = slv b x.tasks.length m ∧ RN = blks [⟨b, 90, u64s x.tasks ++ rs⟩] emp
 | .many => nv = fm 254 d ∧ ∃ b rs m, tv = slv b x.tasks.length m ∧ RN = blks [⟨b, 90, u64s x.tasks ++ rs⟩] emp
 | .last => nv = fm 189 d ∧ ∃ q, iv = ptr q ∧ RN = StR C q x.inner
theorem loc_PkNx {C : Cx} {d : Nat} {m : Pk} {tv iv : Value} (nv : Value) (RN : Asr) (h : PkNx C d m tv iv nv RN) : Loc RN := by
 unfold PkNx at h
 split at h
 ·obtain ⟨-, rfl⟩ := h; exact loc_emp
 ·obtain ⟨-, q, b, rs, c, -, -, rfl⟩ := h; exact loc_blks loc_StR _
 ·obtain ⟨-, b, rs, c, -, rfl⟩ := h; exact loc_blks loc_emp _
 ·obtain ⟨-, b, rs, c, -, rfl⟩ := h; exact loc_blks loc_emp _
 ·obtain ⟨-, q, -, rfl⟩ := h; exact loc_StR
theorem Pk_is {C : Cx} {d : Nat} {m : Pk} {tv iv nv : Value} {RN : Asr} (h : PkNx C d m tv iv nv RN) : NxIs nv (decide (m.next = .nil)) := by
 unfold PkNx at h
 split at h <;> rename_i hn <;> rw [hn] <;> obtain ⟨rfl, -⟩ := h <;> first | exact .inl ⟨rfl, rfl⟩ | exact .inr ⟨_, _, _, rfl, rfl⟩
structure Pk.Ok (m : Pk) : Prop where
 inner : m.inner.Ok
 ts : ∀ t ∈ m.tasks, u64R t
 len : m.tasks.length ≤ 1000
 j : m.next = .fill → m.j < m.tasks.length
 p : u32R m.p
 sp : m.next = .spare → m.tasks ≠ [] ∧ m.j = 0
def PkR (C : Cx) (d : Nat) (m : Pk) : Asr := fun D w => ∃ tv : Value, ∃ iv : Value, Mch 237 d (m.cs C tv iv) (PkNx C d m tv iv) D w
theorem loc_PkR {C : Cx} {d : Nat} {m : Pk} : Loc (PkR C d m) := loc_ex fun _ => loc_ex fun _ => loc_Mch loc_PkNx
def PkRun (C : Cx) (d : Nat) (m : Pk) (l : Wds) (m' : Pk) (l' : Wds) : Prop := ∀ (tv : Value) (iv : Value) nv RN, PkNx C d m tv iv nv RN → ∃ fid fs cs, nv = .func (.func fid) (List.toArray fs) (List.toArray cs) ∧ fnB fid = true ∧ Cv C fid (fs ++ [ptr C.s] ++ cs) l (blks [⟨d, 237, m.cs C tv iv nv⟩] RN) (.tuple #[]) l' (PkR C d m')
theorem f237_0 : fld 237 0 0 = true := by kernel_rfl
theorem f237_1 : fld 237 1 1 = true := by kernel_rfl
theorem f237_2 : fld 237 2 2 = true := by kernel_rfl
theorem f237_3 : fld 237 3 3 = true := by kernel_rfl
theorem f237_4 : fld 237 4 4 = true := by kernel_rfl
theorem f237_5 : fld 237 5 5 = true := by kernel_rfl
theorem g186 : fnB 186 = true := by kernel_rfl
theorem g187 : fnB 187 = true := by kernel_rfl
theorem g188 : fnB 188 = true := by kernel_rfl
theorem g189 : fnB 189 = true := by kernel_rfl
theorem g191 : fnB 191 = true := by kernel_rfl
theorem g192 : fnB 192 = true := by kernel_rfl
theorem g213 : fnB 213 = true := by kernel_rfl
theorem g214 : fnB 214 = true := by kernel_rfl
theorem g216 : fnB 216 = true := by kernel_rfl
theorem g228 : fnB 228 = true := by kernel_rfl
theorem g243 : fnB 243 = true := by kernel_rfl
theorem g254 : fnB 254 = true := by kernel_rfl
theorem g260 : fnB 260 = true := by kernel_rfl
theorem g54 : fnB 54 = true := by kernel_rfl
theorem l237 : layB 237 [(0, 1), (1, 1), (2, 1), (3, 1), (4, 1), (5, 1)] = true := by kernel_rfl
theorem o191 : one 191 = true := by kernel_rfl
theorem o39 : one 39 = true := by kernel_rfl
theorem o43 : one 43 = true := by kernel_rfl
theorem s43 : slcB 43 90 1 = true := by kernel_rfl
theorem u180_dPtr : undIs 180 (dPtr) = true := by kernel_rfl
theorem u191_dNoIface : undIs 191 (dNoIface) = true := by kernel_rfl
theorem u43_dSlice : undIs 43 (dSlice) = true := by kernel_rfl
theorem z237 : zer 237 = some [.pointer none, .slice none 0 0, .int .i64 0, .int .i64 0, .pointer none, .nilFunc] := by kernel_rfl
theorem mth_st (q : Nat) (w : World) : (method (Tryz.prog.types.size + Made.depth) 191 (ptr q) "Step").run Tryz.prog w = .ok (260, ptr q) w := by kernel_rfl
set_option maxHeartbeats 1000000 in
theorem ct_through {C : Cx} {q : Nat} {m : St} {l : Wds} (hm : m.Ok) (hr : ∀ a, u64R (ld l a)) : Cv C 213 [.iface 191 (ptr q), ptr C.s] l (StR C q m) (.bool (decide ((m.step C.M l).1.next = .nil))) (m.step C.M l).2 (StR C q (m.step C.M l).1) := by
 refine Ct.of Tryz.func213 rfl Tryz.ntmps213 (by simp) loc_StR ?_
 intro w0 D0
 refine T.seq <| tx [0] nf Z Z <| xas Z Z Z <| X.nil <| T.seq <| tx [0,1,2,3] (ct [2]) Z Z <| xmv Z Z Z <| xmv Z Z Z <| xiv Z Z Z Z g260 (fun w => mth_st _ w) (ct_stStep hm hr) loc_StR pend0 <| xas Z Z Z <| X.nil <| T.ret1 Z (fun W D h => ?_)
 exact ⟨D, ⟨rfl, rfl, h⟩, fun _ hk => hk⟩
set_option maxHeartbeats 1000000 in
theorem pk_Step {C : Cx} {d : Nat} {m m' : Pk} {l l' : Wds} (hrun : PkRun C d m l m' l') : Cv C 190 [ptr d, ptr C.s] l (PkR C d m) (.bool (decide (m'.next = .nil))) l' (PkR C d m') := by
 refine Ct.of Tryz.func190 rfl Tryz.ntmps190 (by simp) loc_PkR ?_
 intro w0 D0
 refine T.ex (fun _ => loc_ex fun _ => loc_Mch loc_PkNx) ?_
 intro tv
 refine T.ex (fun _ => loc_Mch loc_PkNx) ?_
 intro iv
 refine T.mch (H := []) loc_PkNx ?_
 intro nv RN hN hl
 obtain ⟨fid, fs, cs, rfl, hg, hc⟩ := hrun tv iv nv RN hN
 refine T.seq <| tx [0] nf Z Z <| xas Z Z Z <| X.nil <| T.seq <| T.seq <| tx [0,1,2,3,4,5,6,7,8] nf Z Z <| xmv Z Z Z <| xnp Z Z Z Z u180_dPtr <| xmv Z Z Z <| xmv Z Z Z <| xnc Z Z Z <| xfa Z Z Z f237_5 <| xld Z Z Z o130 .z Z <| xnf Z Z Z Z u130_dFun ?_
 refine xpk Z Z Z Z <| X.nil <| T.no Z <| T.skip <| T.seq <| tx [0,1,2,3,4,5] (ct [5]) Z Z <| xmv Z Z Z <| xnc Z Z Z <| xfa Z Z Z f237_5 <| xld Z Z Z o130 .z Z <| xmv Z Z Z <| xcf (H1 := []) (H2 := [_]) Z Z Z Z hg Z hc loc_PkR pend0 <| X.nil <| T.seq ?_
 refine T.ex (fun _ => loc_ex fun _ => loc_Mch loc_PkNx) ?_
 intro tv'
 refine T.ex (fun _ => loc_Mch loc_PkNx) ?_
 intro iv'
 refine T.mch loc_PkNx ?_
 intro nv' RN' hN' hl'
 refine tx [0,1,2,3,4,5] nf Z Z <| xmv Z Z Z <| xnc Z Z Z <| xfa Z Z Z f237_5 <| xld Z Z Z o130 .z Z <| xbo Z Z Z Z (nx_gd (Pk_is hN')) (nx_eq (Pk_is hN') u130_dFun) <| xas Z Z Z <| X.nil <| T.ret1 Z (fun W D h => ?_)
 exact ⟨D, ⟨rfl, rfl, tv', iv', nv', RN', hN', h⟩, fun _ hk => hk⟩
set_option maxHeartbeats 1000000 in
theorem pk_Step0 {C : Cx} {d : Nat} {m : Pk} {l : Wds} (hn : m.next = .nil) : Cv C 190 [ptr d, ptr C.s] l (PkR C d m) (.bool true) l (PkR C d m) := by
 refine Ct.of Tryz.func190 rfl Tryz.ntmps190 (by simp) loc_PkR ?_
 intro w0 D0
 refine T.ex (fun _ => loc_ex fun _ => loc_Mch loc_PkNx) ?_
 intro tv
 refine T.ex (fun _ => loc_Mch loc_PkNx) ?_
 intro iv
 refine T.mch (H := []) loc_PkNx ?_
 intro nv RN hN hl
 have hi := Pk_is hN
 rw [hn] at hi
 refine T.seq <| tx [0] nf Z Z <| xas Z Z Z <| X.nil <| T.seq <| T.seq <| tx [0,1,2,3,4,5,6,7,8] nf Z Z <| xmv Z Z Z <| xnp Z Z Z Z u180_dPtr <| xmv Z Z Z <| xmv Z Z Z <| xnc Z Z Z <| xfa Z Z Z f237_5 <| xld Z Z Z o130 .z Z ?_
 refine xbo Z Z Z Z (nx_gd hi) (nx_eq hi u130_dFun) <| xpk Z Z Z Z <| X.nil <| T.yes Z <| T.seq <| tx [0] nf Z Z <| xas Z Z Z <| X.nil <| T.ret1 Z (fun W D h => ?_)
 exact ⟨D, ⟨rfl, rfl, tv, iv, nv, RN, hN, h⟩, fun _ hk => hk⟩
set_option maxHeartbeats 1000000 in
theorem pk_spare {C : Cx} {d : Nat} {m : Pk} {l : Wds} (hm : m.Ok) (hr : ∀ a, u64R (ld l a)) (hn : m.next = .spare) : PkRun C d m l (m.step C.M l).1 (m.step C.M l).2 := by
 obtain ⟨ts, j, p, inner, nx⟩ := m
 obtain rfl : nx = .spare := hn
 have hlen : ts.length ≤ 1000 := hm.len
 rintro tv iv nv RN ⟨rfl, q, b, rs, cm, rfl, rfl, rfl⟩
 refine ⟨228, [ptr d], [], rfl, g228, ?_⟩
 refine Ct.of (vs := [ptr d, ptr C.s]) Tryz.func228 rfl Tryz.ntmps228 (by simp) (loc_blks (loc_blks loc_StR _) _) ?_
 intro w0 D0
 refine T.conv (fun w h => Sy.opens (H2 := [_]) h (loc_blks loc_StR _)) <| T.bks loc_StR <| T.seq <| T.seq <| tx [0,1,2,3,4,5,6,7] (ct [6]) Z Z <| xmv Z Z Z <| xnc Z Z Z <| xfa Z Z Z f237_4 <| xld Z Z Z o191 .z Z <| xif Z Z Z u191_dNoIface <| xmv Z Z Z ?_
 refine xce Z Z Z Z g213 (ct_through hm.inner hr) loc_StR pend0 <| xnot Z Z Z <| X.nil <| T.cond Z ?_ ?_
 ·intro hb0
  refine T.ret0 Z (fun W D h => ?_)
  have hn : ¬ (inner.step C.M l).1.next = .nil := by simpa using hb0
  rw [show (⟨ts, j, p, inner, .spare⟩ : Pk).step C.M l = _ from if_neg hn]
  exact ⟨D, ⟨rfl, rfl, _, _, _, _, ⟨rfl, _, _, _, _, rfl, rfl, rfl⟩, h⟩, fun _ hk => hk⟩
 ·intro hb0
  have hn0 : (inner.step C.M l).1.next = .nil := by simpa using hb0
  refine T.skip <| T.seq <| tx [0,1,2,3,4,5,6,7,8] (ct [8]) Z Z <| xmv Z Z Z <| xmv Z Z Z <| xnc Z Z Z <| xfa Z Z Z f237_4 <| xld Z Z Z o191 .z Z <| xcq Z Z Z Z g214 (ct_Item (St.step_ok hm.inner hr).item hn0) loc_StR <| xnc Z Z Z <| xfa Z Z Z f237_3 ?_
  refine xst Z Z Z Z o3 Z .z Z .z pend0 <| X.nil <| T.seq <| tx [0,1,2,3,4,5] (ct [5]) Z Z <| xmv Z Z Z <| xmv Z Z Z <| xmf Z Z Z Z <| xnc Z Z Z <| xfa Z Z Z f237_5 <| xst Z Z Z Z o130 Z .z Z .z pend0 <| X.nil <| T.seq <| tx [0,1,2,3,4] nf Z Z ?_
  refine xmv Z Z Z <| xnc Z Z Z <| xfa Z Z Z f237_3 <| xld Z Z Z o3 .z Z <| xcm Z Z Z Z Z Z <| X.nil <| T.cond Z ?_ ?_
  ·intro hb1
   have hz : (inner.step C.M l).1.item = 0 := of_decide_eq_true hb1
   refine T.seq <| T.any (ord := [0, 1, 2, 3, 4, 5, 6, 7, 8, 9, 10, 11, 12, 13, 14]) (lo := (fun i => [0].contains i)) (ef := (fun i => [11, 14].contains i)) (by kernel_rfl) (fun _ h => h.drew) <| xmv Z Z Z <| xmv Z Z Z <| xnc Z Z Z <| xfa Z Z Z f237_0 ?_
   refine xld Z Z Z o39 .z Z <| xcq Z Z Z Z g188 (ct_Spare) loc_StR <| xmv Z Z Z <| xnc Z Z Z <| xfa Z Z Z f237_0 <| xld Z Z Z o39 .z Z <| xmf Z Z Z Z ?_
   refine xcn Z Z Z Z g191 (ct_stPop (node := false)) (fun _ => loc_StR) (fun _ => (pendmv Z Z pend0)) (fun q0 => ?_)
   refine xnc Z Z Z <| xfa Z Z Z f237_4 <| xst Z Z Z Z o191 Z .z Z .z (pendsk (by kernel_rfl) pend0) <| X.nil <| tx [0,1,2,3,4,5] (ct [5]) Z Z <| xmv Z Z Z <| xmv Z Z Z <| xmf Z Z Z Z <| xnc Z Z Z <| xfa Z Z Z f237_5 <| xst Z Z Z Z o130 Z .z Z .z pend0 ?_
   refine X.nil <| T.end0 Z (fun W D h => ?_)
   rw [show (⟨ts, j, p, inner, .spare⟩ : Pk).step C.M l = _ from (if_pos hn0).trans (if_pos hz)]
   rw [hz] at h
   exact ⟨D, ⟨rfl, rfl, _, _, _, _, ⟨rfl, _, _, _, _, rfl, rfl, rfl⟩, h⟩, fun _ hk => hk⟩
  ·intro hb1
   have hz : ¬ (inner.step C.M l).1.item = 0 := of_decide_eq_false hb1
   refine T.skip <| T.end0 Z (fun W D h => ?_)
   rw [show (⟨ts, j, p, inner, .spare⟩ : Pk).step C.M l = _ from (if_pos hn0).trans (if_neg hz)]
   obtain ⟨D1, h1, h2⟩ := blks_drop h
   exact ⟨D1, ⟨rfl, rfl, _, _, _, _, ⟨rfl, _, _, _, rfl, rfl⟩, h1⟩, h2⟩
set_option maxHeartbeats 1000000 in
theorem pk_fill {C : Cx} {d : Nat} {m : Pk} {l : Wds} (hm : m.Ok) (hr : ∀ a, u64R (ld l a)) (hn : m.next = .fill) : PkRun C d m l (m.step C.M l).1 (m.step C.M l).2 := by
 obtain ⟨ts, j, p, inner, nx⟩ := m
 obtain rfl : nx = .fill := hn
 have hlen : ts.length ≤ 1000 := hm.len
 have hj : j < ts.length := hm.j rfl
 rintro tv iv nv RN ⟨rfl, b, rs, cm, rfl, rfl⟩
 refine ⟨243, [ptr d], [], rfl, g243, ?_⟩
 refine Ct.of (vs := [ptr d, ptr C.s]) Tryz.func243 rfl Tryz.ntmps243 (by simp) (loc_blks (loc_blks loc_emp _) _) ?_
 intro w0 D0
 refine T.conv (fun w h => Sy.opens (H2 := [_]) h (loc_blks loc_emp _)) <| T.bks loc_emp <| T.seq ?_
 refine T.any (ord := [0, 1, 2, 3, 4, 5, 6, 7, 8, 9, 10, 11, 12, 13, 14, 15, 16, 17, 18, 19, 20, 21, 22, 23, 24]) (lo := (fun _ => false)) (ef := (fun i => [24].contains i)) (by kernel_rfl) (fun _ h => h.drew) <| xmv Z Z Z <| xmv Z Z Z <| xnc Z Z Z ?_
 refine xfa Z Z Z f237_0 <| xld Z Z Z o39 .z Z <| xmv Z Z Z <| xnc Z Z Z <| xfa Z Z Z f237_3 <| xld Z Z Z o3 .z Z <| xmv Z Z Z <| xnc Z Z Z <| xfa Z Z Z f237_2 <| xld Z Z Z o3 .z Z <| xcq Z Z Z Z g186 (ct_Task) loc_emp <| xmv Z Z Z <| xnc Z Z Z ?_
 refine xfa Z Z Z f237_1 <| xld Z Z Z o43 .z Z <| xmv Z Z Z <| xnc Z Z Z <| xfa Z Z Z f237_2 <| xld Z Z Z o3 .z Z <| xix Z Z Z Z s43 ⟨Int.natCast_nonneg _, Int.ofNat_lt.2 hj⟩ <| xld Z Z Z o90 (.s .z) (nth_u64s (hm.j Z)) ?_
 refine xce Z Z Z Z g148 (ct_Put loc_emp (hm.ts _ (getD_mem (hm.j Z)))) loc_emp pend0 <| X.nil <| T.seq <| tx [0,1,2,3,4,5,6,7] (ct [7]) Z Z <| xmv Z Z Z <| xnc Z Z Z <| xfa Z Z Z f237_2 <| xld Z Z Z o3 .z Z ?_
 refine xarc (c := ((j + 1 : Nat) : Int)) Z Z Z Z Z (by simp only [ari]; rw [IntWalk.i64_in _ (by omega)]; omega) <| xnc Z Z Z <| xfa Z Z Z f237_2 <| xst Z Z Z Z o3 Z .z Z .z pend0 <| X.nil <| T.seq ?_
 refine T.any (ord := [0, 1, 2, 3, 4, 5, 6, 7, 8, 9]) (lo := (fun _ => false)) (ef := (fun _ => false)) (by kernel_rfl) (fun _ h => h.drew) <| xmv Z Z Z <| xnc Z Z Z <| xfa Z Z Z f237_2 <| xld Z Z Z o3 .z Z <| xmv Z Z Z <| xnc Z Z Z <| xfa Z Z Z f237_1 ?_
 refine xld Z Z Z o43 .z Z <| xlen Z Z Z u43_dSlice <| xcm Z Z Z Z Z Z <| X.nil <| T.cond Z ?_ ?_
 ·intro hb0
  refine tx [0,1,2,3,4,5] (ct [5]) Z Z <| xmv Z Z Z <| xmv Z Z Z <| xmf Z Z Z Z <| xnc Z Z Z <| xfa Z Z Z f237_5 <| xst Z Z Z Z o130 Z .z Z .z pend0 <| X.nil <| T.end0 Z (fun W D h => ?_)
  have hj1 : j + 1 = ts.length := by have : ((j + 1 : Nat) : Int) = (ts.length : Int) := of_decide_eq_true hb0; omega
  rw [show (⟨ts, j, p, inner, .fill⟩ : Pk).step C.M l = _ from if_pos hj1]
  exact ⟨D, ⟨rfl, rfl, _, _, _, _, ⟨rfl, _, _, _, rfl, rfl⟩, h⟩, fun _ hk => hk⟩
 ·intro hb0
  refine T.skip <| T.end0 Z (fun W D h => ?_)
  have hj1 : ¬ j + 1 = ts.length := by have : ¬ ((j + 1 : Nat) : Int) = (ts.length : Int) := of_decide_eq_false hb0; omega
  rw [show (⟨ts, j, p, inner, .fill⟩ : Pk).step C.M l = _ from if_neg hj1]
  exact ⟨D, ⟨rfl, rfl, _, _, _, _, ⟨rfl, _, _, _, rfl, rfl⟩, h⟩, fun _ hk => hk⟩
set_option maxHeartbeats 1000000 in
theorem pk_many {C : Cx} {d : Nat} {m : Pk} {l : Wds} (hm : m.Ok) (hr : ∀ a, u64R (ld l a)) (hn : m.next = .many) : PkRun C d m l (m.step C.M l).1 (m.step C.M l).2 := by
 obtain ⟨ts, j, p, inner, nx⟩ := m
 obtain rfl : nx = .many := hn
 have hlen : ts.length ≤ 1000 := hm.len
 rintro tv iv nv RN ⟨rfl, b, rs, cm, rfl, rfl⟩
 refine ⟨254, [ptr d], [], rfl, g254, ?_⟩
 refine Ct.of (vs := [ptr d, ptr C.s]) Tryz.func254 rfl Tryz.ntmps254 (by simp) (loc_blks (loc_blks loc_emp _) _) ?_
 intro w0 D0
 refine T.conv (fun w h => Sy.opens (H2 := [_]) h (loc_blks loc_emp _)) <| T.bks loc_emp <| T.seq ?_
 refine T.any (ord := [0, 1, 2, 3, 4, 5, 6, 7, 8, 9, 10, 11, 12, 13, 14, 15, 16]) (lo := (fun _ => false)) (ef := (fun i => [16].contains i)) (by kernel_rfl) (fun _ h => h.drew) <| xmv Z Z Z <| xmv Z Z Z <| xnc Z Z Z <| xfa Z Z Z f237_0 ?_
 refine xld Z Z Z o39 .z Z <| xmv Z Z Z <| xnc Z Z Z <| xfa Z Z Z f237_3 <| xld Z Z Z o3 .z Z <| xcq Z Z Z Z g216 (ct_Many) loc_emp <| xmv Z Z Z <| xnc Z Z Z <| xfa Z Z Z f237_1 <| xld Z Z Z o43 .z Z <| xlen Z Z Z u43_dSlice ?_
 refine xcvc Z Z Z u90_dIntu64 u3_fun_true (wrap64u32 (len_u32 hm.len)) <| xce Z Z Z Z g148 (ct_Put loc_emp (len_u64 hm.len)) loc_emp pend0 <| X.nil <| T.seq ?_
 refine T.any (ord := [0, 1, 2, 3, 4, 5, 6, 7, 8, 9, 10, 11, 12, 13, 14, 15, 16, 17, 18]) (lo := (fun i => [0].contains i)) (ef := (fun i => [15, 18].contains i)) (by kernel_rfl) (fun _ h => h.drew) <| xmv Z Z Z <| xmv Z Z Z <| xnc Z Z Z ?_
 refine xfa Z Z Z f237_0 <| xld Z Z Z o39 .z Z <| xcq Z Z Z Z g192 (ct_Pool) loc_emp <| xmv Z Z Z <| xnc Z Z Z <| xfa Z Z Z f237_0 <| xld Z Z Z o39 .z Z <| xmf Z Z Z Z <| xmv Z Z Z <| xnc Z Z Z <| xfa Z Z Z f237_3 <| xld Z Z Z o3 .z Z ?_
 refine xcn Z Z Z Z g187 (ct_stPush (node := false) (hm.p)) (fun _ => loc_StR) (fun _ => (pendmv Z Z pend0)) (fun q0 => ?_)
 refine xnc Z Z Z <| xfa Z Z Z f237_4 <| xst Z Z Z Z o191 Z .z Z .z (pendsk (by kernel_rfl) pend0) <| X.nil <| tx [0,1,2,3,4,5] (ct [5]) Z Z <| xmv Z Z Z <| xmv Z Z Z <| xmf Z Z Z Z <| xnc Z Z Z <| xfa Z Z Z f237_5 <| xst Z Z Z Z o130 Z .z Z .z pend0 ?_
 refine X.nil <| T.end0 Z (fun W D h => ?_)
 obtain ⟨D1, h1, h2⟩ := blks_pick [0] (by decide) h
 exact ⟨D1, ⟨rfl, rfl, _, _, _, _, ⟨rfl, _, rfl, rfl⟩, h1⟩, h2⟩
set_option maxHeartbeats 1000000 in
theorem pk_last {C : Cx} {d : Nat} {m : Pk} {l : Wds} (hm : m.Ok) (hr : ∀ a, u64R (ld l a)) (hn : m.next = .last) : PkRun C d m l (m.step C.M l).1 (m.step C.M l).2 := by
 obtain ⟨ts, j, p, inner, nx⟩ := m
 obtain rfl : nx = .last := hn
 have hlen : ts.length ≤ 1000 := hm.len
 rintro tv iv nv RN ⟨rfl, q, rfl, rfl⟩
 refine ⟨189, [ptr d], [], rfl, g189, ?_⟩
 refine Ct.of (vs := [ptr d, ptr C.s]) Tryz.func189 rfl Tryz.ntmps189 (by simp) (loc_blks loc_StR _) ?_
 intro w0 D0
 refine T.conv (fun w h => Sy.opens (H2 := [_]) h loc_StR) <| T.seq <| tx [0,1,2,3,4,5,6] (ct [6]) Z Z <| xmv Z Z Z <| xnc Z Z Z <| xfa Z Z Z f237_4 <| xld Z Z Z o191 .z Z <| xif Z Z Z u191_dNoIface <| xmv Z Z Z ?_
 refine xce Z Z Z Z g213 (ct_through hm.inner hr) loc_StR pend0 <| X.nil <| T.cond Z ?_ ?_
 ·intro hb0
  have hn0 : (inner.step C.M l).1.next = .nil := by simpa using hb0
  refine T.seq <| tx [0,1,2,3,4,5,6,7,8] (ct [8]) Z Z <| xmv Z Z Z <| xmv Z Z Z <| xnc Z Z Z <| xfa Z Z Z f237_4 <| xld Z Z Z o191 .z Z <| xcq Z Z Z Z g214 (ct_Item (St.step_ok hm.inner hr).item hn0) loc_StR <| xnc Z Z Z <| xfa Z Z Z f237_3 ?_
  refine xst Z Z Z Z o3 Z .z Z .z pend0 <| X.nil <| tx [0,1,2,3] (ct [3]) Z Z <| xmv Z Z Z <| xnc Z Z Z <| xfa Z Z Z f237_5 <| xst Z Z Z Z o130 Z .z Z .z pend0 <| X.nil <| T.end0 Z (fun W D h => ?_)
  rw [show (⟨ts, j, p, inner, .last⟩ : Pk).step C.M l = _ from if_pos hn0]
  obtain ⟨D1, h1, h2⟩ := blks_drop h
  exact ⟨D1, ⟨rfl, rfl, _, _, _, _, ⟨rfl, rfl⟩, h1⟩, h2⟩
 ·intro hb0
  refine T.skip <| T.end0 Z (fun W D h => ?_)
  have hn : ¬ (inner.step C.M l).1.next = .nil := by simpa using hb0
  rw [show (⟨ts, j, p, inner, .last⟩ : Pk).step C.M l = _ from if_neg hn]
  exact ⟨D, ⟨rfl, rfl, _, _, _, _, ⟨rfl, _, rfl, rfl⟩, h⟩, fun _ hk => hk⟩
theorem pk_run {C : Cx} {d : Nat} {m : Pk} {l : Wds} (hm : m.Ok) (hr : ∀ a, u64R (ld l a)) (hn : m.next ≠ .nil) : PkRun C d m l (m.step C.M l).1 (m.step C.M l).2 := by
 cases h : m.next with
 | nil => exact (hn h).elim
 | spare => exact pk_spare hm hr h
 | fill => exact pk_fill hm hr h
 | many => exact pk_many hm hr h
 | last => exact pk_last hm hr h
theorem ct_pkStep {C : Cx} {d : Nat} {m : Pk} {l : Wds} (hm : m.Ok) (hr : ∀ a, u64R (ld l a)) : Cv C 190 [ptr d, ptr C.s] l (PkR C d m) (.bool (decide ((m.step C.M l).1.next = .nil))) (m.step C.M l).2 (PkR C d (m.step C.M l).1) := by
 by_cases hn : m.next = .nil
 ·have e : m.step C.M l = (m, l) := by unfold Pk.step; rw [hn]
  rw [e]
  simp only [hn, decide_true]
  exact pk_Step0 hn
 ·exact pk_Step (pk_run hm hr hn)
set_option maxHeartbeats 1000000 in
theorem pk_Packet {C : Cx} {d : Nat} {m : Pk} {l : Wds} (hn : m.next = .nil) : Cv C 193 [ptr d] l (PkR C d m) (.int .i64 m.p) l (PkR C d m) := by
 refine Ct.of Tryz.func193 rfl Tryz.ntmps193 (by simp) loc_PkR ?_
 intro w0 D0
 refine T.ex (fun _ => loc_ex fun _ => loc_Mch loc_PkNx) ?_
 intro tv
 refine T.ex (fun _ => loc_Mch loc_PkNx) ?_
 intro iv
 refine T.mch (H := []) loc_PkNx ?_
 intro nv RN hN hl
 have hi := Pk_is hN
 rw [hn] at hi
 refine T.seq <| tx [0] nf Z Z <| xas Z Z Z <| X.nil <| T.seq <| T.seq <| tx [0,1,2,3,4,5,6,7,8] nf Z Z <| xmv Z Z Z <| xnp Z Z Z Z u180_dPtr <| xmv Z Z Z <| xmv Z Z Z <| xnc Z Z Z <| xfa Z Z Z f237_5 <| xld Z Z Z o130 .z Z ?_
 refine xbo Z Z Z Z (nx_gd hi) (nx_ne hi u130_dFun) <| xpk Z Z Z Z <| X.nil <| T.no Z <| T.skip <| T.seq <| tx [0,1,2,3,4] nf Z Z <| xmv Z Z Z <| xnc Z Z Z <| xfa Z Z Z f237_3 <| xld Z Z Z o3 .z Z <| xas Z Z Z <| X.nil <| T.ret1 Z (fun W D h => ?_)
 exact ⟨D, ⟨rfl, rfl, tv, iv, nv, RN, hN, h⟩, fun _ hk => hk⟩
set_option maxHeartbeats 1000000 in
theorem ct_pkPut {C : Cx} {l : Wds} {b c : Nat} {ts : List Int} {rest : List Value} (ht : ts ≠ []) (h4 : ts.length ≤ 4) (hc : ts.length ≤ c) : Cn C 205 [ptr C.m, slv b ts.length c] l (blks [⟨b, 90, u64s ts ++ rest⟩] emp) l (fun q => blks [⟨b, 90, u64s ts ++ rest⟩] (PkR C q (.put ts))) := by
 have h0 : ts.length ≠ 0 := by simpa using ht
 refine Ct.of Tryz.func205 rfl Tryz.ntmps205 (by simp) (loc_blks loc_emp _) ?_
 intro w0 D0
 refine T.bks loc_emp <| T.seq <| tx [0] nf Z Z <| xas Z Z Z <| X.nil <| T.seq <| tx [0,1,2,3] (ct [2]) Z Z <| xmv Z Z Z <| xbd Z Z Z l237 z237 Z <| xbx Z Z Z Z (fun _ => pend0) (fun b0 => ?_)
 refine xas Z Z Z <| X.nil <| T.seq <| T.any (ord := [0, 1, 2, 3, 4, 5, 6, 7, 8, 9, 10, 11, 12, 13]) (lo := (fun i => [0].contains i)) (ef := (fun i => [10, 13].contains i)) (by kernel_rfl) (fun _ h => h.drew) <| xmv Z Z Z <| xmv Z Z Z <| xnc Z Z Z ?_
 refine xfa Z Z Z f237_1 <| xld Z Z Z o43 .z Z <| xmv Z Z Z <| xmv Z Z Z <| xlen Z Z Z u43_dSlice <| xmin Z Z Z <| xsl (k := ts.length) Z Z Z Z s43 (by omega) ?_
 refine xap0 (rest := rest) Z Z Z s43 (.s .z) (by omega) (by simp [u64s]) (fun _ _ => pendmv Z Z pend0) (fun q rs cm hcm => ?_)
 refine xnc Z Z Z <| xfa Z Z Z f237_1 <| xst Z Z Z Z o43 Z (.s .z) Z (.s .z) (pendsk (by kernel_rfl) pend0) <| X.nil <| T.seq <| T.seq <| tx [0,1,2,3,4,5,6] nf Z Z <| xmv Z Z Z <| xnpn Z Z Z Z u39_dPtr <| xmv Z Z Z <| xmv Z Z Z <| xlen Z Z Z u43_dSlice ?_
 refine xcm (c := true) Z Z Z Z Z (decide_eq_true (by omega)) <| xpk Z Z Z Z <| X.nil <| T.yes Z <| T.seq <| tx [0,1,2,3,4,5,6,7,8] (ct [5,8]) Z Z <| xmv Z Z Z <| xmv Z Z Z <| xcq Z Z Z Z g188 (ct_Spare) loc_emp <| xmv Z Z Z <| xmf Z Z Z Z ?_
 refine xcn Z Z Z Z g191 (ct_stPop (node := false)) (fun _ => loc_StR) (fun _ => pend0) (fun q1 => ?_)
 refine xnc Z Z Z <| xfa Z Z Z f237_4 <| xst Z Z Z Z o191 Z (.s .z) Z (.s .z) pend0 <| X.nil <| tx [0,1,2,3,4,5] (ct [5]) Z Z <| xmv Z Z Z <| xmv Z Z Z <| xmf Z Z Z Z <| xnc Z Z Z <| xfa Z Z Z f237_5 <| xst Z Z Z Z o130 Z (.s .z) Z (.s .z) pend0 <| X.nil ?_
 refine T.seq <| tx [0,1] nf Z Z <| xmv Z Z Z <| xas Z Z Z <| X.nil <| T.ret1 Z (fun W D h => ?_)
 have e : Pk.put ts = ⟨ts, 0, 0, .pop 5 false, .spare⟩ := if_neg ht
 rw [e]
 obtain ⟨D1, h1, h2⟩ := blks_pick [2, 1, 0] (by decide) h
 obtain ⟨h3, D2, h4, h5, h6⟩ := h1
 exact ⟨D1, ⟨_, rfl, rfl, h3, D2, ⟨_, _, _, _, ⟨rfl, _, _, _, _, rfl, rfl, rfl⟩, h4⟩, h5, h6⟩, h2⟩
set_option maxHeartbeats 1000000 in
theorem ct_pkTake {C : Cx} {l : Wds} : Cn C 172 [ptr C.m] l emp l (fun q => PkR C q .take) := by
 refine Ct.of Tryz.func172 rfl Tryz.ntmps172 (by simp) loc_emp ?_
 intro w0 D0
 refine T.seq <| tx [0] nf Z Z <| xas Z Z Z <| X.nil <| T.seq <| tx [0,1,2,3] (ct [2]) Z Z <| xmv Z Z Z <| xbd Z Z Z l237 z237 Z <| xbx Z Z Z Z (fun _ => pend0) (fun b0 => ?_)
 refine xas Z Z Z <| X.nil <| T.seq <| T.seq <| tx [0,1] nf Z Z <| xmv Z Z Z <| xnpn Z Z Z Z u39_dPtr <| X.nil <| T.yes Z <| T.seq <| tx [0,1,2,3,4,5,6,7,8] (ct [5,8]) Z Z <| xmv Z Z Z <| xmv Z Z Z <| xcq Z Z Z Z g192 (ct_Pool) loc_emp <| xmv Z Z Z ?_
 refine xmf Z Z Z Z <| xcn Z Z Z Z g191 (ct_stPop (node := false)) (fun _ => loc_StR) (fun _ => pend0) (fun q1 => ?_)
 refine xnc Z Z Z <| xfa Z Z Z f237_4 <| xst Z Z Z Z o191 Z .z Z .z pend0 <| X.nil <| tx [0,1,2,3,4,5] (ct [5]) Z Z <| xmv Z Z Z <| xmv Z Z Z <| xmf Z Z Z Z <| xnc Z Z Z <| xfa Z Z Z f237_5 <| xst Z Z Z Z o130 Z .z Z .z pend0 <| X.nil <| T.seq ?_
 refine tx [0,1] nf Z Z <| xmv Z Z Z <| xas Z Z Z <| X.nil <| T.ret1 Z (fun W D h => ?_)
 exact ⟨D, ⟨_, rfl, rfl, _, _, _, _, ⟨rfl, _, rfl, rfl⟩, h⟩, fun _ hk => hk⟩
set_option maxHeartbeats 1000000 in
theorem ct_pkBack {C : Cx} {l : Wds} {p : Int} (hp : u32R p) : Cn C 170 [ptr C.m, .int .i64 p] l emp l (fun q => PkR C q (.back C.M p)) := by
 refine Ct.of Tryz.func170 rfl Tryz.ntmps170 (by simp) loc_emp ?_
 intro w0 D0
 refine T.seq <| tx [0] nf Z Z <| xas Z Z Z <| X.nil <| T.seq <| tx [0,1,2,3] (ct [2]) Z Z <| xmv Z Z Z <| xbd Z Z Z l237 z237 Z <| xbx Z Z Z Z (fun _ => pend0) (fun b0 => ?_)
 refine xas Z Z Z <| X.nil <| T.seq <| T.seq <| tx [0,1,2,3] nf Z Z <| xmv Z Z Z <| xmv Z Z Z <| xcq Z Z Z Z g54 (ct_Link) loc_emp <| xcm Z Z Z Z Z Z <| X.nil <| T.cond Z ?_ ?_
 ·intro hb0
  refine T.seq <| tx [0,1,2,3,4,5,6,7,8,9] (ct [6,9]) Z Z <| xmv Z Z Z <| xmv Z Z Z <| xcq Z Z Z Z g188 (ct_Spare) loc_emp <| xmv Z Z Z <| xmf Z Z Z Z <| xmv Z Z Z ?_
  refine xcn Z Z Z Z g187 (ct_stPush (node := false) (hp)) (fun _ => loc_StR) (fun _ => pend0) (fun q1 => ?_)
  refine xnc Z Z Z <| xfa Z Z Z f237_4 <| xst Z Z Z Z o191 Z .z Z .z pend0 <| X.nil <| tx [0,1,2,3,4,5] (ct [5]) Z Z <| xmv Z Z Z <| xmv Z Z Z <| xmf Z Z Z Z <| xnc Z Z Z <| xfa Z Z Z f237_5 <| xst Z Z Z Z o130 Z .z Z .z pend0 <| X.nil <| T.seq ?_
  refine tx [0,1] nf Z Z <| xmv Z Z Z <| xas Z Z Z <| X.nil <| T.ret1 Z (fun W D h => ?_)
  rw [show Pk.back C.M p = _ from if_pos (of_decide_eq_true hb0)]
  exact ⟨D, ⟨_, rfl, rfl, _, _, _, _, ⟨rfl, _, rfl, rfl⟩, h⟩, fun _ hk => hk⟩
 ·intro hb0
  refine T.skip <| T.seq <| tx [0,1] nf Z Z <| xmv Z Z Z <| xas Z Z Z <| X.nil <| T.ret1 Z (fun W D h => ?_)
  rw [show Pk.back C.M p = _ from if_neg (of_decide_eq_false hb0)]
  exact ⟨D, ⟨_, rfl, rfl, _, _, _, _, ⟨rfl, rfl⟩, h⟩, fun _ hk => hk⟩
theorem Pk.step_ok {M : MapM} {m : Pk} {l : Wds} (hm : m.Ok) (hr : ∀ a, u64R (ld l a)) : (m.step M l).1.Ok := by
 have hi : (m.inner.step M l).1.Ok := St.step_ok hm.inner hr
 obtain ⟨h1, h2, h3, h4, h5, h6⟩ := hm
 have z : u32R 0 := by unfold u32R; omega
 unfold Pk.step
 split
 ·exact ⟨h1, h2, h3, h4, h5, h6⟩
 ·rename_i hn
  split
  ·split
   ·exact ⟨⟨z, by unfold u64R; simp [St.pop], z⟩, h2, h3, (fun h => nomatch h), z, fun _ => h6 hn⟩
   ·refine ⟨hi, h2, h3, fun _ => ?_, hi.item, (fun h => nomatch h)⟩
    show m.j < m.tasks.length
    rw [(h6 hn).2]
    exact List.length_pos_iff.2 (h6 hn).1
  ·exact ⟨hi, h2, h3, fun h => (by simp [hn] at h), h5, fun _ => h6 hn⟩
 ·rename_i hn
  have := h4 hn
  split
  ·exact ⟨h1, h2, h3, (fun h => nomatch h), h5, (fun h => nomatch h)⟩
  ·exact ⟨h1, h2, h3, fun _ => (by show m.j + 1 < m.tasks.length; omega), h5, fun h => (by simp [hn] at h)⟩
 ·exact ⟨⟨h5, by unfold u64R; simp [St.push], z⟩, h2, h3, (fun h => nomatch h), h5, (fun h => nomatch h)⟩
 ·rename_i hn
  split
  ·exact ⟨hi, h2, h3, (fun h => nomatch h), hi.item, (fun h => nomatch h)⟩
  ·exact ⟨hi, h2, h3, fun h => (by simp [hn] at h), h5, fun h => (by simp [hn] at h)⟩
theorem Pk.step_rng {M : MapM} {m : Pk} {l : Wds} (hm : m.Ok) (hr : Rng l) : Rng (m.step M l).2 := by
 have hi : Rng (m.inner.step M l).2 := St.step_rng hm.inner hr
 unfold Pk.step
 split <;> (try split) <;> (try split) <;> first | exact hr | exact hi | skip
 ·rename_i hn _
  exact hr.put (hm.ts _ (getD_mem (hm.j hn)))
 ·rename_i hn _
  exact hr.put (hm.ts _ (getD_mem (hm.j hn)))
 ·exact hr.put (len_u64 hm.len)
end Go.Proofs.YtmpcfamcbaineaaGreat.Mo
