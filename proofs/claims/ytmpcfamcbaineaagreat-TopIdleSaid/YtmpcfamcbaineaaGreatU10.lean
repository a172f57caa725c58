/- Part 10 of the proof: contracts of the functions that the law reaches, and the plain law. No condition. -/
import Derived.Test.YtmpcfamcbaineaaGreatU09
namespace Go.Proofs.YtmpcfamcbaineaaGreat.Mo.Mp
open Go.RowKit Go.Proofs.YtmpcfamcbaineaaGreat.Mo
set_option linter.unusedVariables false
set_option linter.unusedSimpArgs false
theorem wrap_swap {K : Mo.Cx} {s g cap : Nat} {rest : List Value} {l ws : Wds} {R : Asr} (hr : Rng ws) (hc : ws.length ≤ cap) (hcm : cap ≤ maxLen) (hlen : ws.length + rest.length = cap) :
    WkL (blks [⟨s, 113, [slv g ws.length cap, .int .i64 0]⟩, ⟨g, 90, u64s ws ++ rest⟩] (wrap K l R)) (wrap ⟨s, g, cap, K.m, K.ga, K.gr, K.ca, K.cr, K.M⟩ ws emp) := fun D w hlt ⟨hs, D1, ⟨hg, D2, ⟨Dw, g1, g2, g3, g4, g5⟩, n2, i2⟩, n1, i1⟩ => by
  have hS : D s := (i1 s).2 (.inl rfl)
  have hG : D g := (i1 g).2 (.inr ((i2 g).2 (.inl rfl)))
  have up : ∀ k, D2 k → D k := fun k hk => (i1 k).2 (.inr ((i2 k).2 (.inr hk)))
  have e1 : s ≠ g := fun e => n1 ((i2 _).2 (.inl e))
  have ns : ∀ k, D2 k → s ≠ k := fun k hk e => n1 ((i2 _).2 (.inr (e ▸ hk)))
  have ng : ∀ k, D2 k → g ≠ k := fun k hk e => n2 (e ▸ hk)
  have dm : D2 K.m := (g5 _).2 (.inr (.inr (.inr (.inl rfl))))
  have da : D2 K.ga := (g5 _).2 (.inr (.inr (.inr (.inr (.inl rfl)))))
  have dr : D2 K.gr := (g5 _).2 (.inr (.inr (.inr (.inr (.inr rfl)))))
  have hMap : MapAt w ⟨s, g, cap, K.m, K.ga, K.gr, K.ca, K.cr, K.M⟩ := ⟨g2.ok, g2.mb, g2.ra, g2.rr⟩
  have hMem : Mo.Mem w ⟨s, g, cap, K.m, K.ga, K.gr, K.ca, K.cr, K.M⟩ ws := by
    refine ⟨e1.symm, ⟨0, hs⟩, ?_, hr⟩
    exact own_blk hg hc hcm (by rw [List.length_map, Nat.mul_one]; exact hlen) (by rw [List.length_map, Nat.mul_one])
  refine ⟨fun k => False ∨ k = s ∨ k = g ∨ k = K.m ∨ k = K.ga ∨ k = K.gr, ⟨fun _ => False, fun _ h => h, hMap, hMem, ⟨hMap, fun k hk => hk.elim, hMem.lt, id, id, ⟨id, (ns _ dm).symm, (ng _ dm).symm⟩, ⟨id, (ns _ da).symm, (ng _ da).symm⟩, ⟨id, (ns _ dr).symm, (ng _ dr).symm⟩⟩, fun k => Iff.rfl⟩, fun k hk => ?_⟩
  rcases hk with hk | rfl | rfl | rfl | rfl | rfl
  · exact hk.elim
  · exact hS
  · exact hG
  · exact up _ dm
  · exact up _ da
  · exact up _ dr
theorem walkN_mem {M : MapM} {l : Wds} : ∀ {n : Nat} {a v : Int}, v ∈ walkN M l n a → 0 ≤ v ∧ v < 4294967296
  | 0, _, _, h => by simp [walkN] at h
  | n + 1, a, v, h => by
    unfold walkN at h
    split at h
    · rcases List.mem_cons.1 h with rfl | h
      · exact w32_rng _
      · exact walkN_mem h
    · simp at h
theorem walkN_len {M : MapM} {l : Wds} : ∀ {n : Nat} {a : Int}, (walkN M l n a).length ≤ n
  | 0, _ => by simp [walkN]
  | n + 1, a => by
    unfold walkN
    split
    · rw [List.length_cons]
      have := walkN_len (M := M) (l := l) (n := n) (a := M.Next (w32 (l.getD a.toNat 0)))
      omega
    · simp
theorem getD_mem {W : List Int} {j : Nat} (h : j < W.length) : W.getD j 0 ∈ W := by
  rw [List.getD_eq_getElem?_getD, List.getElem?_eq_getElem h]
  exact List.getElem_mem h
theorem putN_drop {M : MapM} {k : Nat} {W o t : List Int} {j : Nat} (h : putN M k (W.drop j) o = t) (hj : j < W.length) : putN M k (W.drop (j + 1)) (if M.Class (W.getD j 0) = (k : Int) then markL o (W.getD j 0) 2 else o) = t := by
  rw [List.drop_eq_getElem_cons hj] at h
  rw [List.getD_eq_getElem?_getD, List.getElem?_eq_getElem hj]
  exact h
end Go.Proofs.YtmpcfamcbaineaaGreat.Mo.Mp
namespace Go.Proofs.YtmpcfamcbaineaaGreat.Mo
open Go.RowKit Go.Proofs.YtmpcfamcbaineaaGreat.Mo
set_option linter.unusedVariables false
set_option linter.unusedSimpArgs false
theorem g31 : fnB 31 = true := by kernel_rfl
theorem g34 : fnB 34 = true := by kernel_rfl
theorem z41 : zer 41 = some [.slice none 0 0] := by kernel_rfl
end Go.Proofs.YtmpcfamcbaineaaGreat.Mo
namespace Go.Proofs.YtmpcfamcbaineaaGreat.Mo.Mp
open Go.RowKit Go.Proofs.YtmpcfamcbaineaaGreat.Mo
set_option linter.unusedVariables false
set_option linter.unusedSimpArgs false
set_option maxHeartbeats 1000000 in
theorem ct_cellsKeep {C : Cx} {l : Wds} {b c : Nat} {ws : List Int} (hk : 0 < ws.length ∧ ws.length ≤ 1000000) :
  Ce (α := Nat × Nat × List Value × Nat) C 24 [slv b ws.length c] l (blks [⟨b, 90, u64s ws⟩] emp) (fun a => ptr a.1) l (fun a => (ws.length ≤ a.2.2.2 ∧ ws.length + a.2.2.1.length = a.2.2.2) ∧ a.2.2.2 ≤ maxLen) (fun a => blks [⟨a.1, 113, [slv a.2.1 ws.length a.2.2.2, .int .i64 0]⟩, ⟨a.2.1, 90, u64s ws ++ a.2.2.1⟩, ⟨b, 90, u64s ws⟩] emp) := by
 refine Ct.of (vs := [slv b ws.length c]) Tryz.func24 rfl Tryz.ntmps24 (by simp) (loc_blks loc_emp _) ?_
 intro w0 D0
 refine T.conv (fun w h => Sy.opens (H2 := [_]) h loc_emp) <| T.reb (H' := [⟨b, 90, u64s ws ++ []⟩]) (R' := emp) loc_emp (by rw [List.append_nil]; exact Wk.refl _) <| T.seq <| tx [0] nf Z Z <| xas Z Z Z <| X.nil <| T.seq <| tx [0,1,2,3,4] (ct [1,3]) Z Z ?_
 refine xmv Z Z Z ?_
 refine xcx (H1 := []) (H2 := [_]) (B := fun (a : Nat × List Value × Nat) => [⟨a.1, 90, u64s ws ++ a.2.1⟩, ⟨b, 90, u64s ws ++ []⟩]) Z Z Z Z g52 Z (ct_clone52 (news := u64s ws) (rest := []) hk (by simp [u64s])) (fun _ => loc_emp) (fun a0 ha0 => pend0) (fun a0 ha0 => ?_)
 refine xbd Z Z Z l113 z113 Z <| xbx Z Z Z Z (fun _ => pend0) (fun b1 => ?_)
 refine xas Z Z Z <| X.nil <| T.ret1 Z (fun W D h => ?_)
 obtain ⟨D1, h1, h2⟩ := blks_pick [0, 1, 2] (by decide) h
 rw [show blks (pick _ [0, 1, 2]) emp D1 W = blks [⟨b1, 113, [slv a0.1 ws.length a0.2.2, .int .i64 0]⟩, ⟨a0.1, 90, u64s ws ++ a0.2.1⟩, ⟨b, 90, u64s ws ++ []⟩] emp D1 W from rfl, List.append_nil] at h1
 exact ⟨D1, ⟨(b1, a0), rfl, ⟨⟨ha0.1.1, by have := ha0.1.2; simpa [u64s] using this⟩, ha0.2⟩, rfl, h1⟩, h2⟩
theorem ct_markB {C : Cx} {l : Wds} {R : Asr} (hl : Loc R) {Hx : List Bk} {v s : Int} {bx ob n : Nat} {o : List Int} (hn : o.length = n) : Cv C 31 [.int .i64 v, .int .i64 s, ptr bx] l (blks (⟨bx, 41, [slv ob n n]⟩ :: ⟨ob, 3, i64s o⟩ :: Hx) R) (.tuple #[]) l (blks (⟨bx, 41, [slv ob n n]⟩ :: ⟨ob, 3, i64s (markL o v s)⟩ :: Hx) R) := ct_mark (loc_blks hl Hx) hn
set_option maxRecDepth 20000 in
set_option maxHeartbeats 4000000 in
theorem ct_Census {C : Cx} {l : Wds} {K : Mo.Cx} {l0 ws : Wds} {nb nc N : Nat} {Rw : Asr} (hRw : Loc Rw) (hM : K.M.Ok) (hN : N = K.M.nodes.toNat + 1) (hn : 1 ≤ K.M.nodes ∧ K.M.nodes ≤ 60) (hrng : Rng ws) (hfl : 0 < ws.length ∧ ws.length ≤ 1000000) :
  Ce (α := Nat) C 12 [ptr K.m, slv nb ws.length nc, .slice none 0 0] l (blks [⟨nb, 90, u64s ws⟩] (wrap K l0 Rw)) (fun ob => .slice (some ⟨ob, if N = 1 then 0 else 0 + 1, none⟩) (N - 1) (N - 1)) l (fun _ => True) (fun ob => blks [⟨ob, 3, i64s (census K.M ws)⟩] emp) := by
 obtain ⟨s0, g0, c0, km, ga, gr, ca, cr, M⟩ := K
 simp only at hM hN hn
 obtain ⟨O1, hO1⟩ : ∃ O1, thereN M ws (N - 1) 1 (List.replicate N 0) = O1 := ⟨_, rfl⟩
 obtain ⟨O2, hO2'⟩ : ∃ O2, listN M ws 5 0 O1 = O2 := ⟨_, rfl⟩
 have hce : census M ws = O2 := by
  unfold census
  rw [← hO2', ← hO1, hN]
  rfl
 simp only [hce]
 refine Ct.of (vs := [ptr km, slv nb ws.length nc, .slice none 0 0]) Tryz.func12 rfl Tryz.ntmps12 (by simp) (loc_blks (loc_wrap hRw) _) ?_
 intro w0 D0
 refine T.conv (fun w h => Sy.opens (H2 := [_]) h (loc_wrap hRw)) <| T.seq <| tx [0] nf Z Z <| xas Z Z Z <| X.nil <| T.seq <| tx [0,1,2] (ct [1]) Z Z <| xmv Z Z Z ?_
 refine xcx (H1 := []) (H2 := [_]) (B := fun (a : Nat × Nat × List Value × Nat) => [⟨a.1, 113, [slv a.2.1 ws.length a.2.2.2, .int .i64 0]⟩, ⟨a.2.1, 90, u64s ws ++ a.2.2.1⟩, ⟨nb, 90, u64s ws⟩]) Z Z Z Z g24 Z (Ce.sepB (H2 := []) (ct_cellsKeep hfl) (loc_wrap hRw)) (fun _ => loc_wrap hRw) (fun a0 ha0 => pend0) (fun a0 ha0 => ?_)
 refine xas Z Z Z <| X.nil <| T.seq ?_
 obtain ⟨sb, gb, grest, gc⟩ := a0
 refine T.rebL (H' := [⟨nb, 90, u64s ws⟩]) (R' := (wrap (⟨sb, gb, gc, km, ga, gr, ca, cr, M⟩ : Mo.Cx) ws emp)) (loc_wrap loc_emp) ((WkL.of (Wk.pick [2, 0, 1] (by decide))).trans (WkL.blk (wrap_swap hrng ha0.1.1 ha0.2 ha0.1.2))) ?_
 refine tx [0,1,2,3,4,5] (ct [3,4,5]) Z Z <| xmv Z Z Z <| xcq Z Z Z Z g30 (lift_v (Mo.ct_Nodes (C := (⟨sb, gb, gc, km, ga, gr, ca, cr, M⟩ : Mo.Cx)))) (loc_wrap loc_emp) ?_
 refine xarc (c := ((N : Nat) : Int)) Z Z Z Z Z (by show IntKind.i64.wrap (ari .add M.nodes 1) = _; simp only [ari]; rw [IntWalk.i64_in _ (by omega)]; omega) <| xms (n := N) (by omega) Z Z Z Z Z s41 z3 (fun _ => pend0) (fun ob => ?_)
 refine xal Z Z z41 (fun _ => pend0) (fun bx => ?_)
 refine xst Z Z Z Z o41 Z .z Z .z pend0 <| X.nil <| T.seq <| tx [0,1] nf Z Z <| xmf Z Z Z Z <| xas Z Z Z <| X.nil <| T.seq <| T.seq <| tx [0] nf Z Z <| xas Z Z Z <| X.nil <| T.block ?_
 refine T.loop (fun (x : Nat × List Int) w => ((1 ≤ x.1 ∧ x.1 ≤ N ∧ x.2.length = N) ∧ thereN M ws (N - x.1) x.1 x.2 = O1) ∧ Sy C w0 D0 l [⟨bx, 41, [slv ob N N]⟩, ⟨ob, 3, i64s x.2⟩, ⟨nb, 90, u64s ws⟩] (wrap (⟨sb, gb, gc, km, ga, gr, ca, cr, M⟩ : Mo.Cx) ws emp) w) (fun x => [(10, .int .i64 ((x.1 : Nat) : Int)), (9, .func (.func 31) #[] #[ptr bx]), (8, ptr bx), (0, ptr km), (1, slv nb ws.length nc), (2, .slice none 0 0), (7, ptr sb)]) (fun x => N - x.1) (1, List.replicate N 0) (fun w h => ⟨⟨⟨Nat.le_refl _, by show 1 ≤ N; omega, List.length_replicate⟩, hO1⟩, by show Sy C w0 D0 l [_, ⟨ob, 3, i64s (List.replicate N 0)⟩, _] _ w; rw [← i64s_rep]; exact h⟩) ⟨Z, Z, Z, Z, Z, Z, Z, trivial⟩ ?_
 rintro ⟨v, o⟩ g
 refine T.pure ?_
 rintro ⟨⟨hv1, hvN, ho⟩, hth⟩
 simp only at hv1 hvN ho hth
 refine T.seq <| T.seq <| tx [0,1,2,3] nf Z Z <| xmv Z Z Z <| xld Z Z Z o41 .z Z <| xlen Z Z Z u41_dSlice <| xcm Z Z Z Z Z Z <| X.nil <| T.cond Z ?_ ?_
 ·intro hb0
  have hvl : v < N := by have : ((v : Nat) : Int) < ((N : Nat) : Int) := of_decide_eq_true hb0; omega
  have hth1 : thereN M ws (N - v) v o = thereN M ws (N - (v + 1)) (v + 1) (if ld ws (M.State ((v : Nat) : Int)) = 1 then markL o ((v : Nat) : Int) 1 else o) := by rw [show N - v = N - (v + 1) + 1 by omega]; rfl
  refine T.skip <| T.seq <| T.block <| T.seq <| tx [0,1,2,3,4,5] nf Z Z <| xmv Z Z Z <| xmv Z Z Z <| xmv Z Z Z <| xcq Z Z Z Z g33 (lift_v (Mo.ct_State (C := (⟨sb, gb, gc, km, ga, gr, ca, cr, M⟩ : Mo.Cx)))) (loc_wrap loc_emp) ?_
  refine xcq Z Z Z Z g32 (lift_v (Mo.ct_Load (C := (⟨sb, gb, gc, km, ga, gr, ca, cr, M⟩ : Mo.Cx)) loc_emp)) (loc_wrap loc_emp) <| xcm Z Z Z Z Z Z <| X.nil <| T.cond Z ?_ ?_
  ·intro hb1
   have hs : ld ws (M.State ((v : Nat) : Int)) = 1 := eq_of_beq hb1
   refine tx [0,1,2] (ct [2]) Z Z <| xmv Z Z Z <| xmv Z Z Z <| xcb (H1 := []) (H2 := _ :: _) (H2' := _ :: _) Z Z Z Z g31 Z (ct_markB (loc_wrap loc_emp) ho) (loc_wrap loc_emp) Z pend0 <| X.nil <| T.blk_end <| tx [0,1,2] nf Z Z <| xmv Z Z Z ?_
   refine xarc (c := ((v + 1 : Nat) : Int)) Z Z Z Z Z (by simp only [ari]; rw [IntWalk.i64_in _ (by omega)]; omega) <| xas Z Z Z <| X.nil ?_
   exact T.lq_end (v + 1, markL o ((v : Nat) : Int) 1) (by show N - (v + 1) < N - v; omega) (fun w h => ⟨⟨⟨by show 1 ≤ v + 1; omega, by show v + 1 ≤ N; omega, markL_len.trans ho⟩, by rw [hth1, if_pos hs] at hth; exact hth⟩, h⟩) ⟨rfl, rfl, rfl, rfl, rfl, rfl, rfl, trivial⟩
  ·intro hb1
   have hs : ¬ ld ws (M.State ((v : Nat) : Int)) = 1 := ne_of_beq_false hb1
   refine T.skip <| T.blk_end <| tx [0,1,2] nf Z Z <| xmv Z Z Z <| xarc (c := ((v + 1 : Nat) : Int)) Z Z Z Z Z (by simp only [ari]; rw [IntWalk.i64_in _ (by omega)]; omega) <| xas Z Z Z <| X.nil ?_
   exact T.lq_end (v + 1, o) (by show N - (v + 1) < N - v; omega) (fun w h => ⟨⟨⟨by show 1 ≤ v + 1; omega, by show v + 1 ≤ N; omega, ho⟩, by rw [hth1, if_neg hs] at hth; exact hth⟩, h⟩) ⟨rfl, rfl, rfl, rfl, rfl, rfl, rfl, trivial⟩
 ·intro hb0
  have hvl : v = N := by have : ¬ ((v : Nat) : Int) < ((N : Nat) : Int) := of_decide_eq_false hb0; omega
  rw [hvl, Nat.sub_self] at hth
  have hO2 : listN M ws 5 0 o = O2 := by rw [show o = O1 from hth]; exact hO2'
  refine T.exit ?_
  refine TE.lq_exit ?_
  refine TE.blk_exit ?_
  refine T.seq <| T.seq <| tx [0] nf Z Z <| xmv Z Z Z <| X.nil <| T.block ?_
  refine T.loop (fun (x : Nat × List Int) w => ((x.1 ≤ 5 ∧ x.2.length = N) ∧ listN M ws (5 - x.1) x.1 x.2 = O2) ∧ Sy C w0 D0 l [⟨bx, 41, [slv ob N N]⟩, ⟨ob, 3, i64s x.2⟩, ⟨nb, 90, u64s ws⟩] (wrap (⟨sb, gb, gc, km, ga, gr, ca, cr, M⟩ : Mo.Cx) ws emp) w) (fun x => [(38, .int .i64 ((x.1 : Nat) : Int)), (9, .func (.func 31) #[] #[ptr bx]), (8, ptr bx), (0, ptr km), (1, slv nb ws.length nc), (2, .slice none 0 0), (7, ptr sb)]) (fun x => 5 - x.1) (0, o) (fun w h => ⟨⟨⟨Nat.zero_le _, ho⟩, hO2⟩, h⟩) ⟨Z, Z, Z, Z, Z, Z, Z, trivial⟩ ?_
  rintro ⟨k, p⟩ g2
  refine T.pure ?_
  rintro ⟨⟨hk5, hp⟩, hli⟩
  simp only at hk5 hp hli
  refine T.seq <| tx [0] nf Z Z <| xcm Z Z Z Z Z Z <| X.nil <| T.seq <| T.cond Z ?_ ?_
  ·intro hb1
   have hkl : k < 5 := by have : ((k : Nat) : Int) < 5 := of_decide_eq_true hb1; omega
   have hli1 : listN M ws (5 - k) k p = listN M ws (5 - (k + 1)) (k + 1) (putN M k (walkN M ws N (M.Head ((k : Nat) : Int))) p) := by rw [show 5 - k = 5 - (k + 1) + 1 by omega, hN]; rfl
   rw [hli1] at hli
   refine T.skip <| T.seq <| T.block <| T.seq <| tx [0,1] nf Z Z <| xmv Z Z Z <| xas Z Z Z <| X.nil <| T.seq <| tx [0,1,2,3,4,5,6,7,8,9,10,11] (ct [9]) Z Z <| xmv Z Z Z <| xmv Z Z Z <| xmv Z Z Z ?_
   refine xcq Z Z Z Z g35 (lift_v (Mo.ct_Head (C := (⟨sb, gb, gc, km, ga, gr, ca, cr, M⟩ : Mo.Cx)))) (loc_wrap loc_emp) <| xmv Z Z Z <| xmf Z Z Z Z <| xmv Z Z Z ?_
   refine xcq Z Z Z Z g30 (lift_v (Mo.ct_Nodes (C := (⟨sb, gb, gc, km, ga, gr, ca, cr, M⟩ : Mo.Cx)))) (loc_wrap loc_emp) ?_
   refine xarc (c := ((N : Nat) : Int)) Z Z Z Z Z (by show IntKind.i64.wrap (ari .add M.nodes 1) = _; simp only [ari]; rw [IntWalk.i64_in _ (by omega)]; omega) ?_
   refine xcx (H1 := [_, _]) (H2 := [_]) (B := fun (a : Value × List Bk) => ⟨nb, 90, u64s ws⟩ :: a.2) Z Z Z Z g34 Z (ct_Walk (K := (⟨sb, gb, gc, km, ga, gr, ca, cr, M⟩ : Mo.Cx)) (lim := N) (by omega) hfl.2 Z) (fun _ => loc_wrap loc_emp) (fun a2 ha2 => pend0) (fun a2 ha2 => ?_)
   obtain ⟨wv, WB⟩ := a2
   obtain ⟨W, hWe⟩ : ∃ W, W = walkN M ws N (M.Head ((k : Nat) : Int)) := ⟨_, rfl⟩
   have HWS : SlV 3 1 wv W.length (i64s W) WB := by rw [hWe]; exact ha2
   obtain ⟨P1, hP1⟩ : ∃ P1, putN M k W p = P1 := ⟨_, rfl⟩
   refine xlenv HWS Z Z Z u41_dSlice <| xmv Z Z Z <| X.nil <| T.block ?_
   refine T.loop (fun (x : Nat × List Int) w => ((x.1 ≤ W.length ∧ x.2.length = N) ∧ putN M k (W.drop x.1) x.2 = P1) ∧ Sy C w0 D0 l (⟨bx, 41, [slv ob N N]⟩ :: ⟨ob, 3, i64s x.2⟩ :: ⟨nb, 90, u64s ws⟩ :: WB) (wrap (⟨sb, gb, gc, km, ga, gr, ca, cr, M⟩ : Mo.Cx) ws emp) w) (fun x => [(52, .int .i64 ((x.1 : Nat) : Int)), (51, .int .i64 ((W.length : Nat) : Int)), (50, wv), (38, .int .i64 ((k : Nat) : Int)), (11, .int .i64 ((k : Nat) : Int)), (9, .func (.func 31) #[] #[ptr bx]), (8, ptr bx), (0, ptr km), (1, slv nb ws.length nc), (2, .slice none 0 0), (7, ptr sb)]) (fun x => W.length - x.1) (0, p) (fun w h => ⟨⟨⟨Nat.zero_le _, hp⟩, by show putN M k (W.drop 0) p = P1; rw [List.drop_zero]; exact hP1⟩, h⟩) ⟨Z, Z, Z, Z, Z, Z, Z, Z, Z, Z, Z, trivial⟩ ?_
   rintro ⟨j, q⟩ g3
   refine T.pure ?_
   rintro ⟨⟨hjW, hqN⟩, hput⟩
   simp only at hjW hqN hput
   refine T.seq ?_
   skip
   refine tx [0] nf Z Z <| xcm Z Z Z Z Z Z <| X.nil <| T.seq <| T.cond Z ?_ ?_
   ·intro hb2
    have hjl : j < W.length := by have : ((j : Nat) : Int) < ((W.length : Nat) : Int) := of_decide_eq_true hb2; omega
    have hWr : 0 ≤ W.getD j 0 ∧ W.getD j 0 < 4294967296 := walkN_mem (M := M) (l := ws) (n := N) (a := M.Head ((k : Nat) : Int)) (by rw [← hWe]; exact getD_mem hjl)
    have hWl : W.length ≤ N := by rw [hWe]; exact walkN_len
    obtain ⟨wb, wrest, wm, rfl, hw1, hw2, hw3, -, rfl⟩ := HWS.resolve_left (fun h => by omega)
    refine T.skip <| T.seq <| T.block <| T.seq <| tx [0,1,2] nf Z Z <| xix Z Z Z Z s41 ⟨Int.natCast_nonneg _, Int.ofNat_lt.2 hjl⟩ <| xld Z Z Z o3 (.s (.s (.s .z))) (nth_i64s hjl) <| xas Z Z Z <| X.nil <| T.seq <| tx [0,1,2,3,4] nf Z Z <| xmv Z Z Z ?_
    refine xmv Z Z Z <| xcq Z Z Z Z g37 (lift_v (Mo.ct_Class (C := (⟨sb, gb, gc, km, ga, gr, ca, cr, M⟩ : Mo.Cx)) loc_emp hM (show W.getD j 0 ≤ 9223372036854775807 by omega))) (loc_wrap loc_emp) <| xmv Z Z Z <| xcm Z Z Z Z Z Z <| X.nil <| T.cond Z ?_ ?_
    ·intro hb3
     have hcl : M.Class (W.getD j 0) = ((k : Nat) : Int) := eq_of_beq hb3
     refine tx [0,1,2] (ct [2]) Z Z <| xmv Z Z Z <| xmv Z Z Z <| xcb (H1 := []) (H2 := _ :: _) (H2' := _ :: _) Z Z Z Z g31 Z (ct_markB (loc_wrap loc_emp) hqN) (loc_wrap loc_emp) Z pend0 <| X.nil <| T.blk_end <| tx [0,1] nf Z Z ?_
     refine xarc (c := ((j + 1 : Nat) : Int)) Z Z Z Z Z (by simp only [ari]; rw [IntWalk.i64_in _ (by omega)]; omega) <| xmv Z Z Z <| X.nil ?_
     exact T.lq_end (j + 1, markL q (W.getD j 0) 2) (by show W.length - (j + 1) < W.length - j; omega) (fun w h => ⟨⟨⟨by show j + 1 ≤ W.length; omega, markL_len.trans hqN⟩, by have := putN_drop hput hjl; rw [if_pos hcl] at this; exact this⟩, h⟩) ⟨rfl, rfl, rfl, rfl, rfl, rfl, rfl, rfl, rfl, rfl, rfl, trivial⟩
    ·intro hb3
     have hcl : ¬ M.Class (W.getD j 0) = ((k : Nat) : Int) := ne_of_beq_false hb3
     refine T.skip <| T.blk_end <| tx [0,1] nf Z Z <| xarc (c := ((j + 1 : Nat) : Int)) Z Z Z Z Z (by simp only [ari]; rw [IntWalk.i64_in _ (by omega)]; omega) <| xmv Z Z Z <| X.nil ?_
     exact T.lq_end (j + 1, q) (by show W.length - (j + 1) < W.length - j; omega) (fun w h => ⟨⟨⟨by show j + 1 ≤ W.length; omega, hqN⟩, by have := putN_drop hput hjl; rw [if_neg hcl] at this; exact this⟩, h⟩) ⟨rfl, rfl, rfl, rfl, rfl, rfl, rfl, rfl, rfl, rfl, rfl, trivial⟩
   ·intro hb2
    have hjl : j = W.length := by have : ¬ ((j : Nat) : Int) < ((W.length : Nat) : Int) := of_decide_eq_false hb2; omega
    have hq2 : q = P1 := by rw [hjl, List.drop_length] at hput; exact hput
    have hli2 : listN M ws (5 - (k + 1)) (k + 1) q = O2 := by rw [hq2, ← hP1, hWe]; exact hli
    refine T.exit ?_
    refine TE.lq_exit ?_
    refine TE.blk_exit ?_
    refine T.blk_end <| tx [0,1] nf Z Z <| xarc (c := ((k + 1 : Nat) : Int)) Z Z Z Z Z (by simp only [ari]; rw [IntWalk.i64_in _ (by omega)]; omega) <| xmv Z Z Z <| X.nil ?_
    exact T.lq_end (k + 1, q) (by show 5 - (k + 1) < 5 - k; omega) (fun w h => ⟨⟨⟨by show k + 1 ≤ 5; omega, hqN⟩, hli2⟩, h.reb (loc_wrap loc_emp) (Wk.front [_, _, _] WB _)⟩) ⟨rfl, rfl, rfl, rfl, rfl, rfl, rfl, trivial⟩
  ·intro hb1
   have hk5' : k = 5 := by have : ¬ ((k : Nat) : Int) < 5 := of_decide_eq_false hb1; omega
   rw [hk5', Nat.sub_self] at hli
   have hp2 : p = O2 := hli
   refine T.exit ?_
   refine TE.lq_exit ?_
   refine TE.blk_exit ?_
   refine T.seq <| T.seq <| tx [0,1,2] nf Z Z <| xmv Z Z Z <| xlen Z Z Z u41_dSlice <| xmv Z Z Z <| X.nil <| T.block <| T.unroll 2 <| T.seq <| tx [0] nf Z Z <| xcm (c := false) Z Z Z Z Z (by decide) <| X.nil <| T.seq <| T.no Z <| T.exit ?_
   refine TE.un_exit ?_
   refine TE.blk_exit ?_
   refine T.seq <| tx [0,1,2] nf Z Z <| xld Z Z Z o41 .z Z <| xslo Z Z Z Z s41 (by omega) (Nat.le_refl _) <| xas Z Z Z <| X.nil <| T.ret1 Z (fun W_ D h => ?_)
   obtain ⟨D1, h1, h2⟩ := blks_pick0 [1] (by decide) h
   rw [hp2] at h1
   exact ⟨D1, ⟨ob, rfl, trivial, rfl, h1⟩, h2⟩
end Go.Proofs.YtmpcfamcbaineaaGreat.Mo.Mp
namespace Go.Proofs.YtmpcfamcbaineaaGreat.Mo
open Go.RowKit Go.Proofs.YtmpcfamcbaineaaGreat.Mo
set_option linter.unusedVariables false
set_option linter.unusedSimpArgs false
section
variable {P : Program} {ops : Array Oper} {n : Nat} {lo ef lo1 ef1 lo2 ef2 : Nat → Bool} {K : (World → Prop) → Env → Prop} {Q : Exit → Act → World → Prop}
theorem X.same {lo ef lo' ef' : Nat → Bool} : ∀ {r : List Nat} {S : World → Prop} {U : List (Nat × Value)} {e : Env}, (∀ i ∈ r, lo i = lo' i ∧ ef i = ef' i) → X P ops lo ef K r S U e → X P ops lo' ef' K r S U e
  | [], _, _, _, _, h => h
  | i :: r, S, U, e, hs, ⟨o, ho, h⟩ => by
    obtain ⟨h1, h2⟩ := hs i (List.mem_cons_self ..)
    refine ⟨o, ho, ?_⟩
    rw [h2, h1] at h
    cases hb : ef' i with
    | true =>
      rw [hb] at h
      exact ⟨h.1, fun w hw => eff_mono (h.2 w hw) fun v w' ⟨S', g1, g2, g3⟩ => ⟨S', g1, g2, X.same (fun k hk => hs k (List.mem_cons_of_mem _ hk)) g3⟩⟩
    | false =>
      rw [hb] at h
      obtain ⟨v, g1, g2⟩ := h
      exact ⟨v, g1, X.same (fun k hk => hs k (List.mem_cons_of_mem _ hk)) g2⟩
structure Two (ops : Array Oper) (n : Nat) (pre post : List Nat) (A B : Nat) (lo ef : Nat → Bool) : Prop where
  one : Chk ops n (pre ++ A :: B :: post) (fun i => lo i || i == A) (fun i => ef i && i != A)
  two : Chk ops n (pre ++ B :: A :: post) (fun i => lo i || i == B) (fun i => ef i && i != B)
  ne : A ≠ B
  efA : ef A = true
  efB : ef B = true
  still : ∀ i ∈ pre, ef i = false
theorem x_two {pre post : List Nat} {A B : Nat} (hc : Two ops n pre post A B lo ef) (hK : ∀ S e, K S e → ∀ w a, S w → Fits a n e → Q .normal a w) : ∀ (fuel : Nat) (L : Array Bool) (a : Act) (w : World) (S : World → Prop) (V U : List (Nat × Value)) (e : Env),
    V.length + (post.length + 2) = fuel → X P ops lo ef K (A :: B :: post) S U e → X P ops lo ef K (B :: A :: post) S U e → S w → Inv P ops n (pre ++ A :: B :: post) L a S V (A :: B :: post) e → Inv P ops n (pre ++ B :: A :: post) L a S V (B :: A :: post) e →
    (∀ x ∈ V, lo x.1 = true → x ∈ U) → (∀ x ∈ V, ef x.1 = false) → wpAny P .any ops Q fuel L a w := by
  intro fuel
  induction fuel with
  | zero => intro L a w S V U e hf; omega
  | succ fuel ih =>
    intro L a w S V U e hf hX1 hX2 hS h1 h2 hU hVe
    have hnA : ∀ x ∈ V, x.1 ≠ A := fun x hx he => by have := hVe x hx; rw [he, hc.efA] at this; cases this
    have hnB : ∀ x ∈ V, x.1 ≠ B := fun x hx he => by have := hVe x hx; rw [he, hc.efB] at this; cases this
    have nd1 : (pre ++ A :: B :: post).Nodup := hc.one.nodup
    have nd2 : (pre ++ B :: A :: post).Nodup := hc.two.nodup
    rw [List.nodup_append, List.nodup_cons, List.nodup_cons] at nd1
    obtain ⟨ndp, ⟨nA, nB, ndq⟩, ndx⟩ := nd1
    have nAp : A ∉ pre := fun hm => ndx A hm A (List.mem_cons_self ..) rfl
    have nBp : B ∉ pre := fun hm => ndx B hm B (by simp) rfl
    refine ⟨fun h0 => (h1.ready hc.one (by simp) h0).elim, fun j hj => ?_⟩
    obtain ⟨hju, oj, hoj, hall⟩ := mem_ready.1 hj
    have hjs : j < ops.size := (Array.getElem?_eq_some_iff.1 hoj).1
    obtain ⟨hexec, hwant⟩ := exec_act (ops := ops) (a := a) (e := e) (fun cs b => Region.noSelect_spec hc.one.sel j oj cs b hoj) (h1.looks hc.one hoj hall)
    have undone : ∀ k, k < ops.size → (k ∈ V.map (·.1) ∨ k ∈ A :: B :: post) → ¬ L.getD k false = true := fun k hk hm hd => (listed_iff (ops := ops) h1.size hk).1 hd ((h1.rem _ hk).2 hm)
    -- one of the two is run
    have run : ∀ (i k : Nat) (ord : List Nat) (lo' ef' lo'' ef'' : Nat → Bool), Chk ops n ord lo' ef' → Chk ops n (pre ++ k :: i :: post) lo'' ef'' → ef i = true → ef'' i = true → (∀ x ∈ pre, lo'' x = lo x ∧ ef'' x = ef x) → (∀ x ∈ k :: post, lo x = lo' x ∧ ef x = ef' x) → (∀ x ∈ pre, lo' x = lo x ∧ ef' x = ef x) → i ∉ pre → k ∉ pre →
        X P ops lo ef K (i :: k :: post) S U e → Inv P ops n ord L a S V (i :: k :: post) e → (∀ x ∈ V, x.1 ∈ pre) → j = i → wpOp P ops Q j (wpAny P .any ops Q fuel (L.setIfInBounds j true)) a w := by
      intro i k ord lo' ef' lo'' ef'' hc' hc'' hei hei'' hs'' hs' hsp hip hkp hX h hVp hji
      subst hji
      obtain ⟨o, ho, hx⟩ := hX
      obtain rfl : o = oj := Option.some.inj (ho.symm.trans hoj)
      rw [hei] at hx
      obtain ⟨hwa, hx⟩ := hx
      have hlo : ∀ x ∈ V, x ∈ U := fun x hxV => by
        refine hU x hxV ?_
        cases hl : lo x.1 with
        | true => rfl
        | false =>
          obtain ⟨ox, hox, -⟩ := h.still x hxV
          have hxs : x.1 < ops.size := (Array.getElem?_eq_some_iff.1 hox).1
          obtain ⟨e1, e2⟩ := hs'' x.1 (hVp x hxV)
          have hpos : pos (pre ++ k :: j :: post) x.1 < pos (pre ++ k :: j :: post) j := pos_lt (hVp x hxV) hip
          have h1 := hc''.eff2 x.1 j hxs hjs hei'' (by rw [e2]; exact hVe x hxV) (by rw [e1]; exact hl) hpos
          have h2 := desc_listed h.closed _ j o hoj hall h1
          exact (undone x.1 hxs (.inl (List.mem_map.2 ⟨x, hxV, rfl⟩)) h2).elim
      have hds : ∀ x ∈ V, desc ops ops.size x.1 j = false := fun x hxV => by
        cases hd : desc ops ops.size x.1 j with
        | false => rfl
        | true =>
          obtain ⟨ox, hox, -⟩ := h.still x hxV
          have hxs : x.1 < ops.size := (Array.getElem?_eq_some_iff.1 hox).1
          exact (undone x.1 hxs (.inl (List.mem_map.2 ⟨x, hxV, rfl⟩)) (desc_listed h.closed _ j o hoj hall hd)).elim
      unfold wpOp
      rw [hoj]
      show if Region.wanted o (yielded ops a.tmps) then _ else _
      rw [hwant, hwa, if_pos rfl]
      refine .inl (wp_of_eff (K := fun v w' => ∃ S' : World → Prop, S' w' ∧ (∀ x ∈ U, desc ops ops.size x.1 j = false → ∃ ox, ops[x.1]? = some ox ∧ YE P ops S' ox x.2 e) ∧ X P ops lo ef K (k :: post) S' U (pute o.dst v e)) ?_ ?_)
      · have := hx w hS
        unfold eff at this ⊢
        rw [hexec]
        exact this
      · rintro v w' ⟨S', g1, g2, g3⟩
        refine x_any_aux hc' hK fuel (k :: post) _ _ w' S' V U _ ?_ (X.same hs' g3) g1 (h.go hc' hoj hall (fun x hxV => g2 x (hlo x hxV) (hds x hxV))) (fun x hx hl => hU x hx ?_) (fun x hx => ?_)
        · simp only [List.length_cons]
          omega
        · rw [← (hsp x.1 (hVp x hx)).1]
          exact hl
        · rw [(hsp x.1 (hVp x hx)).2]
          exact hVe x hx
    have hVp : ∀ x ∈ V, x.1 ∈ pre := fun x hx => by
      obtain ⟨p, hp, hq⟩ := h1.suf
      obtain rfl : pre = p := List.append_cancel_right hp
      exact hq x hx
    rcases (h1.rem j hjs).1 hju with hjV | hjr
    · obtain ⟨x, hx, rfl⟩ := List.mem_map.1 hjV
      obtain ⟨ox, hox, hy⟩ := h1.still x hx
      obtain rfl : ox = oj := Option.some.inj (hox.symm.trans hoj)
      have i1 := h1.take hc.one hx hoj hall
      have i2 := h2.take hc.two hx hoj hall
      have hlen := filter_len V h1.nodup hjV
      have hU' : ∀ y ∈ V.filter (fun y => y.1 != x.1), lo y.1 = true → y ∈ U := fun y hy hl => hU y (List.mem_filter.1 hy).1 hl
      have hV' : ∀ y ∈ V.filter (fun y => y.1 != x.1), ef y.1 = false := fun y hy => hVe y (List.mem_filter.1 hy).1
      unfold wpOp
      rw [hoj]
      show if Region.wanted ox (yielded ops a.tmps) then _ else _
      rcases hy with ⟨hwa, hy⟩ | ⟨hwa, hv⟩
      · rw [hwant, hwa, if_pos rfl]
        refine .inl (wp_of_eff (K := fun u w' => u = x.2 ∧ S w') ?_ ?_)
        · have := hy w hS
          unfold eff at this ⊢
          rw [hexec]
          exact this
        · rintro u w' ⟨rfl, hS'⟩
          exact ih _ _ w' S _ U e (by omega) hX1 hX2 hS' i1 i2 hU' hV'
      · rw [hwant, hwa]
        show wpAny P .any ops Q fuel _ (a.put ox.dst undef) w
        rw [← hv]
        exact ih _ _ w S _ U e (by omega) hX1 hX2 hS i1 i2 hU' hV'
    · have ppost : ∀ x ∈ pre, x ≠ A ∧ x ≠ B := fun x hx => ⟨fun e => nAp (e ▸ hx), fun e => nBp (e ▸ hx)⟩
      have pp2 : ∀ x ∈ post, x ≠ A ∧ x ≠ B := fun x hx => ⟨fun e => nA (by rw [← e]; simp [hx]), fun e => nB (e ▸ hx)⟩
      rcases List.mem_cons.1 hjr with hjA | hjr
      · refine run A B _ _ _ _ _ hc.one hc.two hc.efA (by simp [hc.efA, hc.ne]) (fun x hx => by have := ppost x hx; simp [this.2]) (fun x hx => ?_) (fun x hx => by have := ppost x hx; simp [this.1]) nAp nBp hX1 h1 hVp hjA
        rcases List.mem_cons.1 hx with rfl | hx
        · simp [Ne.symm hc.ne]
        · simp [(pp2 x hx).1]
      · rcases List.mem_cons.1 hjr with hjB | hjp
        · refine run B A _ _ _ _ _ hc.two hc.one hc.efB (by simp [hc.efB, Ne.symm hc.ne]) (fun x hx => by have := ppost x hx; simp [this.1]) (fun x hx => ?_) (fun x hx => by have := ppost x hx; simp [this.2]) nBp nAp hX2 h2 hVp hjB
          rcases List.mem_cons.1 hx with rfl | hx
          · simp [hc.ne]
          · simp [(pp2 x hx).2]
        · have hBs : B < ops.size := hc.one.lt B (by simp)
          have hpos : pos (pre ++ A :: B :: post) B < pos (pre ++ A :: B :: post) j := by
            rw [show pre ++ A :: B :: post = (pre ++ [A, B]) ++ post by simp]
            refine pos_lt (by simp) (fun hm => ?_)
            rcases List.mem_append.1 hm with hm | hm
            · exact ndx j hm j (by simp [hjp]) rfl
            · have := pp2 j hjp
              simp [this.1, this.2] at hm
          have g := desc_listed h1.closed _ j oj hoj hall (hc.one.eff1 B j hBs hjs (by simp [hc.efB, Ne.symm hc.ne]) hpos)
          exact (undone B hBs (.inr (by simp)) g).elim
def uO (ops : Array Oper) (lo : Nat → Bool) : List Nat → Env → List (Nat × Value)
  | [], _ => []
  | i :: r, e => bif lo i then (i, match ops[i]? with | some o => (match o.dst with | some t => lk e t | none => undef) | none => undef) :: uO ops lo r e else uO ops lo r e
theorem mem_uO {i t : Nat} {o : Oper} {e : Env} (ho : ops[i]? = some o) (hd : o.dst = some t) (hl : lo i = true) : ∀ {r : List Nat}, i ∈ r → (i, lk e t) ∈ uO ops lo r e
  | [], h => by simp at h
  | j :: r, h => by
    unfold uO
    rcases List.mem_cons.1 h with rfl | h
    · rw [hl, ho]
      simp only [hd, cond_true]
      exact List.mem_cons_self ..
    · have := mem_uO (e := e) ho hd hl h
      cases lo j with
      | true => exact List.mem_cons_of_mem _ this
      | false => exact this
def twoB (ops : Array Oper) (n : Nat) (pre post : List Nat) (A B : Nat) (lo ef : Nat → Bool) : Bool :=
  chk ops n (pre ++ A :: B :: post) (fun i => lo i || i == A) (fun i => ef i && i != A) && chk ops n (pre ++ B :: A :: post) (fun i => lo i || i == B) (fun i => ef i && i != B) && A != B && ef A && ef B && pre.all (fun i => !ef i) && (List.range ops.size).all (fun i => !lo i || match ops[i]? with | some o => o.dst.isSome | none => true)
theorem x_pre {pre post : List Nat} {A B : Nat} (hc : Two ops n pre post A B lo ef) (hdst : ∀ i o, ops[i]? = some o → lo i = true → ∃ t, o.dst = some t) (hK : ∀ S e, K S e → ∀ w a, S w → Fits a n e → Q .normal a w) {S : World → Prop} :
    ∀ (r : List Nat) (L : Array Bool) (a : Act) (w : World) (V U : List (Nat × Value)) (e : Env), (∀ i ∈ r, ef i = false) →
      X P ops lo ef (fun S e => X P ops lo ef K (A :: B :: post) S (uO ops lo pre.reverse e) e ∧ X P ops lo ef K (B :: A :: post) S (uO ops lo pre.reverse e) e) r S U e → S w →
      Inv P ops n (pre ++ A :: B :: post) L a S V (r ++ A :: B :: post) e → Inv P ops n (pre ++ B :: A :: post) L a S V (r ++ B :: A :: post) e → (∀ x ∈ V, ef x.1 = false) → wpAny P .any ops Q (V.length + (r.length + (post.length + 2))) L a w
  | [], L, a, w, V, U, e, _, hX, hS, h1, h2, hVe => by
    have hVp : ∀ x ∈ V, x.1 ∈ pre := fun x hx => by
      obtain ⟨p, hp, hq⟩ := h1.suf
      obtain rfl : pre = p := List.append_cancel_right hp
      exact hq x hx
    refine x_two hc hK _ L a w S V _ e (by simp) hX.1 hX.2 hS h1 h2 (fun x hx hl => ?_) hVe
    obtain ⟨ox, hox, -⟩ := h1.still x hx
    obtain ⟨t, ht⟩ := hdst x.1 ox hox hl
    have h3 := h1.has x hx t (by rw [dst_bind hox]; exact ht)
    have h4 := mem_uO (e := e) hox ht hl (List.mem_reverse.2 (hVp x hx))
    rw [h3] at h4
    exact h4
  | i :: r, L, a, w, V, U, e, hq, ⟨o, ho, hx⟩, hS, h1, h2, hVe => by
    have hei := hq i (List.mem_cons_self ..)
    rw [hei] at hx
    obtain ⟨v, hy, hx⟩ := hx
    have := x_pre hc hdst hK r L a w (V ++ [(i, v)]) _ (pute o.dst v e) (fun k hk => hq k (List.mem_cons_of_mem _ hk)) hx hS (h1.later hc.one ho hy) (h2.later hc.two ho hy) (fun x hx' => by
      rcases List.mem_append.1 hx' with hx' | hx'
      · exact hVe x hx'
      · simp only [List.mem_singleton] at hx'
        subst hx'
        exact hei)
    rw [List.length_append, List.length_singleton] at this
    rw [List.length_cons, show V.length + (r.length + 1 + (post.length + 2)) = V.length + 1 + (r.length + (post.length + 2)) by omega]
    exact this
theorem x_any2 {id : Nat} {pre post : List Nat} {A B : Nat} (hm : P.follows .mixedOrders = true) (hck : twoB ops n pre post A B lo ef = true) (hK : ∀ S e, K S e → ∀ w a, S w → Fits a n e → Q .normal a w) {S : World → Prop} {e : Env}
    (hX : X P ops lo ef (fun S e => X P ops lo ef K (A :: B :: post) S (uO ops lo pre.reverse e) e ∧ X P ops lo ef K (B :: A :: post) S (uO ops lo pre.reverse e) e) pre S [] e) (hS : ∀ w, S w → S w.drew)
    {w : World} {a : Act} (hw : S w) (hF : Fits a n e) : (Code.region id ops true).wp P Q a w := by
  unfold twoB at hck
  simp only [Bool.and_eq_true, bne_iff_ne, List.all_eq_true, List.mem_range] at hck
  obtain ⟨⟨⟨⟨⟨⟨k1, k2⟩, k3⟩, k4⟩, k5⟩, k6⟩, k7⟩ := hck
  have hc : Two ops n pre post A B lo ef := ⟨chk_spec k1, chk_spec k2, k3, k4, k5, fun i hi => by simpa using k6 i hi⟩
  have hdst : ∀ i o, ops[i]? = some o → lo i = true → ∃ t, o.dst = some t := fun i o ho hl => by
    have := k7 i (Array.getElem?_eq_some_iff.1 ho).1
    rw [ho, hl] at this
    simpa [Option.isSome_iff_exists] using this
  have hlen : ([] : List (Nat × Value)).length + (pre.length + (post.length + 2)) = ops.size := by
    have := hc.one.len
    simp only [List.length_append, List.length_cons] at this
    simp only [List.length_nil]
    omega
  refine wp_region_any hm ?_
  have inv : ∀ (ord : List Nat) (lo' ef' : Nat → Bool), Chk ops n ord lo' ef' → Inv P ops n ord (Array.replicate ops.size false) { a with tmps := a.tmps } S [] ord e := fun ord lo' ef' hc' => by
    refine ⟨by simp, hF.defers, hF.size, fun t _ => hF.at_ t, by simp, fun i hi => ?_, fun j oj ho hl => ?_, ⟨[], rfl, by simp⟩, by simp, by simp⟩
    · have := hc'.mem i hi
      simp [hi, this]
    · have hj : j < ops.size := (Array.getElem?_eq_some_iff.1 ho).1
      simp [hj] at hl
  have := x_pre hc hdst hK pre (Array.replicate ops.size false) a w.drew [] [] e hc.still hX (hS w hw) (inv _ _ _ hc.one) (inv _ _ _ hc.two) (by simp)
  rw [hlen] at this
  exact this
end
section
variable {Q : Exit → Act → World → Prop} {n : Nat} {r : List Code} {S : World → Prop} {e : Env}
theorem T.any2 {id : Nat} {ops : Array Oper} (pre post : List Nat) (A B : Nat) {lo ef : Nat → Bool} (hck : twoB ops n pre post A B lo ef = true) (hS : ∀ w, S w → S w.drew)
    (h : X Tryz.prog ops lo ef (fun S e => X Tryz.prog ops lo ef (fun S e => T Q n r S e) (A :: B :: post) S (uO ops lo pre.reverse e) e ∧ X Tryz.prog ops lo ef (fun S e => T Q n r S e) (B :: A :: post) S (uO ops lo pre.reverse e) e) pre S [] e) : T Q n (.region id ops true :: r) S e := fun w a hw hF =>
  x_any2 mixed hck (fun S' e' (hk : T Q n r S' e') w' a' hS' hF' => hk w' a' hS' hF') h hS hw hF
end
end Go.Proofs.YtmpcfamcbaineaaGreat.Mo
namespace Go.Proofs.YtmpcfamcbaineaaGreat.Mo.Mp
open Go.RowKit Go.Proofs.YtmpcfamcbaineaaGreat.Mo
set_option linter.unusedVariables false
set_option linter.unusedSimpArgs false
theorem top_of {C : Cx} {f n : Nat} {fn : Func} {c : Code} {vs : List Value} {l : Wds} {Q : Value → Wds → Asr} (w0 : World) (hf : Tryz.prog.funcs[f]? = some fn) (hb : fn.body = some c) (hnt : fn.ntmps = n) (hn : vs.length ≤ n)
    (h : T (bodyPost Tryz.prog fn (Fin C w0 (fun _ => False) Q)) n [c] (Sy C w0 (fun _ => False) l [] emp) (mkE 0 vs)) : Calls Tryz.prog f vs.toArray w0 (Fin C w0 (fun _ => False) Q) := by
  subst hnt
  refine calls_of_wp hf hb ?_
  have := h w0 _ ⟨⟨fun k hk => hk.elim⟩, Chg.refl _ _, ⟨⟩, loc_emp, fun _ => False, fun _ h => h, fun k hk => hk.elim⟩ (fits_init vs fn.ntmps hn)
  refine wp_mono this ?_
  intro ex a' w' hq
  cases ex <;> exact hq
theorem Sy.old {C : Cx} {w0 w : World} {l : Wds} {H : List Bk} {R : Asr} (h : Sy C w0 (fun _ => False) l H R w) {a : Addr} (ha : a.block < w0.heap.size) {v : Value} (hv : w0.cell? a = some v) : w.cell? a = some v := by
  have := h.chg.block a.block ha (fun h => h)
  unfold World.cell? at hv ⊢
  rw [this]
  exact hv
theorem add_block (a : Addr) (n : Nat) : (a.add n).block = a.block := by
  unfold Addr.add
  split <;> rfl
theorem run_ixr {t e n len c : Nat} {a : Addr} {k : IntKind} {i : Int} (h : slcB t e n = true) (h0 : 0 ≤ i) (h1 : i < len) (w : World) :
    (Instr.indexAt t (.slice (some a) len c) (.int k i)).run Tryz.prog w = .ok (.pointer (some (a.add (i.toNat * n)))) w := by
  obtain ⟨inf, z, hu, hi, hz, hs, -⟩ := slcB_of h
  have hu' : (underlying t).run Tryz.prog w = .ok (.slice e) w := by unfold underlying; simp [go_sem, hu]
  have h2 : 0 ≤ i ∧ i < len := ⟨h0, h1⟩
  unfold Instr.indexAt sizeOf typeInfo
  simp [go_sem, hu', h2, hi, hs]
section
variable {C : Cx} {w0 : World} {D0 : Dom} {l l' : Wds} {H H' Hr H1 H2 : List Bk} {R R' : Asr}
variable {ops : Array Oper} {lo ef : Nat → Bool} {K : (World → Prop) → Env → Prop} {i : Nat} {rr : List Nat} {S : World → Prop} {U : List (Nat × Value)} {e : Env} {d : Option Nat} {ty : Nat} {ps : String} {af : Array Edge} {gd : Option (Nat × Bool)} {x y z : Operand} {v u : Value}
theorem xixr {t et n len c : Nat} {b : Addr} {k : IntKind} {j : Int} (ho : ops[i]? = some ⟨d, .indexAddr t x y, ty, ps, af, gd⟩) (hef0 : (ef i, wantedE ops ⟨d, .indexAddr t x y, ty, ps, af, gd⟩ e) = (false, true)) (hx : evo e x = some (.slice (some b) len c)) (hy : evo e y = some (.int k j)) (ht : slcB t et n = true) (h0 : 0 ≤ j ∧ j < len)
    (h : X Tryz.prog ops lo ef K rr S (bif lo i then (i, .pointer (some (b.add (j.toNat * n)))) :: U else U) (pute d (.pointer (some (b.add (j.toNat * n)))) e)) : X Tryz.prog ops lo ef K (i :: rr) S U e := have ⟨hef, hw⟩ := tri2 hef0;
  x_val ho hef hw (fun w _ => exv (m := Instr.indexAt t (ev e x) (ev e y)) rfl (by rw [ev_of hx, ev_of hy]; exact run_ixr ht h0.1 h0.2 w)) h
theorem xldr {t : Nat} {a : Addr} (ho : ops[i]? = some ⟨d, .load t x, ty, ps, af, gd⟩) (hef0 : (ef i, wantedE ops ⟨d, .load t x, ty, ps, af, gd⟩ e) = (false, true)) (hx : evo e x = some (.pointer (some a))) (h1 : one t = true) (ha : a.block < w0.heap.size) (hv : w0.cell? a = some v)
    (h : X Tryz.prog ops lo ef K rr (Sy C w0 (fun _ => False) l H R) (bif lo i then (i, v) :: U else U) (pute d v e)) : X Tryz.prog ops lo ef K (i :: rr) (Sy C w0 (fun _ => False) l H R) U e := have ⟨hef, hw⟩ := tri2 hef0;
  x_val ho hef hw (fun w hS => exv (m := Instr.loadAt t (ev e x)) rfl (by rw [ev_of hx]; exact run_loadVar_one h1 (hS.old ha hv))) h
theorem pxixr {jj : Nat} {t et n len c : Nat} {b : Addr} {k : IntKind} {j : Int} (ho0 : (ops[i]?, wantedE ops ⟨d, .indexAddr t x y, ty, ps, af, gd⟩ e) = (some ⟨d, .indexAddr t x y, ty, ps, af, gd⟩, true)) (hx : evo e x = some (.slice (some b) len c)) (hy : evo e y = some (.int k j)) (ht : slcB t et n = true) (h0 : 0 ≤ j ∧ j < len)
    (h : Pend ops jj U S e) : Pend ops jj ((i, .pointer (some (b.add (j.toNat * n)))) :: U) S e := have ⟨ho, hw⟩ := tri2 ho0;
  pendv ho hw (fun w _ => exv (m := Instr.indexAt t (ev e x) (ev e y)) rfl (by rw [ev_of hx, ev_of hy]; exact run_ixr ht h0.1 h0.2 w)) h
theorem pxldr {jj : Nat} {t : Nat} {a : Addr} (ho0 : (ops[i]?, wantedE ops ⟨d, .load t x, ty, ps, af, gd⟩ e) = (some ⟨d, .load t x, ty, ps, af, gd⟩, true)) (hx : evo e x = some (.pointer (some a))) (h1 : one t = true) (ha : a.block < w0.heap.size) (hv : w0.cell? a = some v)
    (h : Pend ops jj U (Sy C w0 (fun _ => False) l H R) e) : Pend ops jj ((i, v) :: U) (Sy C w0 (fun _ => False) l H R) e := have ⟨ho, hw⟩ := tri2 ho0;
  pendv ho hw (fun w hS => exv (m := Instr.loadAt t (ev e x)) rfl (by rw [ev_of hx]; exact run_loadVar_one h1 (hS.old ha hv))) h
theorem pxbo {jj : Nat} {op : BinOp} {t t' : Nat} {a b : Value} (ho0 : (ops[i]?, wantedE ops ⟨d, .binOp op t x y t', ty, ps, af, gd⟩ e) = (some ⟨d, .binOp op t x y t', ty, ps, af, gd⟩, true)) (hx : evo e x = some a) (hy : evo e y = some b)
    (hg : ∀ w, (eqGuard op t x y a b).run Tryz.prog w = .ok () w) (hr : ∀ w, (binOp op t a b).run Tryz.prog w = .ok v w)
    (h : Pend ops jj U S e) : Pend ops jj ((i, v) :: U) S e := have ⟨ho, hw⟩ := tri2 ho0;
  pendv ho hw (fun w _ => by
    rw [exec_binOp, Sem.run_bind, ev_of hx, ev_of hy, Sem.run_bind, hg w, Result.andThen_ok, hr w]
    rfl) h
end
theorem run_shr1 {t : Nat} {a : Int} (h : 0 ≤ a ∧ a ≤ 255) (w : World) : (binOp .shr t (.int .u8 a) (.int .u64 1)).run Tryz.prog w = .ok (.int .u8 (a / 2)) w := by
  simp [binOp, go_sem]
theorem five (c : Cfg) : ((0 ≤ c.k0 ∧ c.k0 ≤ 6) ∧ (0 ≤ c.k1 ∧ c.k1 ≤ 6) ∧ (0 ≤ c.k2 ∧ c.k2 ≤ 6) ∧ (0 ≤ c.k3 ∧ c.k3 ≤ 6) ∧ (0 ≤ c.k4 ∧ c.k4 ≤ 6)) ∨ (c.k0 < 0) ∨ (6 < c.k0) ∨ ((0 ≤ c.k0 ∧ c.k0 ≤ 6) ∧ c.k1 < 0) ∨ ((0 ≤ c.k0 ∧ c.k0 ≤ 6) ∧ 6 < c.k1) ∨ ((0 ≤ c.k0 ∧ c.k0 ≤ 6) ∧ (0 ≤ c.k1 ∧ c.k1 ≤ 6) ∧ c.k2 < 0) ∨ ((0 ≤ c.k0 ∧ c.k0 ≤ 6) ∧ (0 ≤ c.k1 ∧ c.k1 ≤ 6) ∧ 6 < c.k2) ∨
    ((0 ≤ c.k0 ∧ c.k0 ≤ 6) ∧ (0 ≤ c.k1 ∧ c.k1 ≤ 6) ∧ (0 ≤ c.k2 ∧ c.k2 ≤ 6) ∧ c.k3 < 0) ∨ ((0 ≤ c.k0 ∧ c.k0 ≤ 6) ∧ (0 ≤ c.k1 ∧ c.k1 ≤ 6) ∧ (0 ≤ c.k2 ∧ c.k2 ≤ 6) ∧ 6 < c.k3) ∨
    ((0 ≤ c.k0 ∧ c.k0 ≤ 6) ∧ (0 ≤ c.k1 ∧ c.k1 ≤ 6) ∧ (0 ≤ c.k2 ∧ c.k2 ≤ 6) ∧ (0 ≤ c.k3 ∧ c.k3 ≤ 6) ∧ c.k4 < 0) ∨ ((0 ≤ c.k0 ∧ c.k0 ≤ 6) ∧ (0 ≤ c.k1 ∧ c.k1 ≤ 6) ∧ (0 ≤ c.k2 ∧ c.k2 ≤ 6) ∧ (0 ≤ c.k3 ∧ c.k3 ≤ 6) ∧ 6 < c.k4) := by omega
theorem four_ev {n : Int} {e : Ev} (h : ¬ badEv n e) : e.kind < 1 ∨ ((1 ≤ e.kind ∧ e.kind ≤ 4) ∧ e.a = n) ∨ (4 < e.kind ∧ e.kind ≠ 5 ∧ e.kind < 8) ∨ 13 < e.kind := by
  unfold badEv at h
  omega
theorem run_who {a : Int} {A : Nat} (h : 0 ≤ a) (hA : 0 < A) (w : World) : (binOp .rem 3 (.int .i64 a) (.int .i64 ((A : Nat) : Int))).run Tryz.prog w = .ok (.int .i64 (((a.toNat % A : Nat)) : Int)) w := by
  have e : ((a.toNat % A : Nat) : Int) = a.tmod ((A : Nat) : Int) := by
    rw [Int.tmod_eq_emod_of_nonneg h]
    have : ((a.toNat : Nat) : Int) = a := Int.toNat_of_nonneg h
    rw [Int.natCast_emod, this]
  rw [e]
  exact run_remi (by omega) w
theorem Wo.Go.runS {M : MapM} (hM : M.Ok) {zs : List Int} {W : Wo} {A k : Nat} (h : W.Go M A k) : ∀ i, (Mo.runS M zs W i).Go M A (k + i)
  | 0 => h
  | i + 1 => (Wo.Go.runS hM h i).step hM _ _
theorem ct_Census1 {C : Cx} {l : Wds} {K : Mo.Cx} {l0 ws : Wds} {nb nc n : Nat} {Rw : Asr} (hRw : Loc Rw) (hM : K.M.Ok) (hN : n = K.M.nodes.toNat) (hn : 1 ≤ K.M.nodes ∧ K.M.nodes ≤ 60) (hrng : Rng ws) (hfl : 0 < ws.length ∧ ws.length ≤ 1000000) {cs : List Int} (hcs : census K.M ws = cs) :
    Ce (α := Nat) C 12 [ptr K.m, slv nb ws.length nc, .slice none 0 0] l (blks [⟨nb, 90, u64s ws⟩] (wrap K l0 Rw)) (fun ob => .slice (some ⟨ob, 1, none⟩) n n) l (fun _ => True) (fun ob => blks [⟨ob, 3, i64s cs⟩] emp) := by
  have := ct_Census (C := C) (l := l) (l0 := l0) (nb := nb) (nc := nc) hRw hM (show n + 1 = K.M.nodes.toNat + 1 by omega) hn hrng hfl
  rw [if_neg (by omega), hcs] at this
  exact this
end Go.Proofs.YtmpcfamcbaineaaGreat.Mo.Mp
namespace Go.Proofs.YtmpcfamcbaineaaGreat.Mo
open Go.RowKit Go.Proofs.YtmpcfamcbaineaaGreat.Mo
set_option linter.unusedVariables false
set_option linter.unusedSimpArgs false
theorem g10 : fnB 10 = true := by kernel_rfl
theorem g12 : fnB 12 = true := by kernel_rfl
theorem g13 : fnB 13 = true := by kernel_rfl
theorem g5 : fnB 5 = true := by kernel_rfl
theorem o5 : one 5 = true := by kernel_rfl
theorem s25 : slcB 25 5 1 = true := by kernel_rfl
theorem u25_dSlice : undIs 25 (dSlice) = true := by kernel_rfl
theorem u5_fun_true : undIs 5 (fun _ => true) = true := by kernel_rfl
end Go.Proofs.YtmpcfamcbaineaaGreat.Mo
namespace Go.Proofs.YtmpcfamcbaineaaGreat.Mo.Mp
open Go.RowKit Go.Proofs.YtmpcfamcbaineaaGreat.Mo
set_option linter.unusedVariables false
set_option linter.unusedSimpArgs false
theorem four_in (N : Int) (len : Nat) (P : Prop) : (N ≤ 14 ∧ len ≤ 3000 ∧ P) ∨ 14 < N ∨ (N ≤ 14 ∧ 3000 < len) ∨ (N ≤ 14 ∧ len ≤ 3000 ∧ ¬ P) := by
 rcases Classical.em P with h | h
 ·by_cases h1 : N ≤ 14
  ·by_cases h2 : len ≤ 3000
   ·exact .inl ⟨h1, h2, h⟩
   ·exact .inr (.inr (.inl ⟨h1, by omega⟩))
  ·exact .inr (.inl (by omega))
 ·by_cases h1 : N ≤ 14
  ·by_cases h2 : len ≤ 3000
   ·exact .inr (.inr (.inr ⟨h1, h2, h⟩))
   ·exact .inr (.inr (.inl ⟨h1, by omega⟩))
  ·exact .inr (.inl (by omega))
theorem cell_two {n v : Nat} (h : v < n - 1) : nth (i64s (0 :: (List.replicate (n - 1) 2 ++ [1]))) (1 + ((v : Nat) : Int).toNat * 1) = some (.int .i64 2) := by
 rw [nth_eq, Int.toNat_natCast, Nat.mul_one, Nat.add_comm]
 simp [i64s, List.getElem?_append_left, h]
theorem cell_one {n v : Nat} (h : v = n - 1) (hn : 1 ≤ n) : nth (i64s (0 :: (List.replicate (n - 1) 2 ++ [1]))) (1 + ((v : Nat) : Int).toNat * 1) = some (.int .i64 1) := by
 subst h
 rw [nth_eq, Int.toNat_natCast, Nat.mul_one, Nat.add_comm]
 simp [i64s]
set_option maxRecDepth 20000 in
set_option maxHeartbeats 4000000 in
theorem top_walk {C : Cx} {l : Wds} (w0 : World) {c : Cfg} {a : Option Addr} {len cap : Nat} {zs : List Int} (hnil : a = none → len = 0) (hrow : ∀ x, a = some x → ∀ i, i < len → x.block < w0.heap.size ∧ w0.cell? (x.add i) = some (.int .u8 (pickOf zs i))) (hz : ∀ i, 0 ≤ pickOf zs i ∧ pickOf zs i ≤ 255)
  (hgood : c.ok = true → ((0 ≤ c.k0 ∧ c.k0 ≤ 6) ∧ (0 ≤ c.k1 ∧ c.k1 ≤ 6) ∧ (0 ≤ c.k2 ∧ c.k2 ≤ 6) ∧ (0 ≤ c.k3 ∧ c.k3 ≤ 6) ∧ (0 ≤ c.k4 ∧ c.k4 ≤ 6)) → c.nodes ≤ 14 → len ≤ 3000 →
   (∀ i, i < len → ¬ badEv c.map.nodes (evS c.map zs (Wo.new c.map []) i)) ∧ census c.map (runS c.map zs (Wo.new c.map []) len).l = 0 :: (List.replicate (c.nodes.toNat - 1) 2 ++ [1]) ∧ (0 < (runS c.map zs (Wo.new c.map []) len).l.length ∧ (runS c.map zs (Wo.new c.map []) len).l.length ≤ 1000000)) :
  Calls Tryz.prog 3 [.agg c.cells.toArray, .slice a len cap].toArray w0 (Fin C w0 (fun _ => False) fun u m D w => u = .bool true ∧ m = l ∧ emp D w) := by
 refine top_of (l := l) (vs := [.agg c.cells.toArray, .slice a len cap]) w0 Tryz.func3 rfl Tryz.ntmps3 (by simp) ?_
 refine T.seq <| tx [0,1] (ct [0]) Z Z <| xbx Z Z Z Z (fun _ => pend0) (fun b0 => ?_)
 refine xas Z Z Z <| X.nil <| T.seq <| tx [0,1] nf Z Z <| xcq Z Z Z Z g5 (Cv.frame0 loc_emp ct_awake0) loc_emp <| xas Z Z Z <| X.nil <| T.seq <| T.seq <| tx [0,1] nf Z Z <| xmv Z Z Z <| xnott Z Z Z <| X.nil <| T.no Z <| T.skip <| T.seq ?_
 rcases five c with ⟨q0, q1, q2, q3, q4⟩ | qz | qz | ⟨q0, qz⟩ | ⟨q0, qz⟩ | ⟨q0, q1, qz⟩ | ⟨q0, q1, qz⟩ | ⟨q0, q1, q2, qz⟩ | ⟨q0, q1, q2, qz⟩ | ⟨q0, q1, q2, q3, qz⟩ | ⟨q0, q1, q2, q3, qz⟩
 ·skip
  refine tx [0] nf Z Z <| xas Z Z Z <| X.nil <| T.seq <| T.seq <| tx [0] nf Z Z <| xas Z Z Z <| X.nil <| T.block <| T.unroll 6 <| T.seq <| T.seq <| tx [0,1] nf Z Z <| xmv Z Z Z <| xcm (c := true) Z Z Z Z Z (by decide) <| X.nil <| T.yes Z <| T.skip ?_
  refine T.seq <| T.block <| T.seq <| T.seq <| tx [0,1,2,3,4,5,6,7,8,9,10,11] nf Z Z <| xmv Z Z Z <| xfa Z Z Z f24_0 <| xixa Z Z Z Z a22 o3 (by decide) <| xld Z Z Z o3 .z Z <| xcm (c := false) Z Z Z Z Z (decide_eq_false (by omega)) <| xmv Z Z Z ?_
  refine xmv Z Z Z <| xfa Z Z Z f24_0 <| xixa Z Z Z Z a22 o3 (by decide) <| xld Z Z Z o3 .z Z <| xcm (c := false) Z Z Z Z Z (decide_eq_false (by omega)) <| xpkf Z Z Z Z <| X.nil <| T.no Z <| T.skip <| tx [0,1,2,3,4,5,6] nf Z Z <| xmv Z Z Z <| xmv Z Z Z ?_
  refine xfa Z Z Z f24_0 <| xixa Z Z Z Z a22 o3 (by decide) <| xld Z Z Z o3 .z Z <| xarc (c := c.k0) Z Z Z Z Z (by simp only [ari]; rw [IntWalk.i64_in _ (by omega)] <;> omega) <| xas Z Z Z <| X.nil <| T.blk_end <| tx [0,1,2] nf Z Z <| xmv Z Z Z ?_
  refine xarc (c := 1) Z Z Z Z Z (by decide) <| xas Z Z Z <| X.nil <| T.un_end <| T.seq <| T.seq <| tx [0,1] nf Z Z <| xmv Z Z Z <| xcm (c := true) Z Z Z Z Z (by decide) <| X.nil <| T.yes Z <| T.skip <| T.seq <| T.block <| T.seq <| T.seq ?_
  refine tx [0,1,2,3,4,5,6,7,8,9,10,11] nf Z Z <| xmv Z Z Z <| xfa Z Z Z f24_0 <| xixa Z Z Z Z a22 o3 (by decide) <| xld Z Z Z o3 .z Z <| xcm (c := false) Z Z Z Z Z (decide_eq_false (by omega)) <| xmv Z Z Z <| xmv Z Z Z <| xfa Z Z Z f24_0 ?_
  refine xixa Z Z Z Z a22 o3 (by decide) <| xld Z Z Z o3 .z Z <| xcm (c := false) Z Z Z Z Z (decide_eq_false (by omega)) <| xpkf Z Z Z Z <| X.nil <| T.no Z <| T.skip <| tx [0,1,2,3,4,5,6] nf Z Z <| xmv Z Z Z <| xmv Z Z Z <| xfa Z Z Z f24_0 ?_
  refine xixa Z Z Z Z a22 o3 (by decide) <| xld Z Z Z o3 .z Z <| xarc (c := (c.k0 + c.k1)) Z Z Z Z Z (by simp only [ari]; rw [IntWalk.i64_in _ (by omega)] <;> omega) <| xas Z Z Z <| X.nil <| T.blk_end <| tx [0,1,2] nf Z Z <| xmv Z Z Z ?_
  refine xarc (c := 2) Z Z Z Z Z (by decide) <| xas Z Z Z <| X.nil <| T.un_end <| T.seq <| T.seq <| tx [0,1] nf Z Z <| xmv Z Z Z <| xcm (c := true) Z Z Z Z Z (by decide) <| X.nil <| T.yes Z <| T.skip <| T.seq <| T.block <| T.seq <| T.seq ?_
  refine tx [0,1,2,3,4,5,6,7,8,9,10,11] nf Z Z <| xmv Z Z Z <| xfa Z Z Z f24_0 <| xixa Z Z Z Z a22 o3 (by decide) <| xld Z Z Z o3 .z Z <| xcm (c := false) Z Z Z Z Z (decide_eq_false (by omega)) <| xmv Z Z Z <| xmv Z Z Z <| xfa Z Z Z f24_0 ?_
  refine xixa Z Z Z Z a22 o3 (by decide) <| xld Z Z Z o3 .z Z <| xcm (c := false) Z Z Z Z Z (decide_eq_false (by omega)) <| xpkf Z Z Z Z <| X.nil <| T.no Z <| T.skip <| tx [0,1,2,3,4,5,6] nf Z Z <| xmv Z Z Z <| xmv Z Z Z <| xfa Z Z Z f24_0 ?_
  refine xixa Z Z Z Z a22 o3 (by decide) <| xld Z Z Z o3 .z Z <| xarc (c := (c.k0 + c.k1 + c.k2)) Z Z Z Z Z (by simp only [ari]; rw [IntWalk.i64_in _ (by omega)] <;> omega) <| xas Z Z Z <| X.nil <| T.blk_end <| tx [0,1,2] nf Z Z <| xmv Z Z Z ?_
  refine xarc (c := 3) Z Z Z Z Z (by decide) <| xas Z Z Z <| X.nil <| T.un_end <| T.seq <| T.seq <| tx [0,1] nf Z Z <| xmv Z Z Z <| xcm (c := true) Z Z Z Z Z (by decide) <| X.nil <| T.yes Z <| T.skip <| T.seq <| T.block <| T.seq <| T.seq ?_
  refine tx [0,1,2,3,4,5,6,7,8,9,10,11] nf Z Z <| xmv Z Z Z <| xfa Z Z Z f24_0 <| xixa Z Z Z Z a22 o3 (by decide) <| xld Z Z Z o3 .z Z <| xcm (c := false) Z Z Z Z Z (decide_eq_false (by omega)) <| xmv Z Z Z <| xmv Z Z Z <| xfa Z Z Z f24_0 ?_
  refine xixa Z Z Z Z a22 o3 (by decide) <| xld Z Z Z o3 .z Z <| xcm (c := false) Z Z Z Z Z (decide_eq_false (by omega)) <| xpkf Z Z Z Z <| X.nil <| T.no Z <| T.skip <| tx [0,1,2,3,4,5,6] nf Z Z <| xmv Z Z Z <| xmv Z Z Z <| xfa Z Z Z f24_0 ?_
  refine xixa Z Z Z Z a22 o3 (by decide) <| xld Z Z Z o3 .z Z <| xarc (c := (c.k0 + c.k1 + c.k2 + c.k3)) Z Z Z Z Z (by simp only [ari]; rw [IntWalk.i64_in _ (by omega)] <;> omega) <| xas Z Z Z <| X.nil <| T.blk_end <| tx [0,1,2] nf Z Z <| xmv Z Z Z ?_
  refine xarc (c := 4) Z Z Z Z Z (by decide) <| xas Z Z Z <| X.nil <| T.un_end <| T.seq <| T.seq <| tx [0,1] nf Z Z <| xmv Z Z Z <| xcm (c := true) Z Z Z Z Z (by decide) <| X.nil <| T.yes Z <| T.skip <| T.seq <| T.block <| T.seq <| T.seq ?_
  refine tx [0,1,2,3,4,5,6,7,8,9,10,11] nf Z Z <| xmv Z Z Z <| xfa Z Z Z f24_0 <| xixa Z Z Z Z a22 o3 (by decide) <| xld Z Z Z o3 .z Z <| xcm (c := false) Z Z Z Z Z (decide_eq_false (by omega)) <| xmv Z Z Z <| xmv Z Z Z <| xfa Z Z Z f24_0 ?_
  refine xixa Z Z Z Z a22 o3 (by decide) <| xld Z Z Z o3 .z Z <| xcm (c := false) Z Z Z Z Z (decide_eq_false (by omega)) <| xpkf Z Z Z Z <| X.nil <| T.no Z <| T.skip <| tx [0,1,2,3,4,5,6] nf Z Z <| xmv Z Z Z <| xmv Z Z Z <| xfa Z Z Z f24_0 ?_
  refine xixa Z Z Z Z a22 o3 (by decide) <| xld Z Z Z o3 .z Z <| xarc (c := (c.k0 + c.k1 + c.k2 + c.k3 + c.k4)) Z Z Z Z Z (by simp only [ari]; rw [IntWalk.i64_in _ (by omega)] <;> omega) <| xas Z Z Z <| X.nil <| T.blk_end <| tx [0,1,2] nf Z Z <| xmv Z Z Z ?_
  refine xarc (c := 5) Z Z Z Z Z (by decide) <| xas Z Z Z <| X.nil <| T.un_end <| T.seq <| T.seq <| tx [0,1] nf Z Z <| xmv Z Z Z <| xcm (c := false) Z Z Z Z Z (by decide) <| X.nil <| T.no Z <| T.exit ?_
  refine TE.un_exit ?_
  refine TE.blk_exit ?_
  refine T.seq <| T.seq ?_
  rcases four_in (c.k0 + c.k1 + c.k2 + c.k3 + c.k4) len (c.ok = true) with ⟨h14, h3k, hok⟩ | h14 | ⟨h14, h3k⟩ | ⟨h14, h3k, hok⟩
  all_goals have hsm : c.Sm := ⟨by omega, by omega, by omega, by omega, by omega⟩
  ·skip
   refine tx [0,1,2,3,4,5,6,7,8,9,10,11] nf Z Z <| xmv Z Z Z <| xcm (c := false) Z Z Z Z Z (decide_eq_false (by omega)) <| xmv Z Z Z <| xmv Z Z Z <| xlen Z Z Z u25_dSlice <| xcm (c := false) Z Z Z Z Z (decide_eq_false (by omega)) <| xpkf Z Z Z Z ?_
   refine xmv Z Z Z <| xlda Z Z Z m24 .z Z <| xcq Z Z Z Z g6 (Cv.frame0 loc_emp (ct_Check hsm)) loc_emp <| xcm (c := false) Z Z Z Z Z (by rw [if_pos hok]; rfl) <| xpkf Z Z Z Z <| X.nil <| T.no Z <| T.skip <| T.seq <| tx [0,1,2,3,4,5,6] (ct [1]) Z Z ?_
   refine xlda Z Z Z m24 .z Z <| xcx (H1 := [_]) (H2 := []) (B := fun (_ : Mo.Cx × Nat) => []) Z Z Z Z g7 Z (ct_woNew hok) (fun _ => loc_wrap loc_WoR) (fun a1 ha1 => pend0) (fun a1 ha1 => ?_)
   refine xmv Z Z Z <| xex Z Z Z Z <| xex Z Z Z Z <| xas Z Z Z <| xas Z Z Z <| X.nil <| T.seq <| T.seq ?_
   obtain ⟨K, p⟩ := a1
   have hKM : K.M = c.map := ha1
   obtain ⟨W0, hW0⟩ : ∃ W0, W0 = Wo.new c.map [] := ⟨_, rfl⟩
   refine T.rebL (H' := [⟨b0, 24, c.cells⟩]) (R' := wrap K W0.l (WoR K p W0)) (loc_wrap loc_WoR) (WkL.of (Wk.of fun D w h => by rw [hW0]; exact h)) ?_
   have hc := Cfg.Ok.of hok
   have hMok := Cfg.map_ok hc
   have hM : K.M.Ok := by rw [hKM]; exact hMok
   have hnu := (Cfg.nums hc).2.1
   have hp : 0 ≤ K.M.parts ∧ K.M.parts ≤ 100000 := by rw [hKM]; exact ⟨hnu.1, Int.le_trans hnu.2 (by decide)⟩
   obtain ⟨A, hA⟩ : ∃ A, A = c.markers.toNat + c.mutators.toNat + 1 := ⟨_, rfl⟩
   have hG0 : W0.Go c.map A 0 := by rw [hW0, hA]; exact Wo.new_go hc (by simp)
   obtain ⟨hev, hcen, hlenF⟩ := hgood hok ⟨q0, q1, q2, q3, q4⟩ (by show (c.k0 + c.k1 + c.k2 + c.k3 + c.k4) ≤ 14; omega) (by omega)
   rw [← hW0] at hev hcen hlenF
   have hnn : c.map.nodes = (c.k0 + c.k1 + c.k2 + c.k3 + c.k4) := rfl
   have hn1 := hc.nodes
   have hnn2 : c.nodes = (c.k0 + c.k1 + c.k2 + c.k3 + c.k4) := rfl
   rw [hnn2] at hn1
   obtain ⟨n, hn⟩ : ∃ n, n = c.nodes.toNat := ⟨_, rfl⟩
   have hnI : ((n : Nat) : Int) = (c.k0 + c.k1 + c.k2 + c.k3 + c.k4) := by rw [hn, hnn2]; omega
   rw [← hn] at hcen
   refine tx [0,1] nf Z Z <| xmv Z Z Z <| xcm (c := false) Z Z Z Z Z (Z) <| X.nil <| T.no Z <| T.skip <| T.seq <| T.seq <| tx [0] nf Z Z <| xas Z Z Z <| X.nil <| T.block ?_
   refine T.loop (fun (x : Nat) w => x ≤ len ∧ Sy C w0 (fun _ => False) l [⟨b0, 24, c.cells⟩] (wrap K (runS c.map zs W0 x).l (WoR K p (runS c.map zs W0 x))) w) (fun x => [(10, .int .i64 ((x : Nat) : Int)), (8, ptr p), (6, .int .i64 (c.k0 + c.k1 + c.k2 + c.k3 + c.k4)), (1, .slice a len cap)]) (fun x => len - x) 0 (fun w h => ⟨Nat.zero_le _, by show Sy _ _ _ _ _ (wrap K W0.l (WoR K p W0)) w; exact h⟩) ⟨Z, Z, Z, Z, trivial⟩ ?_
   rintro i g
   refine T.pure ?_
   intro hi
   obtain ⟨W3, hW3⟩ : ∃ W3, runS c.map zs W0 i = W3 := ⟨_, rfl⟩
   have hG3 : W3.Go K.M A i := by rw [← hW3, hKM]; have := Wo.Go.runS hMok (zs := zs) hG0 i; rw [Nat.zero_add] at this; exact this
   rw [hW3]
   have h4 := hG3.four
   have hact := hG3.act
   have hlog := hG3.log
   refine T.seq <| T.seq <| tx [0,1,2,3] nf Z Z <| xmv Z Z Z <| xmv Z Z Z <| xlen Z Z Z u25_dSlice <| xcm Z Z Z Z Z Z <| X.nil <| T.cond Z ?_ ?_
   ·intro hb2
    have hil : i < len := by have : ((i : Nat) : Int) < ((len : Nat) : Int) := of_decide_eq_true hb2; omega
    obtain ⟨x, hax⟩ : ∃ x, a = some x := by
     cases a with
     | none => exact absurd (hnil rfl) (by omega)
     | some x => exact ⟨x, rfl⟩
    subst hax
    have hxb : (x.add (((i : Nat) : Int).toNat * 1)).block < w0.heap.size := by rw [add_block]; exact (hrow x rfl i hil).1
    have hxv : w0.cell? (x.add (((i : Nat) : Int).toNat * 1)) = some (.int .u8 (pickOf zs i)) := by rw [Int.toNat_natCast, Nat.mul_one]; exact (hrow x rfl i hil).2
    have hpk : 0 ≤ pickOf zs i ∧ pickOf zs i ≤ 255 := hz i
    have hgo := hev i hil
    have hst : Cv C 8 [ptr p, .agg #[.int .i64 ((((pickOf zs i / 2).toNat % W3.actors) : Nat) : Int), .int .i64 (pickOf zs i * 7 + ((i : Nat) : Int))]] l (wrap K W3.l (WoR K p W3)) (.agg (W3.step K.M ((pickOf zs i / 2).toNat % W3.actors) (pickOf zs i * 7 + ((i : Nat) : Int))).2.cells.toArray) l (wrap K (W3.step K.M ((pickOf zs i / 2).toNat % W3.actors) (pickOf zs i * 7 + ((i : Nat) : Int))).1.l (WoR K p (W3.step K.M ((pickOf zs i / 2).toNat % W3.actors) (pickOf zs i * 7 + ((i : Nat) : Int))).1)) := lift_v (ct_woStep (Nat.mod_lt _ (by omega)) hM hp hG3.ok h4 (by omega))
    have hE : evS c.map zs W0 i = (W3.step K.M ((pickOf zs i / 2).toNat % W3.actors) (pickOf zs i * 7 + ((i : Nat) : Int))).2 := by unfold evS; rw [hW3, hKM]
    have hW4 : runS c.map zs W0 (i + 1) = (W3.step K.M ((pickOf zs i / 2).toNat % W3.actors) (pickOf zs i * 7 + ((i : Nat) : Int))).1 := by rw [hKM, ← hW3]; rfl
    have hln := Wo.step_len (M := K.M) (W := W3) (who := ((pickOf zs i / 2).toNat % W3.actors)) (dr := (pickOf zs i * 7 + ((i : Nat) : Int)))
    generalize (W3.step K.M ((pickOf zs i / 2).toNat % W3.actors) (pickOf zs i * 7 + ((i : Nat) : Int))).2 = E at hst hE
    generalize (W3.step K.M ((pickOf zs i / 2).toNat % W3.actors) (pickOf zs i * 7 + ((i : Nat) : Int))).1 = W4 at hst hW4 hln
    have h44 : W4.markers.length ≤ 4 ∧ W4.mutators.length ≤ 4 := by rw [hln.1, hln.2.1]; exact h4
    have ha44 : W4.actors = W3.actors := by unfold Wo.actors; rw [hln.1, hln.2.1]
    have hact4 : Cv C 9 [ptr p] l (wrap K W4.l (WoR K p W4)) (.int .i64 ((W3.actors : Nat) : Int)) l (wrap K W4.l (WoR K p W4)) := by rw [← ha44]; exact lift_v (ct_ActorsW h44)
    rw [hE] at hgo
    refine T.skip <| T.seq <| T.block <| T.seq ?_
    refine T.any2 [0, 1, 2, 3, 4, 5, 6, 7, 8, 9, 10, 11, 12, 13, 14, 15, 16, 17, 18] [21] 19 20 (lo := (fun i => [0, 1, 2, 3, 4, 5, 6, 7, 8, 9, 10, 11, 12, 13, 14, 15, 16, 17, 18].contains i)) (ef := (fun i => [19, 20, 21].contains i)) (by kernel_rfl) (fun _ h => h.drew) ?_
    refine xmv Z Z Z <| xmv Z Z Z <| xmv Z Z Z <| xixr Z Z Z Z s25 ⟨Int.natCast_nonneg _, Int.ofNat_lt.2 hil⟩ <| xldr (v := .int .u8 (pickOf zs i)) Z Z Z o5 hxb hxv <| xbo Z Z Z Z (fun w => gd_num w) (fun w => run_shr1 hpk w) ?_
    refine xcvc Z Z Z u3_dInti64 u5_fun_true (IntWalk.i64_in _ (by omega)) <| xmv Z Z Z <| xcq Z Z Z Z g9 (lift_v (ct_ActorsW h4)) (loc_wrap loc_WoR) <| xbo Z Z Z Z (fun w => run_guard_int w) (fun w => run_who (by omega) (by omega) w) <| xmv Z Z Z ?_
    refine xmv Z Z Z <| xixr Z Z Z Z s25 ⟨Int.natCast_nonneg _, Int.ofNat_lt.2 hil⟩ <| xldr (v := .int .u8 (pickOf zs i)) Z Z Z o5 hxb hxv <| xcvc Z Z Z u3_dInti64 u5_fun_true (IntWalk.i64_in _ (by omega)) ?_
    refine xarc (c := (pickOf zs i * 7)) Z Z Z Z Z (by simp only [ari]; rw [IntWalk.i64_in _ (by omega)]) <| xmv Z Z Z <| xarc (c := (pickOf zs i * 7 + ((i : Nat) : Int))) Z Z Z Z Z (by simp only [ari]; rw [IntWalk.i64_in _ (by omega)]) ?_
    refine xbd Z Z Z l38 z38 Z <| X.nil ?_
    refine ⟨?_, ?_⟩
    ·skip
     refine xce Z Z Z Z g8 (hst) (loc_wrap loc_WoR) (pendsk (by kernel_rfl) (pendsk (by kernel_rfl) (pendsk (by kernel_rfl) (pendsk (by kernel_rfl) (pendsk (by kernel_rfl) (pendsk (by kernel_rfl) (pendsk (by kernel_rfl) (pendsk (by kernel_rfl) (pendsk (by kernel_rfl) (pendsk (by kernel_rfl) (pendsk (by kernel_rfl) (pendsk (by kernel_rfl) (pendsk (by kernel_rfl) (pendsk (by kernel_rfl) (pendsk (by kernel_rfl) (pendsk (by kernel_rfl) (pendsk (by kernel_rfl) (pendsk (by kernel_rfl) (pendsk (by kernel_rfl) pend0))))))))))))))))))) ?_
     refine xal Z Z z33 (fun _ => (pxbd Z Z l38 z38 Z (pxarc (c := (pickOf zs i * 7 + ((i : Nat) : Int))) Z Z Z Z (by simp only [ari]; rw [IntWalk.i64_in _ (by omega)]) (pendmv Z Z (pxarc (c := (pickOf zs i * 7)) Z Z Z Z (by simp only [ari]; rw [IntWalk.i64_in _ (by omega)]) (pxcvc Z Z u3_dInti64 u5_fun_true (IntWalk.i64_in _ (by omega)) (pxldr (v := .int .u8 (pickOf zs i)) Z Z o5 hxb hxv (pxixr Z Z Z s25 ⟨Int.natCast_nonneg _, Int.ofNat_lt.2 hil⟩ (pendmv Z Z (pendmv Z Z (pxbo Z Z Z (fun w => run_guard_int w) (fun w => run_who (by omega) (by omega) w) (pxcq Z Z Z g9 (hact4) (loc_wrap loc_WoR) (pendmv Z Z (pxcvc Z Z u3_dInti64 u5_fun_true (IntWalk.i64_in _ (by omega)) (pxbo Z Z Z (fun w => gd_num w) (fun w => run_shr1 hpk w) (pxldr (v := .int .u8 (pickOf zs i)) Z Z o5 hxb hxv (pxixr Z Z Z s25 ⟨Int.natCast_nonneg _, Int.ofNat_lt.2 hil⟩ (pendmv Z Z (pendmv Z Z (pendmv Z Z pend0)))))))))))))))))))) (fun b2 => ?_)
     refine xsta Z Z Z Z m33 Z Z .z (Nat.le_of_ble_eq_true Z) .z (pendsk (by kernel_rfl) (pendsk (by kernel_rfl) (pendsk (by kernel_rfl) (pendsk (by kernel_rfl) (pendsk (by kernel_rfl) (pendsk (by kernel_rfl) (pendsk (by kernel_rfl) (pendsk (by kernel_rfl) (pendsk (by kernel_rfl) (pendsk (by kernel_rfl) (pendsk (by kernel_rfl) (pendsk (by kernel_rfl) (pendsk (by kernel_rfl) (pendsk (by kernel_rfl) (pendsk (by kernel_rfl) (pendsk (by kernel_rfl) (pendsk (by kernel_rfl) (pendsk (by kernel_rfl) (pendsk (by kernel_rfl) pend0))))))))))))))))))) ?_
     refine X.nil <| T.seq ?_
     rcases four_ev hgo with k1 | ⟨k1, k2⟩ | ⟨k1, k2, k3⟩ | k1
     ·skip
      refine T.any (ord := [0, 1, 2, 3, 4, 5, 6, 7, 8, 9, 10, 11, 12, 13, 14, 15, 16, 17, 18, 19, 20, 21, 22, 23, 24, 25, 26, 27, 28, 29, 30]) (lo := (fun _ => false)) (ef := (fun _ => false)) (by kernel_rfl) (fun _ h => h.drew) <| xfa Z Z Z f33_0 ?_
      refine xld Z Z Z o3 .z Z <| xcm (c := false) Z Z Z Z Z (decide_eq_false (by omega)) <| xmv Z Z Z <| x_skip Z Z Z <| x_skip Z Z Z <| x_skip Z Z Z <| xpkf Z Z Z Z <| xmv Z Z Z <| x_skip Z Z Z <| x_skip Z Z Z <| x_skip Z Z Z <| x_skip Z Z Z ?_
      refine x_skip Z Z Z <| x_skip Z Z Z <| xpkf Z Z Z Z <| xmv Z Z Z <| xfa Z Z Z f33_0 <| xld Z Z Z o3 .z Z <| xcm (c := false) Z Z Z Z Z (beq_eq_false_iff_ne.2 (by omega)) <| xpkf Z Z Z Z <| xmv Z Z Z <| xfa Z Z Z f33_0 <| xld Z Z Z o3 .z Z ?_
      refine xcm (c := false) Z Z Z Z Z (decide_eq_false (by omega)) <| xmv Z Z Z <| x_skip Z Z Z <| x_skip Z Z Z <| x_skip Z Z Z <| xpkf Z Z Z Z <| xpkf Z Z Z Z <| X.nil <| T.no Z <| T.skip <| T.blk_end <| tx [0,1,2] nf Z Z <| xmv Z Z Z ?_
      refine xarc (c := ((i + 1 : Nat) : Int)) Z Z Z Z Z (by simp only [ari]; rw [IntWalk.i64_in _ (by omega)]; omega) <| xas Z Z Z <| X.nil ?_
      exact T.lq_end (i + 1) (by show len - (i + 1) < len - i; omega) (fun w h => ⟨by show i + 1 ≤ len; omega, by show Sy _ _ _ _ _ (wrap K (runS c.map zs W0 (i + 1)).l (WoR K p (runS c.map zs W0 (i + 1)))) w; rw [hW4]; exact h.reb (loc_wrap loc_WoR) Wk.tail⟩) ⟨rfl, rfl, rfl, rfl, trivial⟩
     ·skip
      refine T.any (ord := [0, 1, 2, 3, 4, 5, 6, 7, 8, 9, 10, 11, 12, 13, 14, 15, 16, 17, 18, 19, 20, 21, 22, 23, 24, 25, 26, 27, 28, 29, 30]) (lo := (fun _ => false)) (ef := (fun _ => false)) (by kernel_rfl) (fun _ h => h.drew) <| xfa Z Z Z f33_0 ?_
      refine xld Z Z Z o3 .z Z <| xcm (c := true) Z Z Z Z Z (decide_eq_true (by omega)) <| xmv Z Z Z <| xfa Z Z Z f33_0 <| xld Z Z Z o3 .z Z <| xcm (c := true) Z Z Z Z Z (decide_eq_true (by omega)) <| xpkt Z Z Z Z <| xmv Z Z Z <| xfa Z Z Z f33_2 ?_
      refine xld Z Z Z o3 .z Z <| xmv Z Z Z <| xcq Z Z Z Z g10 (lift_v ct_MapW) (loc_wrap loc_WoR) <| xcq Z Z Z Z g11 (lift_v Mo.ct_Common) (loc_wrap loc_WoR) <| xcm (c := false) Z Z Z Z Z (by show (E.a != K.M.nodes) = false; rw [k2, hKM]; simp) ?_
      refine xpkt Z Z Z Z <| xmv Z Z Z <| xfa Z Z Z f33_0 <| xld Z Z Z o3 .z Z <| xcm (c := false) Z Z Z Z Z (beq_eq_false_iff_ne.2 (by omega)) <| xpkf Z Z Z Z <| xmv Z Z Z <| xfa Z Z Z f33_0 <| xld Z Z Z o3 .z Z ?_
      refine xcm (c := false) Z Z Z Z Z (decide_eq_false (by omega)) <| xmv Z Z Z <| x_skip Z Z Z <| x_skip Z Z Z <| x_skip Z Z Z <| xpkf Z Z Z Z <| xpkf Z Z Z Z <| X.nil <| T.no Z <| T.skip <| T.blk_end <| tx [0,1,2] nf Z Z <| xmv Z Z Z ?_
      refine xarc (c := ((i + 1 : Nat) : Int)) Z Z Z Z Z (by simp only [ari]; rw [IntWalk.i64_in _ (by omega)]; omega) <| xas Z Z Z <| X.nil ?_
      exact T.lq_end (i + 1) (by show len - (i + 1) < len - i; omega) (fun w h => ⟨by show i + 1 ≤ len; omega, by show Sy _ _ _ _ _ (wrap K (runS c.map zs W0 (i + 1)).l (WoR K p (runS c.map zs W0 (i + 1)))) w; rw [hW4]; exact h.reb (loc_wrap loc_WoR) Wk.tail⟩) ⟨rfl, rfl, rfl, rfl, trivial⟩
     ·skip
      refine T.any (ord := [0, 1, 2, 3, 4, 5, 6, 7, 8, 9, 10, 11, 12, 13, 14, 15, 16, 17, 18, 19, 20, 21, 22, 23, 24, 25, 26, 27, 28, 29, 30]) (lo := (fun _ => false)) (ef := (fun _ => false)) (by kernel_rfl) (fun _ h => h.drew) <| xfa Z Z Z f33_0 ?_
      refine xld Z Z Z o3 .z Z <| xcm (c := true) Z Z Z Z Z (decide_eq_true (by omega)) <| xmv Z Z Z <| xfa Z Z Z f33_0 <| xld Z Z Z o3 .z Z <| xcm (c := false) Z Z Z Z Z (decide_eq_false (by omega)) <| xpkt Z Z Z Z <| xmv Z Z Z <| x_skip Z Z Z ?_
      refine x_skip Z Z Z <| x_skip Z Z Z <| x_skip Z Z Z <| x_skip Z Z Z <| x_skip Z Z Z <| xpkf Z Z Z Z <| xmv Z Z Z <| xfa Z Z Z f33_0 <| xld Z Z Z o3 .z Z <| xcm (c := false) Z Z Z Z Z (beq_eq_false_iff_ne.2 (by omega)) <| xpkf Z Z Z Z ?_
      refine xmv Z Z Z <| xfa Z Z Z f33_0 <| xld Z Z Z o3 .z Z <| xcm (c := false) Z Z Z Z Z (decide_eq_false (by omega)) <| xmv Z Z Z <| x_skip Z Z Z <| x_skip Z Z Z <| x_skip Z Z Z <| xpkf Z Z Z Z <| xpkf Z Z Z Z <| X.nil <| T.no Z <| T.skip ?_
      refine T.blk_end <| tx [0,1,2] nf Z Z <| xmv Z Z Z <| xarc (c := ((i + 1 : Nat) : Int)) Z Z Z Z Z (by simp only [ari]; rw [IntWalk.i64_in _ (by omega)]; omega) <| xas Z Z Z <| X.nil ?_
      exact T.lq_end (i + 1) (by show len - (i + 1) < len - i; omega) (fun w h => ⟨by show i + 1 ≤ len; omega, by show Sy _ _ _ _ _ (wrap K (runS c.map zs W0 (i + 1)).l (WoR K p (runS c.map zs W0 (i + 1)))) w; rw [hW4]; exact h.reb (loc_wrap loc_WoR) Wk.tail⟩) ⟨rfl, rfl, rfl, rfl, trivial⟩
     ·skip
      refine T.any (ord := [0, 1, 2, 3, 4, 5, 6, 7, 8, 9, 10, 11, 12, 13, 14, 15, 16, 17, 18, 19, 20, 21, 22, 23, 24, 25, 26, 27, 28, 29, 30]) (lo := (fun _ => false)) (ef := (fun _ => false)) (by kernel_rfl) (fun _ h => h.drew) <| xfa Z Z Z f33_0 ?_
      refine xld Z Z Z o3 .z Z <| xcm (c := true) Z Z Z Z Z (decide_eq_true (by omega)) <| xmv Z Z Z <| xfa Z Z Z f33_0 <| xld Z Z Z o3 .z Z <| xcm (c := false) Z Z Z Z Z (decide_eq_false (by omega)) <| xpkt Z Z Z Z <| xmv Z Z Z <| x_skip Z Z Z ?_
      refine x_skip Z Z Z <| x_skip Z Z Z <| x_skip Z Z Z <| x_skip Z Z Z <| x_skip Z Z Z <| xpkf Z Z Z Z <| xmv Z Z Z <| xfa Z Z Z f33_0 <| xld Z Z Z o3 .z Z <| xcm (c := false) Z Z Z Z Z (beq_eq_false_iff_ne.2 (by omega)) <| xpkf Z Z Z Z ?_
      refine xmv Z Z Z <| xfa Z Z Z f33_0 <| xld Z Z Z o3 .z Z <| xcm (c := true) Z Z Z Z Z (decide_eq_true (by omega)) <| xmv Z Z Z <| xfa Z Z Z f33_0 <| xld Z Z Z o3 .z Z <| xcm (c := false) Z Z Z Z Z (decide_eq_false (by omega)) <| xpkt Z Z Z Z ?_
      refine xpkf Z Z Z Z <| X.nil <| T.no Z <| T.skip <| T.blk_end <| tx [0,1,2] nf Z Z <| xmv Z Z Z <| xarc (c := ((i + 1 : Nat) : Int)) Z Z Z Z Z (by simp only [ari]; rw [IntWalk.i64_in _ (by omega)]; omega) <| xas Z Z Z <| X.nil ?_
      exact T.lq_end (i + 1) (by show len - (i + 1) < len - i; omega) (fun w h => ⟨by show i + 1 ≤ len; omega, by show Sy _ _ _ _ _ (wrap K (runS c.map zs W0 (i + 1)).l (WoR K p (runS c.map zs W0 (i + 1)))) w; rw [hW4]; exact h.reb (loc_wrap loc_WoR) Wk.tail⟩) ⟨rfl, rfl, rfl, rfl, trivial⟩
    ·skip
     refine xal Z Z z33 (fun _ => (pxbd Z Z l38 z38 Z (pxarc (c := (pickOf zs i * 7 + ((i : Nat) : Int))) Z Z Z Z (by simp only [ari]; rw [IntWalk.i64_in _ (by omega)]) (pendmv Z Z (pxarc (c := (pickOf zs i * 7)) Z Z Z Z (by simp only [ari]; rw [IntWalk.i64_in _ (by omega)]) (pxcvc Z Z u3_dInti64 u5_fun_true (IntWalk.i64_in _ (by omega)) (pxldr (v := .int .u8 (pickOf zs i)) Z Z o5 hxb hxv (pxixr Z Z Z s25 ⟨Int.natCast_nonneg _, Int.ofNat_lt.2 hil⟩ (pendmv Z Z (pendmv Z Z (pxbo Z Z Z (fun w => run_guard_int w) (fun w => run_who (by omega) (by omega) w) (pxcq Z Z Z g9 (lift_v (ct_ActorsW h4)) (loc_wrap loc_WoR) (pendmv Z Z (pxcvc Z Z u3_dInti64 u5_fun_true (IntWalk.i64_in _ (by omega)) (pxbo Z Z Z (fun w => gd_num w) (fun w => run_shr1 hpk w) (pxldr (v := .int .u8 (pickOf zs i)) Z Z o5 hxb hxv (pxixr Z Z Z s25 ⟨Int.natCast_nonneg _, Int.ofNat_lt.2 hil⟩ (pendmv Z Z (pendmv Z Z (pendmv Z Z pend0)))))))))))))))))))) (fun b3 => ?_)
     refine xce Z Z Z Z g8 (hst) (loc_wrap loc_WoR) (pendsk (by kernel_rfl) (pendsk (by kernel_rfl) (pendsk (by kernel_rfl) (pendsk (by kernel_rfl) (pendsk (by kernel_rfl) (pendsk (by kernel_rfl) (pendsk (by kernel_rfl) (pendsk (by kernel_rfl) (pendsk (by kernel_rfl) (pendsk (by kernel_rfl) (pendsk (by kernel_rfl) (pendsk (by kernel_rfl) (pendsk (by kernel_rfl) (pendsk (by kernel_rfl) (pendsk (by kernel_rfl) (pendsk (by kernel_rfl) (pendsk (by kernel_rfl) (pendsk (by kernel_rfl) (pendsk (by kernel_rfl) pend0))))))))))))))))))) ?_
     refine xsta Z Z Z Z m33 Z Z .z (Nat.le_of_ble_eq_true Z) .z (pendsk (by kernel_rfl) (pendsk (by kernel_rfl) (pendsk (by kernel_rfl) (pendsk (by kernel_rfl) (pendsk (by kernel_rfl) (pendsk (by kernel_rfl) (pendsk (by kernel_rfl) (pendsk (by kernel_rfl) (pendsk (by kernel_rfl) (pendsk (by kernel_rfl) (pendsk (by kernel_rfl) (pendsk (by kernel_rfl) (pendsk (by kernel_rfl) (pendsk (by kernel_rfl) (pendsk (by kernel_rfl) (pendsk (by kernel_rfl) (pendsk (by kernel_rfl) (pendsk (by kernel_rfl) (pendsk (by kernel_rfl) pend0))))))))))))))))))) ?_
     refine X.nil <| T.seq ?_
     rcases four_ev hgo with k1 | ⟨k1, k2⟩ | ⟨k1, k2, k3⟩ | k1
     ·skip
      refine T.any (ord := [0, 1, 2, 3, 4, 5, 6, 7, 8, 9, 10, 11, 12, 13, 14, 15, 16, 17, 18, 19, 20, 21, 22, 23, 24, 25, 26, 27, 28, 29, 30]) (lo := (fun _ => false)) (ef := (fun _ => false)) (by kernel_rfl) (fun _ h => h.drew) <| xfa Z Z Z f33_0 ?_
      refine xld Z Z Z o3 .z Z <| xcm (c := false) Z Z Z Z Z (decide_eq_false (by omega)) <| xmv Z Z Z <| x_skip Z Z Z <| x_skip Z Z Z <| x_skip Z Z Z <| xpkf Z Z Z Z <| xmv Z Z Z <| x_skip Z Z Z <| x_skip Z Z Z <| x_skip Z Z Z <| x_skip Z Z Z ?_
      refine x_skip Z Z Z <| x_skip Z Z Z <| xpkf Z Z Z Z <| xmv Z Z Z <| xfa Z Z Z f33_0 <| xld Z Z Z o3 .z Z <| xcm (c := false) Z Z Z Z Z (beq_eq_false_iff_ne.2 (by omega)) <| xpkf Z Z Z Z <| xmv Z Z Z <| xfa Z Z Z f33_0 <| xld Z Z Z o3 .z Z ?_
      refine xcm (c := false) Z Z Z Z Z (decide_eq_false (by omega)) <| xmv Z Z Z <| x_skip Z Z Z <| x_skip Z Z Z <| x_skip Z Z Z <| xpkf Z Z Z Z <| xpkf Z Z Z Z <| X.nil <| T.no Z <| T.skip <| T.blk_end <| tx [0,1,2] nf Z Z <| xmv Z Z Z ?_
      refine xarc (c := ((i + 1 : Nat) : Int)) Z Z Z Z Z (by simp only [ari]; rw [IntWalk.i64_in _ (by omega)]; omega) <| xas Z Z Z <| X.nil ?_
      exact T.lq_end (i + 1) (by show len - (i + 1) < len - i; omega) (fun w h => ⟨by show i + 1 ≤ len; omega, by show Sy _ _ _ _ _ (wrap K (runS c.map zs W0 (i + 1)).l (WoR K p (runS c.map zs W0 (i + 1)))) w; rw [hW4]; exact h.reb (loc_wrap loc_WoR) Wk.tail⟩) ⟨rfl, rfl, rfl, rfl, trivial⟩
     ·skip
      refine T.any (ord := [0, 1, 2, 3, 4, 5, 6, 7, 8, 9, 10, 11, 12, 13, 14, 15, 16, 17, 18, 19, 20, 21, 22, 23, 24, 25, 26, 27, 28, 29, 30]) (lo := (fun _ => false)) (ef := (fun _ => false)) (by kernel_rfl) (fun _ h => h.drew) <| xfa Z Z Z f33_0 ?_
      refine xld Z Z Z o3 .z Z <| xcm (c := true) Z Z Z Z Z (decide_eq_true (by omega)) <| xmv Z Z Z <| xfa Z Z Z f33_0 <| xld Z Z Z o3 .z Z <| xcm (c := true) Z Z Z Z Z (decide_eq_true (by omega)) <| xpkt Z Z Z Z <| xmv Z Z Z <| xfa Z Z Z f33_2 ?_
      refine xld Z Z Z o3 .z Z <| xmv Z Z Z <| xcq Z Z Z Z g10 (lift_v ct_MapW) (loc_wrap loc_WoR) <| xcq Z Z Z Z g11 (lift_v Mo.ct_Common) (loc_wrap loc_WoR) <| xcm (c := false) Z Z Z Z Z (by show (E.a != K.M.nodes) = false; rw [k2, hKM]; simp) ?_
      refine xpkt Z Z Z Z <| xmv Z Z Z <| xfa Z Z Z f33_0 <| xld Z Z Z o3 .z Z <| xcm (c := false) Z Z Z Z Z (beq_eq_false_iff_ne.2 (by omega)) <| xpkf Z Z Z Z <| xmv Z Z Z <| xfa Z Z Z f33_0 <| xld Z Z Z o3 .z Z ?_
      refine xcm (c := false) Z Z Z Z Z (decide_eq_false (by omega)) <| xmv Z Z Z <| x_skip Z Z Z <| x_skip Z Z Z <| x_skip Z Z Z <| xpkf Z Z Z Z <| xpkf Z Z Z Z <| X.nil <| T.no Z <| T.skip <| T.blk_end <| tx [0,1,2] nf Z Z <| xmv Z Z Z ?_
      refine xarc (c := ((i + 1 : Nat) : Int)) Z Z Z Z Z (by simp only [ari]; rw [IntWalk.i64_in _ (by omega)]; omega) <| xas Z Z Z <| X.nil ?_
      exact T.lq_end (i + 1) (by show len - (i + 1) < len - i; omega) (fun w h => ⟨by show i + 1 ≤ len; omega, by show Sy _ _ _ _ _ (wrap K (runS c.map zs W0 (i + 1)).l (WoR K p (runS c.map zs W0 (i + 1)))) w; rw [hW4]; exact h.reb (loc_wrap loc_WoR) Wk.tail⟩) ⟨rfl, rfl, rfl, rfl, trivial⟩
     ·skip
      refine T.any (ord := [0, 1, 2, 3, 4, 5, 6, 7, 8, 9, 10, 11, 12, 13, 14, 15, 16, 17, 18, 19, 20, 21, 22, 23, 24, 25, 26, 27, 28, 29, 30]) (lo := (fun _ => false)) (ef := (fun _ => false)) (by kernel_rfl) (fun _ h => h.drew) <| xfa Z Z Z f33_0 ?_
      refine xld Z Z Z o3 .z Z <| xcm (c := true) Z Z Z Z Z (decide_eq_true (by omega)) <| xmv Z Z Z <| xfa Z Z Z f33_0 <| xld Z Z Z o3 .z Z <| xcm (c := false) Z Z Z Z Z (decide_eq_false (by omega)) <| xpkt Z Z Z Z <| xmv Z Z Z <| x_skip Z Z Z ?_
      refine x_skip Z Z Z <| x_skip Z Z Z <| x_skip Z Z Z <| x_skip Z Z Z <| x_skip Z Z Z <| xpkf Z Z Z Z <| xmv Z Z Z <| xfa Z Z Z f33_0 <| xld Z Z Z o3 .z Z <| xcm (c := false) Z Z Z Z Z (beq_eq_false_iff_ne.2 (by omega)) <| xpkf Z Z Z Z ?_
      refine xmv Z Z Z <| xfa Z Z Z f33_0 <| xld Z Z Z o3 .z Z <| xcm (c := false) Z Z Z Z Z (decide_eq_false (by omega)) <| xmv Z Z Z <| x_skip Z Z Z <| x_skip Z Z Z <| x_skip Z Z Z <| xpkf Z Z Z Z <| xpkf Z Z Z Z <| X.nil <| T.no Z <| T.skip ?_
      refine T.blk_end <| tx [0,1,2] nf Z Z <| xmv Z Z Z <| xarc (c := ((i + 1 : Nat) : Int)) Z Z Z Z Z (by simp only [ari]; rw [IntWalk.i64_in _ (by omega)]; omega) <| xas Z Z Z <| X.nil ?_
      exact T.lq_end (i + 1) (by show len - (i + 1) < len - i; omega) (fun w h => ⟨by show i + 1 ≤ len; omega, by show Sy _ _ _ _ _ (wrap K (runS c.map zs W0 (i + 1)).l (WoR K p (runS c.map zs W0 (i + 1)))) w; rw [hW4]; exact h.reb (loc_wrap loc_WoR) Wk.tail⟩) ⟨rfl, rfl, rfl, rfl, trivial⟩
     ·skip
      refine T.any (ord := [0, 1, 2, 3, 4, 5, 6, 7, 8, 9, 10, 11, 12, 13, 14, 15, 16, 17, 18, 19, 20, 21, 22, 23, 24, 25, 26, 27, 28, 29, 30]) (lo := (fun _ => false)) (ef := (fun _ => false)) (by kernel_rfl) (fun _ h => h.drew) <| xfa Z Z Z f33_0 ?_
      refine xld Z Z Z o3 .z Z <| xcm (c := true) Z Z Z Z Z (decide_eq_true (by omega)) <| xmv Z Z Z <| xfa Z Z Z f33_0 <| xld Z Z Z o3 .z Z <| xcm (c := false) Z Z Z Z Z (decide_eq_false (by omega)) <| xpkt Z Z Z Z <| xmv Z Z Z <| x_skip Z Z Z ?_
      refine x_skip Z Z Z <| x_skip Z Z Z <| x_skip Z Z Z <| x_skip Z Z Z <| x_skip Z Z Z <| xpkf Z Z Z Z <| xmv Z Z Z <| xfa Z Z Z f33_0 <| xld Z Z Z o3 .z Z <| xcm (c := false) Z Z Z Z Z (beq_eq_false_iff_ne.2 (by omega)) <| xpkf Z Z Z Z ?_
      refine xmv Z Z Z <| xfa Z Z Z f33_0 <| xld Z Z Z o3 .z Z <| xcm (c := true) Z Z Z Z Z (decide_eq_true (by omega)) <| xmv Z Z Z <| xfa Z Z Z f33_0 <| xld Z Z Z o3 .z Z <| xcm (c := false) Z Z Z Z Z (decide_eq_false (by omega)) <| xpkt Z Z Z Z ?_
      refine xpkf Z Z Z Z <| X.nil <| T.no Z <| T.skip <| T.blk_end <| tx [0,1,2] nf Z Z <| xmv Z Z Z <| xarc (c := ((i + 1 : Nat) : Int)) Z Z Z Z Z (by simp only [ari]; rw [IntWalk.i64_in _ (by omega)]; omega) <| xas Z Z Z <| X.nil ?_
      exact T.lq_end (i + 1) (by show len - (i + 1) < len - i; omega) (fun w h => ⟨by show i + 1 ≤ len; omega, by show Sy _ _ _ _ _ (wrap K (runS c.map zs W0 (i + 1)).l (WoR K p (runS c.map zs W0 (i + 1)))) w; rw [hW4]; exact h.reb (loc_wrap loc_WoR) Wk.tail⟩) ⟨rfl, rfl, rfl, rfl, trivial⟩
   ·intro hb2
    have hie : i = len := by have : ¬ ((i : Nat) : Int) < ((len : Nat) : Int) := of_decide_eq_false hb2; omega
    have hcen3 : census K.M W3.l = 0 :: (List.replicate (n - 1) 2 ++ [1]) := by rw [hKM, ← hW3, hie]; exact hcen
    have hl3 : 0 < W3.l.length ∧ W3.l.length ≤ 1000000 := by rw [← hW3, hie]; exact hlenF
    refine T.exit ?_
    refine TE.lq_exit ?_
    refine TE.blk_exit ?_
    refine T.seq <| tx [0,1,2,3,4,5] (ct [3,4]) Z Z <| xmv Z Z Z <| xcq Z Z Z Z g10 (lift_v ct_MapW) (loc_wrap loc_WoR) <| xmv Z Z Z ?_
    refine xcx (H1 := [_]) (H2 := []) (B := fun (a : Nat) => [⟨a, 90, u64s W3.l⟩]) Z Z Z Z g13 Z (lift_eb (ct_Memory hl3.2)) (fun _ => loc_wrap loc_WoR) (fun a4 ha4 => pend0) (fun a4 ha4 => ?_)
    refine xcx (H1 := [_]) (H2 := [_]) (B := fun (a : Nat) => [⟨a, 3, i64s (0 :: (List.replicate (n - 1) 2 ++ [1]))⟩]) Z Z Z Z g12 Z (ct_Census1 (K := K) (n := n) loc_WoR hM (by rw [hKM]; exact hn) (by rw [hKM]; show 1 ≤ (c.k0 + c.k1 + c.k2 + c.k3 + c.k4) ∧ (c.k0 + c.k1 + c.k2 + c.k3 + c.k4) ≤ 60; omega) hG3.ok.rng hl3 hcen3) (fun _ => loc_emp) (fun ob hob => pend0) (fun ob hob => ?_)
    refine xas Z Z Z <| X.nil <| T.seq <| T.seq <| tx [0] nf Z Z <| xas Z Z Z <| X.nil <| T.block ?_
    refine T.loop (fun (x : Nat) w => x ≤ n ∧ Sy C w0 (fun _ => False) l [⟨b0, 24, c.cells⟩, ⟨ob, 3, i64s (0 :: (List.replicate (n - 1) 2 ++ [1]))⟩] emp w) (fun x => [(13, .int .i64 ((x : Nat) : Int)), (12, .slice (some ⟨ob, 1, none⟩) n n), (6, .int .i64 (c.k0 + c.k1 + c.k2 + c.k3 + c.k4))]) (fun x => n - x) 0 (fun w h => ⟨Nat.zero_le _, h⟩) ⟨Z, Z, Z, trivial⟩ ?_
    rintro v g3
    refine T.pure ?_
    intro hv
    refine T.seq <| T.seq <| tx [0,1,2,3] nf Z Z <| xmv Z Z Z <| xmv Z Z Z <| xlen Z Z Z u41_dSlice <| xcm Z Z Z Z Z Z <| X.nil <| T.cond Z ?_ ?_
    ·intro hb3
     have hvn : v < n := by have : ((v : Nat) : Int) < ((n : Nat) : Int) := of_decide_eq_true hb3; omega
     refine T.skip <| T.seq <| T.block <| T.seq ?_
     rcases (show ((v : Nat) : Int) < (c.k0 + c.k1 + c.k2 + c.k3 + c.k4) - 1 ∨ ((v : Nat) : Int) = (c.k0 + c.k1 + c.k2 + c.k3 + c.k4) - 1 from by omega) with k1 | k1
     ·skip
      refine tx [0,1,2,3,4,5,6,7,8,9,10,11,12,13,14,15,16,17,18,19,20,21,22,23] nf Z Z <| xmv Z Z Z <| xmv Z Z Z <| xarc (c := ((c.k0 + c.k1 + c.k2 + c.k3 + c.k4) - 1)) Z Z Z Z Z (by simp only [ari]; rw [IntWalk.i64_in _ (by omega)]) ?_
      refine xcm (c := true) Z Z Z Z Z (decide_eq_true (by omega)) <| xmv Z Z Z <| xmv Z Z Z <| xmv Z Z Z <| xix Z Z Z Z s41 (show 0 ≤ ((v : Nat) : Int) ∧ ((v : Nat) : Int) < ((n : Nat) : Int) by omega) ?_
      refine xld (v := .int .i64 2) Z Z Z o3 (.s .z) (cell_two (by omega)) <| xcm (c := false) Z Z Z Z Z (Z) <| xpkt Z Z Z Z <| xmv Z Z Z <| xmv Z Z Z <| xmv Z Z Z ?_
      refine xarc (c := ((c.k0 + c.k1 + c.k2 + c.k3 + c.k4) - 1)) Z Z Z Z Z (by simp only [ari]; rw [IntWalk.i64_in _ (by omega)]) <| xcm (c := false) Z Z Z Z Z (beq_eq_false_iff_ne.2 (by omega)) <| xmv Z Z Z <| x_skip Z Z Z <| x_skip Z Z Z ?_
      refine x_skip Z Z Z <| x_skip Z Z Z <| x_skip Z Z Z <| xpkf Z Z Z Z <| xpkf Z Z Z Z <| X.nil <| T.no Z <| T.skip <| T.blk_end <| tx [0,1,2] nf Z Z <| xmv Z Z Z ?_
      refine xarc (c := ((v + 1 : Nat) : Int)) Z Z Z Z Z (by simp only [ari]; rw [IntWalk.i64_in _ (by omega)]; omega) <| xas Z Z Z <| X.nil ?_
      exact T.lq_end (v + 1) (by show n - (v + 1) < n - v; omega) (fun w h => ⟨by show v + 1 ≤ n; omega, h⟩) ⟨rfl, rfl, rfl, trivial⟩
     ·skip
      refine tx [0,1,2,3,4,5,6,7,8,9,10,11,12,13,14,15,16,17,18,19,20,21,22,23] nf Z Z <| xmv Z Z Z <| xmv Z Z Z <| xarc (c := ((c.k0 + c.k1 + c.k2 + c.k3 + c.k4) - 1)) Z Z Z Z Z (by simp only [ari]; rw [IntWalk.i64_in _ (by omega)]) ?_
      refine xcm (c := false) Z Z Z Z Z (decide_eq_false (by omega)) <| xmv Z Z Z <| x_skip Z Z Z <| x_skip Z Z Z <| x_skip Z Z Z <| x_skip Z Z Z <| x_skip Z Z Z <| xpkf Z Z Z Z <| xmv Z Z Z <| xmv Z Z Z <| xmv Z Z Z ?_
      refine xarc (c := ((c.k0 + c.k1 + c.k2 + c.k3 + c.k4) - 1)) Z Z Z Z Z (by simp only [ari]; rw [IntWalk.i64_in _ (by omega)]) <| xcm (c := true) Z Z Z Z Z (beq_iff_eq.2 (by omega)) <| xmv Z Z Z <| xmv Z Z Z <| xmv Z Z Z ?_
      refine xix Z Z Z Z s41 (show 0 ≤ ((v : Nat) : Int) ∧ ((v : Nat) : Int) < ((n : Nat) : Int) by omega) <| xld (v := .int .i64 1) Z Z Z o3 (.s .z) (cell_one (by omega) (by omega)) <| xcm (c := false) Z Z Z Z Z (Z) <| xpkt Z Z Z Z <| xpkf Z Z Z Z ?_
      refine X.nil <| T.no Z <| T.skip <| T.blk_end <| tx [0,1,2] nf Z Z <| xmv Z Z Z <| xarc (c := ((v + 1 : Nat) : Int)) Z Z Z Z Z (by simp only [ari]; rw [IntWalk.i64_in _ (by omega)]; omega) <| xas Z Z Z <| X.nil ?_
      exact T.lq_end (v + 1) (by show n - (v + 1) < n - v; omega) (fun w h => ⟨by show v + 1 ≤ n; omega, h⟩) ⟨rfl, rfl, rfl, trivial⟩
    ·intro hb3
     have hvn : ¬ v < n := by have : ¬ ((v : Nat) : Int) < ((n : Nat) : Int) := of_decide_eq_false hb3; omega
     refine T.exit ?_
     refine TE.lq_exit ?_
     refine TE.blk_exit ?_
     refine T.seq <| tx [0,1,2,3,4] nf Z Z <| xmv Z Z Z <| xlen Z Z Z u41_dSlice <| xmv Z Z Z <| xcm (c := true) Z Z Z Z Z (show (((n : Nat) : Int) == (c.k0 + c.k1 + c.k2 + c.k3 + c.k4)) = true from beq_iff_eq.2 (by omega)) <| xas Z Z Z <| X.nil ?_
     refine T.ret1 Z (fun W_ D h => ?_)
     obtain ⟨D1, h1, h2⟩ := Wk.emp _ D W_ h
     exact ⟨D1, ⟨rfl, rfl, h1⟩, h2⟩
  ·skip
   refine tx [0,1,2,3,4,5,6,7,8,9,10,11] nf Z Z <| xmv Z Z Z <| xcm (c := true) Z Z Z Z Z (decide_eq_true (by omega)) <| xmv Z Z Z <| x_skip Z Z Z <| x_skip Z Z Z <| x_skip Z Z Z <| xpkt Z Z Z Z <| xmv Z Z Z <| x_skip Z Z Z <| x_skip Z Z Z ?_
   refine x_skip Z Z Z <| xpkt Z Z Z Z <| X.nil <| T.yes Z <| T.seq <| tx [0] nf Z Z <| xas Z Z Z <| X.nil <| T.ret1 Z (fun W_ D h => ?_)
   obtain ⟨D1, h1, h2⟩ := Wk.emp _ D W_ h
   exact ⟨D1, ⟨rfl, rfl, h1⟩, h2⟩
  ·skip
   refine tx [0,1,2,3,4,5,6,7,8,9,10,11] nf Z Z <| xmv Z Z Z <| xcm (c := false) Z Z Z Z Z (decide_eq_false (by omega)) <| xmv Z Z Z <| xmv Z Z Z <| xlen Z Z Z u25_dSlice <| xcm (c := true) Z Z Z Z Z (decide_eq_true (by omega)) <| xpkf Z Z Z Z ?_
   refine xmv Z Z Z <| x_skip Z Z Z <| x_skip Z Z Z <| x_skip Z Z Z <| xpkt Z Z Z Z <| X.nil <| T.yes Z <| T.seq <| tx [0] nf Z Z <| xas Z Z Z <| X.nil <| T.ret1 Z (fun W_ D h => ?_)
   obtain ⟨D1, h1, h2⟩ := Wk.emp _ D W_ h
   exact ⟨D1, ⟨rfl, rfl, h1⟩, h2⟩
  ·skip
   refine tx [0,1,2,3,4,5,6,7,8,9,10,11] nf Z Z <| xmv Z Z Z <| xcm (c := false) Z Z Z Z Z (decide_eq_false (by omega)) <| xmv Z Z Z <| xmv Z Z Z <| xlen Z Z Z u25_dSlice <| xcm (c := false) Z Z Z Z Z (decide_eq_false (by omega)) <| xpkf Z Z Z Z ?_
   refine xmv Z Z Z <| xlda Z Z Z m24 .z Z <| xcq Z Z Z Z g6 (Cv.frame0 loc_emp (ct_Check hsm)) loc_emp <| xcm (c := true) Z Z Z Z Z (by rw [if_neg hok]; rfl) <| xpkf Z Z Z Z <| X.nil <| T.yes Z <| T.seq <| tx [0] nf Z Z <| xas Z Z Z <| X.nil ?_
   refine T.ret1 Z (fun W_ D h => ?_)
   obtain ⟨D1, h1, h2⟩ := Wk.emp _ D W_ h
   exact ⟨D1, ⟨rfl, rfl, h1⟩, h2⟩
 ·skip
  refine tx [0] nf Z Z <| xas Z Z Z <| X.nil <| T.seq <| T.seq <| tx [0] nf Z Z <| xas Z Z Z <| X.nil <| T.block <| T.unroll 6 <| T.seq <| T.seq <| tx [0,1] nf Z Z <| xmv Z Z Z <| xcm (c := true) Z Z Z Z Z (by decide) <| X.nil <| T.yes Z <| T.skip ?_
  refine T.seq <| T.block <| T.seq <| T.seq <| tx [0,1,2,3,4,5,6,7,8,9,10,11] nf Z Z <| xmv Z Z Z <| xfa Z Z Z f24_0 <| xixa Z Z Z Z a22 o3 (by decide) <| xld Z Z Z o3 .z Z <| xcm (c := true) Z Z Z Z Z (decide_eq_true (by omega)) <| xmv Z Z Z ?_
  refine x_skip Z Z Z <| x_skip Z Z Z <| x_skip Z Z Z <| x_skip Z Z Z <| x_skip Z Z Z <| xpkt Z Z Z Z <| X.nil <| T.yes Z <| T.seq <| tx [0] nf Z Z <| xas Z Z Z <| X.nil <| T.rets ?_
  refine TE.blk_ret ?_
  refine TE.un_ret ?_
  refine TE.blk_ret ?_
  refine TE.ret1 rfl (fun W_ D h => ?_)
  obtain ⟨D1, h1, h2⟩ := Wk.emp _ D W_ h
  exact ⟨D1, ⟨rfl, rfl, h1⟩, h2⟩
 ·skip
  refine tx [0] nf Z Z <| xas Z Z Z <| X.nil <| T.seq <| T.seq <| tx [0] nf Z Z <| xas Z Z Z <| X.nil <| T.block <| T.unroll 6 <| T.seq <| T.seq <| tx [0,1] nf Z Z <| xmv Z Z Z <| xcm (c := true) Z Z Z Z Z (by decide) <| X.nil <| T.yes Z <| T.skip ?_
  refine T.seq <| T.block <| T.seq <| T.seq <| tx [0,1,2,3,4,5,6,7,8,9,10,11] nf Z Z <| xmv Z Z Z <| xfa Z Z Z f24_0 <| xixa Z Z Z Z a22 o3 (by decide) <| xld Z Z Z o3 .z Z <| xcm (c := false) Z Z Z Z Z (decide_eq_false (by omega)) <| xmv Z Z Z ?_
  refine xmv Z Z Z <| xfa Z Z Z f24_0 <| xixa Z Z Z Z a22 o3 (by decide) <| xld Z Z Z o3 .z Z <| xcm (c := true) Z Z Z Z Z (decide_eq_true (by omega)) <| xpkf Z Z Z Z <| X.nil <| T.yes Z <| T.seq <| tx [0] nf Z Z <| xas Z Z Z <| X.nil <| T.rets ?_
  refine TE.blk_ret ?_
  refine TE.un_ret ?_
  refine TE.blk_ret ?_
  refine TE.ret1 rfl (fun W_ D h => ?_)
  obtain ⟨D1, h1, h2⟩ := Wk.emp _ D W_ h
  exact ⟨D1, ⟨rfl, rfl, h1⟩, h2⟩
 ·skip
  refine tx [0] nf Z Z <| xas Z Z Z <| X.nil <| T.seq <| T.seq <| tx [0] nf Z Z <| xas Z Z Z <| X.nil <| T.block <| T.unroll 6 <| T.seq <| T.seq <| tx [0,1] nf Z Z <| xmv Z Z Z <| xcm (c := true) Z Z Z Z Z (by decide) <| X.nil <| T.yes Z <| T.skip ?_
  refine T.seq <| T.block <| T.seq <| T.seq <| tx [0,1,2,3,4,5,6,7,8,9,10,11] nf Z Z <| xmv Z Z Z <| xfa Z Z Z f24_0 <| xixa Z Z Z Z a22 o3 (by decide) <| xld Z Z Z o3 .z Z <| xcm (c := false) Z Z Z Z Z (decide_eq_false (by omega)) <| xmv Z Z Z ?_
  refine xmv Z Z Z <| xfa Z Z Z f24_0 <| xixa Z Z Z Z a22 o3 (by decide) <| xld Z Z Z o3 .z Z <| xcm (c := false) Z Z Z Z Z (decide_eq_false (by omega)) <| xpkf Z Z Z Z <| X.nil <| T.no Z <| T.skip <| tx [0,1,2,3,4,5,6] nf Z Z <| xmv Z Z Z <| xmv Z Z Z ?_
  refine xfa Z Z Z f24_0 <| xixa Z Z Z Z a22 o3 (by decide) <| xld Z Z Z o3 .z Z <| xarc (c := c.k0) Z Z Z Z Z (by simp only [ari]; rw [IntWalk.i64_in _ (by omega)] <;> omega) <| xas Z Z Z <| X.nil <| T.blk_end <| tx [0,1,2] nf Z Z <| xmv Z Z Z ?_
  refine xarc (c := 1) Z Z Z Z Z (by decide) <| xas Z Z Z <| X.nil <| T.un_end <| T.seq <| T.seq <| tx [0,1] nf Z Z <| xmv Z Z Z <| xcm (c := true) Z Z Z Z Z (by decide) <| X.nil <| T.yes Z <| T.skip <| T.seq <| T.block <| T.seq <| T.seq ?_
  refine tx [0,1,2,3,4,5,6,7,8,9,10,11] nf Z Z <| xmv Z Z Z <| xfa Z Z Z f24_0 <| xixa Z Z Z Z a22 o3 (by decide) <| xld Z Z Z o3 .z Z <| xcm (c := true) Z Z Z Z Z (decide_eq_true (by omega)) <| xmv Z Z Z <| x_skip Z Z Z <| x_skip Z Z Z <| x_skip Z Z Z ?_
  refine x_skip Z Z Z <| x_skip Z Z Z <| xpkt Z Z Z Z <| X.nil <| T.yes Z <| T.seq <| tx [0] nf Z Z <| xas Z Z Z <| X.nil <| T.rets ?_
  refine TE.blk_ret ?_
  refine TE.un_ret ?_
  refine TE.blk_ret ?_
  refine TE.ret1 rfl (fun W_ D h => ?_)
  obtain ⟨D1, h1, h2⟩ := Wk.emp _ D W_ h
  exact ⟨D1, ⟨rfl, rfl, h1⟩, h2⟩
 ·skip
  refine tx [0] nf Z Z <| xas Z Z Z <| X.nil <| T.seq <| T.seq <| tx [0] nf Z Z <| xas Z Z Z <| X.nil <| T.block <| T.unroll 6 <| T.seq <| T.seq <| tx [0,1] nf Z Z <| xmv Z Z Z <| xcm (c := true) Z Z Z Z Z (by decide) <| X.nil <| T.yes Z <| T.skip ?_
  refine T.seq <| T.block <| T.seq <| T.seq <| tx [0,1,2,3,4,5,6,7,8,9,10,11] nf Z Z <| xmv Z Z Z <| xfa Z Z Z f24_0 <| xixa Z Z Z Z a22 o3 (by decide) <| xld Z Z Z o3 .z Z <| xcm (c := false) Z Z Z Z Z (decide_eq_false (by omega)) <| xmv Z Z Z ?_
  refine xmv Z Z Z <| xfa Z Z Z f24_0 <| xixa Z Z Z Z a22 o3 (by decide) <| xld Z Z Z o3 .z Z <| xcm (c := false) Z Z Z Z Z (decide_eq_false (by omega)) <| xpkf Z Z Z Z <| X.nil <| T.no Z <| T.skip <| tx [0,1,2,3,4,5,6] nf Z Z <| xmv Z Z Z <| xmv Z Z Z ?_
  refine xfa Z Z Z f24_0 <| xixa Z Z Z Z a22 o3 (by decide) <| xld Z Z Z o3 .z Z <| xarc (c := c.k0) Z Z Z Z Z (by simp only [ari]; rw [IntWalk.i64_in _ (by omega)] <;> omega) <| xas Z Z Z <| X.nil <| T.blk_end <| tx [0,1,2] nf Z Z <| xmv Z Z Z ?_
  refine xarc (c := 1) Z Z Z Z Z (by decide) <| xas Z Z Z <| X.nil <| T.un_end <| T.seq <| T.seq <| tx [0,1] nf Z Z <| xmv Z Z Z <| xcm (c := true) Z Z Z Z Z (by decide) <| X.nil <| T.yes Z <| T.skip <| T.seq <| T.block <| T.seq <| T.seq ?_
  refine tx [0,1,2,3,4,5,6,7,8,9,10,11] nf Z Z <| xmv Z Z Z <| xfa Z Z Z f24_0 <| xixa Z Z Z Z a22 o3 (by decide) <| xld Z Z Z o3 .z Z <| xcm (c := false) Z Z Z Z Z (decide_eq_false (by omega)) <| xmv Z Z Z <| xmv Z Z Z <| xfa Z Z Z f24_0 ?_
  refine xixa Z Z Z Z a22 o3 (by decide) <| xld Z Z Z o3 .z Z <| xcm (c := true) Z Z Z Z Z (decide_eq_true (by omega)) <| xpkf Z Z Z Z <| X.nil <| T.yes Z <| T.seq <| tx [0] nf Z Z <| xas Z Z Z <| X.nil <| T.rets ?_
  refine TE.blk_ret ?_
  refine TE.un_ret ?_
  refine TE.blk_ret ?_
  refine TE.ret1 rfl (fun W_ D h => ?_)
  obtain ⟨D1, h1, h2⟩ := Wk.emp _ D W_ h
  exact ⟨D1, ⟨rfl, rfl, h1⟩, h2⟩
 ·skip
  refine tx [0] nf Z Z <| xas Z Z Z <| X.nil <| T.seq <| T.seq <| tx [0] nf Z Z <| xas Z Z Z <| X.nil <| T.block <| T.unroll 6 <| T.seq <| T.seq <| tx [0,1] nf Z Z <| xmv Z Z Z <| xcm (c := true) Z Z Z Z Z (by decide) <| X.nil <| T.yes Z <| T.skip ?_
  refine T.seq <| T.block <| T.seq <| T.seq <| tx [0,1,2,3,4,5,6,7,8,9,10,11] nf Z Z <| xmv Z Z Z <| xfa Z Z Z f24_0 <| xixa Z Z Z Z a22 o3 (by decide) <| xld Z Z Z o3 .z Z <| xcm (c := false) Z Z Z Z Z (decide_eq_false (by omega)) <| xmv Z Z Z ?_
  refine xmv Z Z Z <| xfa Z Z Z f24_0 <| xixa Z Z Z Z a22 o3 (by decide) <| xld Z Z Z o3 .z Z <| xcm (c := false) Z Z Z Z Z (decide_eq_false (by omega)) <| xpkf Z Z Z Z <| X.nil <| T.no Z <| T.skip <| tx [0,1,2,3,4,5,6] nf Z Z <| xmv Z Z Z <| xmv Z Z Z ?_
  refine xfa Z Z Z f24_0 <| xixa Z Z Z Z a22 o3 (by decide) <| xld Z Z Z o3 .z Z <| xarc (c := c.k0) Z Z Z Z Z (by simp only [ari]; rw [IntWalk.i64_in _ (by omega)] <;> omega) <| xas Z Z Z <| X.nil <| T.blk_end <| tx [0,1,2] nf Z Z <| xmv Z Z Z ?_
  refine xarc (c := 1) Z Z Z Z Z (by decide) <| xas Z Z Z <| X.nil <| T.un_end <| T.seq <| T.seq <| tx [0,1] nf Z Z <| xmv Z Z Z <| xcm (c := true) Z Z Z Z Z (by decide) <| X.nil <| T.yes Z <| T.skip <| T.seq <| T.block <| T.seq <| T.seq ?_
  refine tx [0,1,2,3,4,5,6,7,8,9,10,11] nf Z Z <| xmv Z Z Z <| xfa Z Z Z f24_0 <| xixa Z Z Z Z a22 o3 (by decide) <| xld Z Z Z o3 .z Z <| xcm (c := false) Z Z Z Z Z (decide_eq_false (by omega)) <| xmv Z Z Z <| xmv Z Z Z <| xfa Z Z Z f24_0 ?_
  refine xixa Z Z Z Z a22 o3 (by decide) <| xld Z Z Z o3 .z Z <| xcm (c := false) Z Z Z Z Z (decide_eq_false (by omega)) <| xpkf Z Z Z Z <| X.nil <| T.no Z <| T.skip <| tx [0,1,2,3,4,5,6] nf Z Z <| xmv Z Z Z <| xmv Z Z Z <| xfa Z Z Z f24_0 ?_
  refine xixa Z Z Z Z a22 o3 (by decide) <| xld Z Z Z o3 .z Z <| xarc (c := (c.k0 + c.k1)) Z Z Z Z Z (by simp only [ari]; rw [IntWalk.i64_in _ (by omega)] <;> omega) <| xas Z Z Z <| X.nil <| T.blk_end <| tx [0,1,2] nf Z Z <| xmv Z Z Z ?_
  refine xarc (c := 2) Z Z Z Z Z (by decide) <| xas Z Z Z <| X.nil <| T.un_end <| T.seq <| T.seq <| tx [0,1] nf Z Z <| xmv Z Z Z <| xcm (c := true) Z Z Z Z Z (by decide) <| X.nil <| T.yes Z <| T.skip <| T.seq <| T.block <| T.seq <| T.seq ?_
  refine tx [0,1,2,3,4,5,6,7,8,9,10,11] nf Z Z <| xmv Z Z Z <| xfa Z Z Z f24_0 <| xixa Z Z Z Z a22 o3 (by decide) <| xld Z Z Z o3 .z Z <| xcm (c := true) Z Z Z Z Z (decide_eq_true (by omega)) <| xmv Z Z Z <| x_skip Z Z Z <| x_skip Z Z Z <| x_skip Z Z Z ?_
  refine x_skip Z Z Z <| x_skip Z Z Z <| xpkt Z Z Z Z <| X.nil <| T.yes Z <| T.seq <| tx [0] nf Z Z <| xas Z Z Z <| X.nil <| T.rets ?_
  refine TE.blk_ret ?_
  refine TE.un_ret ?_
  refine TE.blk_ret ?_
  refine TE.ret1 rfl (fun W_ D h => ?_)
  obtain ⟨D1, h1, h2⟩ := Wk.emp _ D W_ h
  exact ⟨D1, ⟨rfl, rfl, h1⟩, h2⟩
 ·skip
  refine tx [0] nf Z Z <| xas Z Z Z <| X.nil <| T.seq <| T.seq <| tx [0] nf Z Z <| xas Z Z Z <| X.nil <| T.block <| T.unroll 6 <| T.seq <| T.seq <| tx [0,1] nf Z Z <| xmv Z Z Z <| xcm (c := true) Z Z Z Z Z (by decide) <| X.nil <| T.yes Z <| T.skip ?_
  refine T.seq <| T.block <| T.seq <| T.seq <| tx [0,1,2,3,4,5,6,7,8,9,10,11] nf Z Z <| xmv Z Z Z <| xfa Z Z Z f24_0 <| xixa Z Z Z Z a22 o3 (by decide) <| xld Z Z Z o3 .z Z <| xcm (c := false) Z Z Z Z Z (decide_eq_false (by omega)) <| xmv Z Z Z ?_
  refine xmv Z Z Z <| xfa Z Z Z f24_0 <| xixa Z Z Z Z a22 o3 (by decide) <| xld Z Z Z o3 .z Z <| xcm (c := false) Z Z Z Z Z (decide_eq_false (by omega)) <| xpkf Z Z Z Z <| X.nil <| T.no Z <| T.skip <| tx [0,1,2,3,4,5,6] nf Z Z <| xmv Z Z Z <| xmv Z Z Z ?_
  refine xfa Z Z Z f24_0 <| xixa Z Z Z Z a22 o3 (by decide) <| xld Z Z Z o3 .z Z <| xarc (c := c.k0) Z Z Z Z Z (by simp only [ari]; rw [IntWalk.i64_in _ (by omega)] <;> omega) <| xas Z Z Z <| X.nil <| T.blk_end <| tx [0,1,2] nf Z Z <| xmv Z Z Z ?_
  refine xarc (c := 1) Z Z Z Z Z (by decide) <| xas Z Z Z <| X.nil <| T.un_end <| T.seq <| T.seq <| tx [0,1] nf Z Z <| xmv Z Z Z <| xcm (c := true) Z Z Z Z Z (by decide) <| X.nil <| T.yes Z <| T.skip <| T.seq <| T.block <| T.seq <| T.seq ?_
  refine tx [0,1,2,3,4,5,6,7,8,9,10,11] nf Z Z <| xmv Z Z Z <| xfa Z Z Z f24_0 <| xixa Z Z Z Z a22 o3 (by decide) <| xld Z Z Z o3 .z Z <| xcm (c := false) Z Z Z Z Z (decide_eq_false (by omega)) <| xmv Z Z Z <| xmv Z Z Z <| xfa Z Z Z f24_0 ?_
  refine xixa Z Z Z Z a22 o3 (by decide) <| xld Z Z Z o3 .z Z <| xcm (c := false) Z Z Z Z Z (decide_eq_false (by omega)) <| xpkf Z Z Z Z <| X.nil <| T.no Z <| T.skip <| tx [0,1,2,3,4,5,6] nf Z Z <| xmv Z Z Z <| xmv Z Z Z <| xfa Z Z Z f24_0 ?_
  refine xixa Z Z Z Z a22 o3 (by decide) <| xld Z Z Z o3 .z Z <| xarc (c := (c.k0 + c.k1)) Z Z Z Z Z (by simp only [ari]; rw [IntWalk.i64_in _ (by omega)] <;> omega) <| xas Z Z Z <| X.nil <| T.blk_end <| tx [0,1,2] nf Z Z <| xmv Z Z Z ?_
  refine xarc (c := 2) Z Z Z Z Z (by decide) <| xas Z Z Z <| X.nil <| T.un_end <| T.seq <| T.seq <| tx [0,1] nf Z Z <| xmv Z Z Z <| xcm (c := true) Z Z Z Z Z (by decide) <| X.nil <| T.yes Z <| T.skip <| T.seq <| T.block <| T.seq <| T.seq ?_
  refine tx [0,1,2,3,4,5,6,7,8,9,10,11] nf Z Z <| xmv Z Z Z <| xfa Z Z Z f24_0 <| xixa Z Z Z Z a22 o3 (by decide) <| xld Z Z Z o3 .z Z <| xcm (c := false) Z Z Z Z Z (decide_eq_false (by omega)) <| xmv Z Z Z <| xmv Z Z Z <| xfa Z Z Z f24_0 ?_
  refine xixa Z Z Z Z a22 o3 (by decide) <| xld Z Z Z o3 .z Z <| xcm (c := true) Z Z Z Z Z (decide_eq_true (by omega)) <| xpkf Z Z Z Z <| X.nil <| T.yes Z <| T.seq <| tx [0] nf Z Z <| xas Z Z Z <| X.nil <| T.rets ?_
  refine TE.blk_ret ?_
  refine TE.un_ret ?_
  refine TE.blk_ret ?_
  refine TE.ret1 rfl (fun W_ D h => ?_)
  obtain ⟨D1, h1, h2⟩ := Wk.emp _ D W_ h
  exact ⟨D1, ⟨rfl, rfl, h1⟩, h2⟩
 ·skip
  refine tx [0] nf Z Z <| xas Z Z Z <| X.nil <| T.seq <| T.seq <| tx [0] nf Z Z <| xas Z Z Z <| X.nil <| T.block <| T.unroll 6 <| T.seq <| T.seq <| tx [0,1] nf Z Z <| xmv Z Z Z <| xcm (c := true) Z Z Z Z Z (by decide) <| X.nil <| T.yes Z <| T.skip ?_
  refine T.seq <| T.block <| T.seq <| T.seq <| tx [0,1,2,3,4,5,6,7,8,9,10,11] nf Z Z <| xmv Z Z Z <| xfa Z Z Z f24_0 <| xixa Z Z Z Z a22 o3 (by decide) <| xld Z Z Z o3 .z Z <| xcm (c := false) Z Z Z Z Z (decide_eq_false (by omega)) <| xmv Z Z Z ?_
  refine xmv Z Z Z <| xfa Z Z Z f24_0 <| xixa Z Z Z Z a22 o3 (by decide) <| xld Z Z Z o3 .z Z <| xcm (c := false) Z Z Z Z Z (decide_eq_false (by omega)) <| xpkf Z Z Z Z <| X.nil <| T.no Z <| T.skip <| tx [0,1,2,3,4,5,6] nf Z Z <| xmv Z Z Z <| xmv Z Z Z ?_
  refine xfa Z Z Z f24_0 <| xixa Z Z Z Z a22 o3 (by decide) <| xld Z Z Z o3 .z Z <| xarc (c := c.k0) Z Z Z Z Z (by simp only [ari]; rw [IntWalk.i64_in _ (by omega)] <;> omega) <| xas Z Z Z <| X.nil <| T.blk_end <| tx [0,1,2] nf Z Z <| xmv Z Z Z ?_
  refine xarc (c := 1) Z Z Z Z Z (by decide) <| xas Z Z Z <| X.nil <| T.un_end <| T.seq <| T.seq <| tx [0,1] nf Z Z <| xmv Z Z Z <| xcm (c := true) Z Z Z Z Z (by decide) <| X.nil <| T.yes Z <| T.skip <| T.seq <| T.block <| T.seq <| T.seq ?_
  refine tx [0,1,2,3,4,5,6,7,8,9,10,11] nf Z Z <| xmv Z Z Z <| xfa Z Z Z f24_0 <| xixa Z Z Z Z a22 o3 (by decide) <| xld Z Z Z o3 .z Z <| xcm (c := false) Z Z Z Z Z (decide_eq_false (by omega)) <| xmv Z Z Z <| xmv Z Z Z <| xfa Z Z Z f24_0 ?_
  refine xixa Z Z Z Z a22 o3 (by decide) <| xld Z Z Z o3 .z Z <| xcm (c := false) Z Z Z Z Z (decide_eq_false (by omega)) <| xpkf Z Z Z Z <| X.nil <| T.no Z <| T.skip <| tx [0,1,2,3,4,5,6] nf Z Z <| xmv Z Z Z <| xmv Z Z Z <| xfa Z Z Z f24_0 ?_
  refine xixa Z Z Z Z a22 o3 (by decide) <| xld Z Z Z o3 .z Z <| xarc (c := (c.k0 + c.k1)) Z Z Z Z Z (by simp only [ari]; rw [IntWalk.i64_in _ (by omega)] <;> omega) <| xas Z Z Z <| X.nil <| T.blk_end <| tx [0,1,2] nf Z Z <| xmv Z Z Z ?_
  refine xarc (c := 2) Z Z Z Z Z (by decide) <| xas Z Z Z <| X.nil <| T.un_end <| T.seq <| T.seq <| tx [0,1] nf Z Z <| xmv Z Z Z <| xcm (c := true) Z Z Z Z Z (by decide) <| X.nil <| T.yes Z <| T.skip <| T.seq <| T.block <| T.seq <| T.seq ?_
  refine tx [0,1,2,3,4,5,6,7,8,9,10,11] nf Z Z <| xmv Z Z Z <| xfa Z Z Z f24_0 <| xixa Z Z Z Z a22 o3 (by decide) <| xld Z Z Z o3 .z Z <| xcm (c := false) Z Z Z Z Z (decide_eq_false (by omega)) <| xmv Z Z Z <| xmv Z Z Z <| xfa Z Z Z f24_0 ?_
  refine xixa Z Z Z Z a22 o3 (by decide) <| xld Z Z Z o3 .z Z <| xcm (c := false) Z Z Z Z Z (decide_eq_false (by omega)) <| xpkf Z Z Z Z <| X.nil <| T.no Z <| T.skip <| tx [0,1,2,3,4,5,6] nf Z Z <| xmv Z Z Z <| xmv Z Z Z <| xfa Z Z Z f24_0 ?_
  refine xixa Z Z Z Z a22 o3 (by decide) <| xld Z Z Z o3 .z Z <| xarc (c := (c.k0 + c.k1 + c.k2)) Z Z Z Z Z (by simp only [ari]; rw [IntWalk.i64_in _ (by omega)] <;> omega) <| xas Z Z Z <| X.nil <| T.blk_end <| tx [0,1,2] nf Z Z <| xmv Z Z Z ?_
  refine xarc (c := 3) Z Z Z Z Z (by decide) <| xas Z Z Z <| X.nil <| T.un_end <| T.seq <| T.seq <| tx [0,1] nf Z Z <| xmv Z Z Z <| xcm (c := true) Z Z Z Z Z (by decide) <| X.nil <| T.yes Z <| T.skip <| T.seq <| T.block <| T.seq <| T.seq ?_
  refine tx [0,1,2,3,4,5,6,7,8,9,10,11] nf Z Z <| xmv Z Z Z <| xfa Z Z Z f24_0 <| xixa Z Z Z Z a22 o3 (by decide) <| xld Z Z Z o3 .z Z <| xcm (c := true) Z Z Z Z Z (decide_eq_true (by omega)) <| xmv Z Z Z <| x_skip Z Z Z <| x_skip Z Z Z <| x_skip Z Z Z ?_
  refine x_skip Z Z Z <| x_skip Z Z Z <| xpkt Z Z Z Z <| X.nil <| T.yes Z <| T.seq <| tx [0] nf Z Z <| xas Z Z Z <| X.nil <| T.rets ?_
  refine TE.blk_ret ?_
  refine TE.un_ret ?_
  refine TE.blk_ret ?_
  refine TE.ret1 rfl (fun W_ D h => ?_)
  obtain ⟨D1, h1, h2⟩ := Wk.emp _ D W_ h
  exact ⟨D1, ⟨rfl, rfl, h1⟩, h2⟩
 ·skip
  refine tx [0] nf Z Z <| xas Z Z Z <| X.nil <| T.seq <| T.seq <| tx [0] nf Z Z <| xas Z Z Z <| X.nil <| T.block <| T.unroll 6 <| T.seq <| T.seq <| tx [0,1] nf Z Z <| xmv Z Z Z <| xcm (c := true) Z Z Z Z Z (by decide) <| X.nil <| T.yes Z <| T.skip ?_
  refine T.seq <| T.block <| T.seq <| T.seq <| tx [0,1,2,3,4,5,6,7,8,9,10,11] nf Z Z <| xmv Z Z Z <| xfa Z Z Z f24_0 <| xixa Z Z Z Z a22 o3 (by decide) <| xld Z Z Z o3 .z Z <| xcm (c := false) Z Z Z Z Z (decide_eq_false (by omega)) <| xmv Z Z Z ?_
  refine xmv Z Z Z <| xfa Z Z Z f24_0 <| xixa Z Z Z Z a22 o3 (by decide) <| xld Z Z Z o3 .z Z <| xcm (c := false) Z Z Z Z Z (decide_eq_false (by omega)) <| xpkf Z Z Z Z <| X.nil <| T.no Z <| T.skip <| tx [0,1,2,3,4,5,6] nf Z Z <| xmv Z Z Z <| xmv Z Z Z ?_
  refine xfa Z Z Z f24_0 <| xixa Z Z Z Z a22 o3 (by decide) <| xld Z Z Z o3 .z Z <| xarc (c := c.k0) Z Z Z Z Z (by simp only [ari]; rw [IntWalk.i64_in _ (by omega)] <;> omega) <| xas Z Z Z <| X.nil <| T.blk_end <| tx [0,1,2] nf Z Z <| xmv Z Z Z ?_
  refine xarc (c := 1) Z Z Z Z Z (by decide) <| xas Z Z Z <| X.nil <| T.un_end <| T.seq <| T.seq <| tx [0,1] nf Z Z <| xmv Z Z Z <| xcm (c := true) Z Z Z Z Z (by decide) <| X.nil <| T.yes Z <| T.skip <| T.seq <| T.block <| T.seq <| T.seq ?_
  refine tx [0,1,2,3,4,5,6,7,8,9,10,11] nf Z Z <| xmv Z Z Z <| xfa Z Z Z f24_0 <| xixa Z Z Z Z a22 o3 (by decide) <| xld Z Z Z o3 .z Z <| xcm (c := false) Z Z Z Z Z (decide_eq_false (by omega)) <| xmv Z Z Z <| xmv Z Z Z <| xfa Z Z Z f24_0 ?_
  refine xixa Z Z Z Z a22 o3 (by decide) <| xld Z Z Z o3 .z Z <| xcm (c := false) Z Z Z Z Z (decide_eq_false (by omega)) <| xpkf Z Z Z Z <| X.nil <| T.no Z <| T.skip <| tx [0,1,2,3,4,5,6] nf Z Z <| xmv Z Z Z <| xmv Z Z Z <| xfa Z Z Z f24_0 ?_
  refine xixa Z Z Z Z a22 o3 (by decide) <| xld Z Z Z o3 .z Z <| xarc (c := (c.k0 + c.k1)) Z Z Z Z Z (by simp only [ari]; rw [IntWalk.i64_in _ (by omega)] <;> omega) <| xas Z Z Z <| X.nil <| T.blk_end <| tx [0,1,2] nf Z Z <| xmv Z Z Z ?_
  refine xarc (c := 2) Z Z Z Z Z (by decide) <| xas Z Z Z <| X.nil <| T.un_end <| T.seq <| T.seq <| tx [0,1] nf Z Z <| xmv Z Z Z <| xcm (c := true) Z Z Z Z Z (by decide) <| X.nil <| T.yes Z <| T.skip <| T.seq <| T.block <| T.seq <| T.seq ?_
  refine tx [0,1,2,3,4,5,6,7,8,9,10,11] nf Z Z <| xmv Z Z Z <| xfa Z Z Z f24_0 <| xixa Z Z Z Z a22 o3 (by decide) <| xld Z Z Z o3 .z Z <| xcm (c := false) Z Z Z Z Z (decide_eq_false (by omega)) <| xmv Z Z Z <| xmv Z Z Z <| xfa Z Z Z f24_0 ?_
  refine xixa Z Z Z Z a22 o3 (by decide) <| xld Z Z Z o3 .z Z <| xcm (c := false) Z Z Z Z Z (decide_eq_false (by omega)) <| xpkf Z Z Z Z <| X.nil <| T.no Z <| T.skip <| tx [0,1,2,3,4,5,6] nf Z Z <| xmv Z Z Z <| xmv Z Z Z <| xfa Z Z Z f24_0 ?_
  refine xixa Z Z Z Z a22 o3 (by decide) <| xld Z Z Z o3 .z Z <| xarc (c := (c.k0 + c.k1 + c.k2)) Z Z Z Z Z (by simp only [ari]; rw [IntWalk.i64_in _ (by omega)] <;> omega) <| xas Z Z Z <| X.nil <| T.blk_end <| tx [0,1,2] nf Z Z <| xmv Z Z Z ?_
  refine xarc (c := 3) Z Z Z Z Z (by decide) <| xas Z Z Z <| X.nil <| T.un_end <| T.seq <| T.seq <| tx [0,1] nf Z Z <| xmv Z Z Z <| xcm (c := true) Z Z Z Z Z (by decide) <| X.nil <| T.yes Z <| T.skip <| T.seq <| T.block <| T.seq <| T.seq ?_
  refine tx [0,1,2,3,4,5,6,7,8,9,10,11] nf Z Z <| xmv Z Z Z <| xfa Z Z Z f24_0 <| xixa Z Z Z Z a22 o3 (by decide) <| xld Z Z Z o3 .z Z <| xcm (c := false) Z Z Z Z Z (decide_eq_false (by omega)) <| xmv Z Z Z <| xmv Z Z Z <| xfa Z Z Z f24_0 ?_
  refine xixa Z Z Z Z a22 o3 (by decide) <| xld Z Z Z o3 .z Z <| xcm (c := true) Z Z Z Z Z (decide_eq_true (by omega)) <| xpkf Z Z Z Z <| X.nil <| T.yes Z <| T.seq <| tx [0] nf Z Z <| xas Z Z Z <| X.nil <| T.rets ?_
  refine TE.blk_ret ?_
  refine TE.un_ret ?_
  refine TE.blk_ret ?_
  refine TE.ret1 rfl (fun W_ D h => ?_)
  obtain ⟨D1, h1, h2⟩ := Wk.emp _ D W_ h
  exact ⟨D1, ⟨rfl, rfl, h1⟩, h2⟩
 ·skip
  refine tx [0] nf Z Z <| xas Z Z Z <| X.nil <| T.seq <| T.seq <| tx [0] nf Z Z <| xas Z Z Z <| X.nil <| T.block <| T.unroll 6 <| T.seq <| T.seq <| tx [0,1] nf Z Z <| xmv Z Z Z <| xcm (c := true) Z Z Z Z Z (by decide) <| X.nil <| T.yes Z <| T.skip ?_
  refine T.seq <| T.block <| T.seq <| T.seq <| tx [0,1,2,3,4,5,6,7,8,9,10,11] nf Z Z <| xmv Z Z Z <| xfa Z Z Z f24_0 <| xixa Z Z Z Z a22 o3 (by decide) <| xld Z Z Z o3 .z Z <| xcm (c := false) Z Z Z Z Z (decide_eq_false (by omega)) <| xmv Z Z Z ?_
  refine xmv Z Z Z <| xfa Z Z Z f24_0 <| xixa Z Z Z Z a22 o3 (by decide) <| xld Z Z Z o3 .z Z <| xcm (c := false) Z Z Z Z Z (decide_eq_false (by omega)) <| xpkf Z Z Z Z <| X.nil <| T.no Z <| T.skip <| tx [0,1,2,3,4,5,6] nf Z Z <| xmv Z Z Z <| xmv Z Z Z ?_
  refine xfa Z Z Z f24_0 <| xixa Z Z Z Z a22 o3 (by decide) <| xld Z Z Z o3 .z Z <| xarc (c := c.k0) Z Z Z Z Z (by simp only [ari]; rw [IntWalk.i64_in _ (by omega)] <;> omega) <| xas Z Z Z <| X.nil <| T.blk_end <| tx [0,1,2] nf Z Z <| xmv Z Z Z ?_
  refine xarc (c := 1) Z Z Z Z Z (by decide) <| xas Z Z Z <| X.nil <| T.un_end <| T.seq <| T.seq <| tx [0,1] nf Z Z <| xmv Z Z Z <| xcm (c := true) Z Z Z Z Z (by decide) <| X.nil <| T.yes Z <| T.skip <| T.seq <| T.block <| T.seq <| T.seq ?_
  refine tx [0,1,2,3,4,5,6,7,8,9,10,11] nf Z Z <| xmv Z Z Z <| xfa Z Z Z f24_0 <| xixa Z Z Z Z a22 o3 (by decide) <| xld Z Z Z o3 .z Z <| xcm (c := false) Z Z Z Z Z (decide_eq_false (by omega)) <| xmv Z Z Z <| xmv Z Z Z <| xfa Z Z Z f24_0 ?_
  refine xixa Z Z Z Z a22 o3 (by decide) <| xld Z Z Z o3 .z Z <| xcm (c := false) Z Z Z Z Z (decide_eq_false (by omega)) <| xpkf Z Z Z Z <| X.nil <| T.no Z <| T.skip <| tx [0,1,2,3,4,5,6] nf Z Z <| xmv Z Z Z <| xmv Z Z Z <| xfa Z Z Z f24_0 ?_
  refine xixa Z Z Z Z a22 o3 (by decide) <| xld Z Z Z o3 .z Z <| xarc (c := (c.k0 + c.k1)) Z Z Z Z Z (by simp only [ari]; rw [IntWalk.i64_in _ (by omega)] <;> omega) <| xas Z Z Z <| X.nil <| T.blk_end <| tx [0,1,2] nf Z Z <| xmv Z Z Z ?_
  refine xarc (c := 2) Z Z Z Z Z (by decide) <| xas Z Z Z <| X.nil <| T.un_end <| T.seq <| T.seq <| tx [0,1] nf Z Z <| xmv Z Z Z <| xcm (c := true) Z Z Z Z Z (by decide) <| X.nil <| T.yes Z <| T.skip <| T.seq <| T.block <| T.seq <| T.seq ?_
  refine tx [0,1,2,3,4,5,6,7,8,9,10,11] nf Z Z <| xmv Z Z Z <| xfa Z Z Z f24_0 <| xixa Z Z Z Z a22 o3 (by decide) <| xld Z Z Z o3 .z Z <| xcm (c := false) Z Z Z Z Z (decide_eq_false (by omega)) <| xmv Z Z Z <| xmv Z Z Z <| xfa Z Z Z f24_0 ?_
  refine xixa Z Z Z Z a22 o3 (by decide) <| xld Z Z Z o3 .z Z <| xcm (c := false) Z Z Z Z Z (decide_eq_false (by omega)) <| xpkf Z Z Z Z <| X.nil <| T.no Z <| T.skip <| tx [0,1,2,3,4,5,6] nf Z Z <| xmv Z Z Z <| xmv Z Z Z <| xfa Z Z Z f24_0 ?_
  refine xixa Z Z Z Z a22 o3 (by decide) <| xld Z Z Z o3 .z Z <| xarc (c := (c.k0 + c.k1 + c.k2)) Z Z Z Z Z (by simp only [ari]; rw [IntWalk.i64_in _ (by omega)] <;> omega) <| xas Z Z Z <| X.nil <| T.blk_end <| tx [0,1,2] nf Z Z <| xmv Z Z Z ?_
  refine xarc (c := 3) Z Z Z Z Z (by decide) <| xas Z Z Z <| X.nil <| T.un_end <| T.seq <| T.seq <| tx [0,1] nf Z Z <| xmv Z Z Z <| xcm (c := true) Z Z Z Z Z (by decide) <| X.nil <| T.yes Z <| T.skip <| T.seq <| T.block <| T.seq <| T.seq ?_
  refine tx [0,1,2,3,4,5,6,7,8,9,10,11] nf Z Z <| xmv Z Z Z <| xfa Z Z Z f24_0 <| xixa Z Z Z Z a22 o3 (by decide) <| xld Z Z Z o3 .z Z <| xcm (c := false) Z Z Z Z Z (decide_eq_false (by omega)) <| xmv Z Z Z <| xmv Z Z Z <| xfa Z Z Z f24_0 ?_
  refine xixa Z Z Z Z a22 o3 (by decide) <| xld Z Z Z o3 .z Z <| xcm (c := false) Z Z Z Z Z (decide_eq_false (by omega)) <| xpkf Z Z Z Z <| X.nil <| T.no Z <| T.skip <| tx [0,1,2,3,4,5,6] nf Z Z <| xmv Z Z Z <| xmv Z Z Z <| xfa Z Z Z f24_0 ?_
  refine xixa Z Z Z Z a22 o3 (by decide) <| xld Z Z Z o3 .z Z <| xarc (c := (c.k0 + c.k1 + c.k2 + c.k3)) Z Z Z Z Z (by simp only [ari]; rw [IntWalk.i64_in _ (by omega)] <;> omega) <| xas Z Z Z <| X.nil <| T.blk_end <| tx [0,1,2] nf Z Z <| xmv Z Z Z ?_
  refine xarc (c := 4) Z Z Z Z Z (by decide) <| xas Z Z Z <| X.nil <| T.un_end <| T.seq <| T.seq <| tx [0,1] nf Z Z <| xmv Z Z Z <| xcm (c := true) Z Z Z Z Z (by decide) <| X.nil <| T.yes Z <| T.skip <| T.seq <| T.block <| T.seq <| T.seq ?_
  refine tx [0,1,2,3,4,5,6,7,8,9,10,11] nf Z Z <| xmv Z Z Z <| xfa Z Z Z f24_0 <| xixa Z Z Z Z a22 o3 (by decide) <| xld Z Z Z o3 .z Z <| xcm (c := true) Z Z Z Z Z (decide_eq_true (by omega)) <| xmv Z Z Z <| x_skip Z Z Z <| x_skip Z Z Z <| x_skip Z Z Z ?_
  refine x_skip Z Z Z <| x_skip Z Z Z <| xpkt Z Z Z Z <| X.nil <| T.yes Z <| T.seq <| tx [0] nf Z Z <| xas Z Z Z <| X.nil <| T.rets ?_
  refine TE.blk_ret ?_
  refine TE.un_ret ?_
  refine TE.blk_ret ?_
  refine TE.ret1 rfl (fun W_ D h => ?_)
  obtain ⟨D1, h1, h2⟩ := Wk.emp _ D W_ h
  exact ⟨D1, ⟨rfl, rfl, h1⟩, h2⟩
 ·skip
  refine tx [0] nf Z Z <| xas Z Z Z <| X.nil <| T.seq <| T.seq <| tx [0] nf Z Z <| xas Z Z Z <| X.nil <| T.block <| T.unroll 6 <| T.seq <| T.seq <| tx [0,1] nf Z Z <| xmv Z Z Z <| xcm (c := true) Z Z Z Z Z (by decide) <| X.nil <| T.yes Z <| T.skip ?_
  refine T.seq <| T.block <| T.seq <| T.seq <| tx [0,1,2,3,4,5,6,7,8,9,10,11] nf Z Z <| xmv Z Z Z <| xfa Z Z Z f24_0 <| xixa Z Z Z Z a22 o3 (by decide) <| xld Z Z Z o3 .z Z <| xcm (c := false) Z Z Z Z Z (decide_eq_false (by omega)) <| xmv Z Z Z ?_
  refine xmv Z Z Z <| xfa Z Z Z f24_0 <| xixa Z Z Z Z a22 o3 (by decide) <| xld Z Z Z o3 .z Z <| xcm (c := false) Z Z Z Z Z (decide_eq_false (by omega)) <| xpkf Z Z Z Z <| X.nil <| T.no Z <| T.skip <| tx [0,1,2,3,4,5,6] nf Z Z <| xmv Z Z Z <| xmv Z Z Z ?_
  refine xfa Z Z Z f24_0 <| xixa Z Z Z Z a22 o3 (by decide) <| xld Z Z Z o3 .z Z <| xarc (c := c.k0) Z Z Z Z Z (by simp only [ari]; rw [IntWalk.i64_in _ (by omega)] <;> omega) <| xas Z Z Z <| X.nil <| T.blk_end <| tx [0,1,2] nf Z Z <| xmv Z Z Z ?_
  refine xarc (c := 1) Z Z Z Z Z (by decide) <| xas Z Z Z <| X.nil <| T.un_end <| T.seq <| T.seq <| tx [0,1] nf Z Z <| xmv Z Z Z <| xcm (c := true) Z Z Z Z Z (by decide) <| X.nil <| T.yes Z <| T.skip <| T.seq <| T.block <| T.seq <| T.seq ?_
  refine tx [0,1,2,3,4,5,6,7,8,9,10,11] nf Z Z <| xmv Z Z Z <| xfa Z Z Z f24_0 <| xixa Z Z Z Z a22 o3 (by decide) <| xld Z Z Z o3 .z Z <| xcm (c := false) Z Z Z Z Z (decide_eq_false (by omega)) <| xmv Z Z Z <| xmv Z Z Z <| xfa Z Z Z f24_0 ?_
  refine xixa Z Z Z Z a22 o3 (by decide) <| xld Z Z Z o3 .z Z <| xcm (c := false) Z Z Z Z Z (decide_eq_false (by omega)) <| xpkf Z Z Z Z <| X.nil <| T.no Z <| T.skip <| tx [0,1,2,3,4,5,6] nf Z Z <| xmv Z Z Z <| xmv Z Z Z <| xfa Z Z Z f24_0 ?_
  refine xixa Z Z Z Z a22 o3 (by decide) <| xld Z Z Z o3 .z Z <| xarc (c := (c.k0 + c.k1)) Z Z Z Z Z (by simp only [ari]; rw [IntWalk.i64_in _ (by omega)] <;> omega) <| xas Z Z Z <| X.nil <| T.blk_end <| tx [0,1,2] nf Z Z <| xmv Z Z Z ?_
  refine xarc (c := 2) Z Z Z Z Z (by decide) <| xas Z Z Z <| X.nil <| T.un_end <| T.seq <| T.seq <| tx [0,1] nf Z Z <| xmv Z Z Z <| xcm (c := true) Z Z Z Z Z (by decide) <| X.nil <| T.yes Z <| T.skip <| T.seq <| T.block <| T.seq <| T.seq ?_
  refine tx [0,1,2,3,4,5,6,7,8,9,10,11] nf Z Z <| xmv Z Z Z <| xfa Z Z Z f24_0 <| xixa Z Z Z Z a22 o3 (by decide) <| xld Z Z Z o3 .z Z <| xcm (c := false) Z Z Z Z Z (decide_eq_false (by omega)) <| xmv Z Z Z <| xmv Z Z Z <| xfa Z Z Z f24_0 ?_
  refine xixa Z Z Z Z a22 o3 (by decide) <| xld Z Z Z o3 .z Z <| xcm (c := false) Z Z Z Z Z (decide_eq_false (by omega)) <| xpkf Z Z Z Z <| X.nil <| T.no Z <| T.skip <| tx [0,1,2,3,4,5,6] nf Z Z <| xmv Z Z Z <| xmv Z Z Z <| xfa Z Z Z f24_0 ?_
  refine xixa Z Z Z Z a22 o3 (by decide) <| xld Z Z Z o3 .z Z <| xarc (c := (c.k0 + c.k1 + c.k2)) Z Z Z Z Z (by simp only [ari]; rw [IntWalk.i64_in _ (by omega)] <;> omega) <| xas Z Z Z <| X.nil <| T.blk_end <| tx [0,1,2] nf Z Z <| xmv Z Z Z ?_
  refine xarc (c := 3) Z Z Z Z Z (by decide) <| xas Z Z Z <| X.nil <| T.un_end <| T.seq <| T.seq <| tx [0,1] nf Z Z <| xmv Z Z Z <| xcm (c := true) Z Z Z Z Z (by decide) <| X.nil <| T.yes Z <| T.skip <| T.seq <| T.block <| T.seq <| T.seq ?_
  refine tx [0,1,2,3,4,5,6,7,8,9,10,11] nf Z Z <| xmv Z Z Z <| xfa Z Z Z f24_0 <| xixa Z Z Z Z a22 o3 (by decide) <| xld Z Z Z o3 .z Z <| xcm (c := false) Z Z Z Z Z (decide_eq_false (by omega)) <| xmv Z Z Z <| xmv Z Z Z <| xfa Z Z Z f24_0 ?_
  refine xixa Z Z Z Z a22 o3 (by decide) <| xld Z Z Z o3 .z Z <| xcm (c := false) Z Z Z Z Z (decide_eq_false (by omega)) <| xpkf Z Z Z Z <| X.nil <| T.no Z <| T.skip <| tx [0,1,2,3,4,5,6] nf Z Z <| xmv Z Z Z <| xmv Z Z Z <| xfa Z Z Z f24_0 ?_
  refine xixa Z Z Z Z a22 o3 (by decide) <| xld Z Z Z o3 .z Z <| xarc (c := (c.k0 + c.k1 + c.k2 + c.k3)) Z Z Z Z Z (by simp only [ari]; rw [IntWalk.i64_in _ (by omega)] <;> omega) <| xas Z Z Z <| X.nil <| T.blk_end <| tx [0,1,2] nf Z Z <| xmv Z Z Z ?_
  refine xarc (c := 4) Z Z Z Z Z (by decide) <| xas Z Z Z <| X.nil <| T.un_end <| T.seq <| T.seq <| tx [0,1] nf Z Z <| xmv Z Z Z <| xcm (c := true) Z Z Z Z Z (by decide) <| X.nil <| T.yes Z <| T.skip <| T.seq <| T.block <| T.seq <| T.seq ?_
  refine tx [0,1,2,3,4,5,6,7,8,9,10,11] nf Z Z <| xmv Z Z Z <| xfa Z Z Z f24_0 <| xixa Z Z Z Z a22 o3 (by decide) <| xld Z Z Z o3 .z Z <| xcm (c := false) Z Z Z Z Z (decide_eq_false (by omega)) <| xmv Z Z Z <| xmv Z Z Z <| xfa Z Z Z f24_0 ?_
  refine xixa Z Z Z Z a22 o3 (by decide) <| xld Z Z Z o3 .z Z <| xcm (c := true) Z Z Z Z Z (decide_eq_true (by omega)) <| xpkf Z Z Z Z <| X.nil <| T.yes Z <| T.seq <| tx [0] nf Z Z <| xas Z Z Z <| X.nil <| T.rets ?_
  refine TE.blk_ret ?_
  refine TE.un_ret ?_
  refine TE.blk_ret ?_
  refine TE.ret1 rfl (fun W_ D h => ?_)
  obtain ⟨D1, h1, h2⟩ := Wk.emp _ D W_ h
  exact ⟨D1, ⟨rfl, rfl, h1⟩, h2⟩
end Go.Proofs.YtmpcfamcbaineaaGreat.Mo.Mp
namespace Go.Proofs.YtmpcfamcbaineaaGreat.Mo.Iv
open Go.RowKit Go.Proofs.YtmpcfamcbaineaaGreat.Mo
set_option linter.unusedVariables false
set_option linter.unusedSimpArgs false
open Go.Proofs.YtmpcfamcbaineaaGreat.Mo
theorem put_len (l : Wds) (a v : Int) : (put l a v).length = l.length := by
  unfold put
  split
  · rw [List.length_set]
  · rfl
theorem inM_put {l : Wds} {a v b : Int} : inM (put l a v) b ↔ inM l b := by unfold inM; rw [put_len]
theorem ld_out {l : Wds} {a : Int} (h : ¬ inM l a) : ld l a = 0 := if_neg h
theorem ld_in {l : Wds} {a : Int} (h : inM l a) : ld l a = l.getD a.toNat 0 := if_pos h
theorem ld_put_eq {l : Wds} {a v : Int} (h : inM l a) : ld (put l a v) a = v := by
  rw [ld_in (inM_put.2 h)]
  unfold put
  rw [if_pos h, List.getD_eq_getElem?_getD, List.getElem?_set_self (by unfold inM at h; omega)]
  rfl
theorem ld_put_ne {l : Wds} {a v b : Int} (h : a = b → a < 0) : ld (put l a v) b = ld l b := by
  by_cases hb : inM l b
  · rw [ld_in (inM_put.2 hb), ld_in hb]
    unfold put
    split
    · rename_i ha
      have : a.toNat ≠ b.toNat := by
        unfold inM at ha hb
        intro e
        have := h (by omega)
        omega
      rw [List.getD_eq_getElem?_getD, List.getElem?_set_ne this, ← List.getD_eq_getElem?_getD]
    · rfl
  · rw [ld_out hb, ld_out (fun g => hb (inM_put.1 g))]
inductive Pl where
  | low (a : Int) | ack (i : Int) | head (k : Int) | top (i : Int) | bottom (i : Int) | entry (i j : Int) | many (p : Int) | link (p : Int) | task (p j : Int)
  | header (v : Int) | state (v : Int) | mark (v : Int) | next (v : Int) | slot (v j : Int)
  deriving DecidableEq
def ad (M : MapM) : Pl → Int
  | .low a => if 0 ≤ a ∧ a < 6 then a else -1
  | .ack i => M.Ack i
  | .head k => M.Head k
  | .top i => M.Top i
  | .bottom i => M.Bottom i
  | .entry i j => M.Entry i j
  | .many p => M.Many p
  | .link p => M.Link p
  | .task p j => M.Task p j
  | .header v => M.Header v
  | .state v => M.State v
  | .mark v => M.Mark v
  | .next v => M.Next v
  | .slot v j => M.Slot v j
structure La (M : MapM) : Prop where
  mks : 1 ≤ M.markers ∧ M.markers ≤ 4
  mu : 1 ≤ M.mutators ∧ M.mutators ≤ 4
  dq : 2 ≤ M.deque ∧ M.deque ≤ 8
  ch : 1 ≤ M.chunk ∧ M.chunk ≤ 16
  bu : 1 ≤ M.buffer ∧ M.buffer ≤ 4
  nn : 1 ≤ M.nodes ∧ M.nodes ≤ 60
  ack : M.ack = 6
  head : M.head = 6 + M.mutators
  deqs : M.deques = M.head + 5
  many : 0 ≤ M.many ∧ M.many ≤ 2000
  dqn : 0 ≤ M.markers * (2 + M.deque) ∧ M.markers * (2 + M.deque) ≤ 40
  pks : M.packets = M.deques + M.markers * (2 + M.deque)
  node0 : M.node0 = M.packets + M.many * 6
  all : M.node0 ≤ M.all ∧ M.all ≤ M.node0 + 1200
  room : ∀ v, 1 ≤ v → v ≤ M.nodes → 1 ≤ M.Room v ∧ M.Room v ≤ 16
  node : ∀ v j, 1 ≤ v → v ≤ M.nodes → 0 ≤ j → j < 4 + M.Room v → M.node0 ≤ M.node v j ∧ M.node v j < M.all
  inj : ∀ v j w k, 1 ≤ v → v ≤ M.nodes → 0 ≤ j → j < 4 + M.Room v → 1 ≤ w → w ≤ M.nodes → 0 ≤ k → k < 4 + M.Room w → M.node v j = M.node w k → v = w ∧ j = k
  first : M.first.length = M.all.toNat
section
variable {M : MapM}
theorem low_val {a : Int} (h : 0 ≤ ad M (.low a)) : (0 ≤ a ∧ a < 6) ∧ ad M (.low a) = a := by
  simp only [ad] at h ⊢
  split at h
  · rename_i g; rw [if_pos g]; exact ⟨g, rfl⟩
  · omega
theorem ack_val {a : Int} (h : 0 ≤ M.Ack a) : (0 ≤ a ∧ a < M.mutators) ∧ M.Ack a = M.ack + a := by
  unfold MapM.Ack at h ⊢
  split at h
  · omega
  · rename_i g; rw [if_neg g]; exact ⟨by omega, rfl⟩
theorem head_val {a : Int} (h : 0 ≤ M.Head a) : (0 ≤ a ∧ a < 5) ∧ M.Head a = M.head + a := by
  unfold MapM.Head at h ⊢
  split at h
  · omega
  · rename_i g; rw [if_neg g]; exact ⟨by omega, rfl⟩
theorem end_val {i j : Int} (h : 0 ≤ M.end_ i j) : 0 ≤ i ∧ i < M.markers ∧ M.end_ i j = M.deques + i * (2 + M.deque) + j := by
  unfold MapM.end_ at h ⊢
  split at h
  · omega
  · rename_i hi
    rw [if_neg hi]
    exact ⟨by omega, by omega, rfl⟩
theorem end_in {i j : Int} (hi : 0 ≤ i) (h : i < M.markers) : M.end_ i j = M.deques + i * (2 + M.deque) + j := by
  unfold MapM.end_
  rw [if_neg (by omega)]
theorem end_rng (hL : La M) {i j : Int} (hj : 0 ≤ j ∧ j < 2 + M.deque) (h : 0 ≤ M.end_ i j) : M.deques ≤ M.end_ i j ∧ M.end_ i j < M.packets := by
  obtain ⟨h1, h2, h3⟩ := end_val h
  have h4 : i * (2 + M.deque) ≤ (M.markers - 1) * (2 + M.deque) := Int.mul_le_mul_of_nonneg_right (by omega) (by have := hL.dq; omega)
  have h5 : 0 ≤ i * (2 + M.deque) := Int.mul_nonneg h1 (by have := hL.dq; omega)
  rw [Int.sub_mul, Int.one_mul] at h4
  have := hL.pks
  omega
theorem end_inj (hL : La M) {i j k m : Int} (hj : 0 ≤ j ∧ j < 2 + M.deque) (hm : 0 ≤ m ∧ m < 2 + M.deque) (h : 0 ≤ M.end_ i j) (e : M.end_ i j = M.end_ k m) : i = k ∧ j = m := by
  obtain ⟨h1, h2, h3⟩ := end_val h
  obtain ⟨h4, h5, h6⟩ := end_val (e ▸ h)
  have h7 : i * (2 + M.deque) + j = k * (2 + M.deque) + m := by omega
  have hd : (2 + M.deque) ≠ 0 := by omega
  have e1 : (i * (2 + M.deque) + j) / (2 + M.deque) = i := by
    rw [Int.add_comm, Int.add_mul_ediv_right _ _ hd, Int.ediv_eq_zero_of_lt hj.1 hj.2]; omega
  have e2 : (k * (2 + M.deque) + m) / (2 + M.deque) = k := by
    rw [Int.add_comm, Int.add_mul_ediv_right _ _ hd, Int.ediv_eq_zero_of_lt hm.1 hm.2]; omega
  have : i = k := by rw [← e1, ← e2, h7]
  subst this
  exact ⟨rfl, by omega⟩
theorem entry_val {i j : Int} (h : 0 ≤ M.Entry i j) : (0 ≤ j ∧ j < M.deque) ∧ M.Entry i j = M.end_ i (2 + j) := by
  unfold MapM.Entry at h ⊢
  split at h
  · omega
  · rename_i hj
    rw [if_neg hj]
    exact ⟨by omega, rfl⟩
theorem packet_val {p j : Int} (h : 0 ≤ M.packet p j) : 1 ≤ p ∧ p ≤ M.many ∧ M.packet p j = M.packets + (p - 1) * 6 + j := by
  unfold MapM.packet at h ⊢
  split at h
  · omega
  · rename_i hi
    rw [if_neg hi]
    exact ⟨by omega, by omega, rfl⟩
theorem task_val {p j : Int} (h : 0 ≤ M.Task p j) : (0 ≤ j ∧ j < 4) ∧ M.Task p j = M.packet p (2 + j) := by
  unfold MapM.Task at h ⊢
  split at h
  · omega
  · rename_i hj
    rw [if_neg hj]
    exact ⟨by omega, rfl⟩
theorem room_val (hL : La M) {v : Int} (h : M.Room v ≠ 0) : 1 ≤ v ∧ v ≤ M.nodes := by
  unfold MapM.Room at h
  split at h
  · exact absurd rfl h
  · omega
theorem node_val (hL : La M) {v j : Int} (h : 0 ≤ M.node v j) : 1 ≤ v ∧ v ≤ M.nodes := by
  unfold MapM.node at h
  split at h
  · omega
  · rename_i hr
    exact room_val hL hr
theorem slot_val (hL : La M) {v j : Int} (h : 0 ≤ M.Slot v j) : (0 ≤ j ∧ j < M.Room v) ∧ M.Slot v j = M.node v (4 + j) := by
  unfold MapM.Slot at h ⊢
  split at h
  · omega
  · rename_i hj
    rw [if_neg hj]
    exact ⟨by omega, rfl⟩
def zn : Pl → Nat
  | .low _ => 0 | .ack _ => 1 | .head _ => 2 | .top _ => 3 | .bottom _ => 3 | .entry _ _ => 3 | .many _ => 4 | .link _ => 4 | .task _ _ => 4 | _ => 5
theorem ad_zone (hL : La M) {p : Pl} (h : 0 ≤ ad M p) : (zn p = 0 ∧ ad M p < 6) ∨ (zn p = 1 ∧ 6 ≤ ad M p ∧ ad M p < M.head) ∨ (zn p = 2 ∧ M.head ≤ ad M p ∧ ad M p < M.deques) ∨
    (zn p = 3 ∧ M.deques ≤ ad M p ∧ ad M p < M.packets) ∨ (zn p = 4 ∧ M.packets ≤ ad M p ∧ ad M p < M.node0) ∨ (zn p = 5 ∧ M.node0 ≤ ad M p ∧ ad M p < M.all) := by
  have a1 := hL.ack; have a2 := hL.head; have a3 := hL.deqs; have a4 := hL.node0; have a5 := hL.mu; have a6 := hL.dq
  have nd : ∀ v j, 0 ≤ M.node v j → 0 ≤ j → j < 4 → M.node0 ≤ M.node v j ∧ M.node v j < M.all := fun v j h1 h2 h3 => by
    obtain ⟨g1, g2⟩ := node_val hL h1
    have := hL.room v g1 g2
    exact hL.node v j g1 g2 h2 (by omega)
  cases p with
  | low a => have g := low_val h; exact .inl ⟨rfl, by omega⟩
  | ack i => have g := ack_val (a := i) h; exact .inr (.inl ⟨rfl, by simp only [ad]; omega⟩)
  | head i => have g := head_val (a := i) h; exact .inr (.inr (.inl ⟨rfl, by simp only [ad]; omega⟩))
  | top i => exact .inr (.inr (.inr (.inl ⟨rfl, end_rng hL (by omega) h⟩)))
  | bottom i => exact .inr (.inr (.inr (.inl ⟨rfl, end_rng hL (by omega) h⟩)))
  | entry i j =>
    obtain ⟨h1, h2⟩ := entry_val (i := i) (j := j) h
    refine .inr (.inr (.inr (.inl ⟨rfl, ?_⟩)))
    show M.deques ≤ M.Entry i j ∧ M.Entry i j < M.packets
    rw [h2]
    exact end_rng hL (by omega) (by rw [← h2]; exact h)
  | many p => have := packet_val (p := p) (j := 0) h; exact .inr (.inr (.inr (.inr (.inl ⟨rfl, by show M.packets ≤ M.packet p 0 ∧ M.packet p 0 < M.node0; omega⟩))))
  | link p => have := packet_val (p := p) (j := 1) h; exact .inr (.inr (.inr (.inr (.inl ⟨rfl, by show M.packets ≤ M.packet p 1 ∧ M.packet p 1 < M.node0; omega⟩))))
  | task p j =>
    obtain ⟨h1, h2⟩ := task_val (p := p) (j := j) h
    have h3 : 0 ≤ M.packet p (2 + j) := by rw [← h2]; exact h
    have := packet_val h3
    exact .inr (.inr (.inr (.inr (.inl ⟨rfl, by show M.packets ≤ M.Task p j ∧ M.Task p j < M.node0; omega⟩))))
  | header v => exact .inr (.inr (.inr (.inr (.inr ⟨rfl, nd v 0 h (by omega) (by omega)⟩))))
  | state v => exact .inr (.inr (.inr (.inr (.inr ⟨rfl, nd v 1 h (by omega) (by omega)⟩))))
  | mark v => exact .inr (.inr (.inr (.inr (.inr ⟨rfl, nd v 2 h (by omega) (by omega)⟩))))
  | next v => exact .inr (.inr (.inr (.inr (.inr ⟨rfl, nd v 3 h (by omega) (by omega)⟩))))
  | slot v j =>
    obtain ⟨h1, h2⟩ := slot_val hL (v := v) (j := j) h
    have h3 : 0 ≤ M.node v (4 + j) := by rw [← h2]; exact h
    obtain ⟨g1, g2⟩ := node_val hL h3
    refine .inr (.inr (.inr (.inr (.inr ⟨rfl, ?_⟩))))
    show M.node0 ≤ M.Slot v j ∧ M.Slot v j < M.all
    rw [h2]
    exact hL.node v _ g1 g2 (by omega) (by omega)
theorem ad_rng (hL : La M) {p : Pl} (h : 0 ≤ ad M p) : ad M p < M.all := by
  have a1 := hL.ack; have a2 := hL.head; have a3 := hL.deqs; have a4 := hL.node0; have a5 := hL.mu; have a6 := hL.dq; have a7 := hL.all; have a8 := hL.pks; have a9 := hL.dqn; have a0 := hL.many
  have := ad_zone hL h
  omega
def ndx : Pl → Int × Int
  | .header v => (v, 0) | .state v => (v, 1) | .mark v => (v, 2) | .next v => (v, 3) | .slot v j => (v, 4 + j) | _ => (0, 0)
theorem nd_ad (hL : La M) {p : Pl} (h : 0 ≤ ad M p) (hz : zn p = 5) : ad M p = M.node (ndx p).1 (ndx p).2 ∧ 1 ≤ (ndx p).1 ∧ (ndx p).1 ≤ M.nodes ∧ 0 ≤ (ndx p).2 ∧ (ndx p).2 < 4 + M.Room (ndx p).1 := by
  have nd : ∀ v j, 0 ≤ M.node v j → j < 4 → 1 ≤ v ∧ v ≤ M.nodes ∧ j < 4 + M.Room v := fun v j h1 h3 => by
    obtain ⟨g1, g2⟩ := node_val hL h1
    have := hL.room v g1 g2
    exact ⟨g1, g2, by omega⟩
  cases p with
  | header v => obtain ⟨h1, h2, h3⟩ := nd v 0 h (by omega); exact ⟨rfl, h1, h2, by simp [ndx], h3⟩
  | state v => obtain ⟨h1, h2, h3⟩ := nd v 1 h (by omega); exact ⟨rfl, h1, h2, by simp [ndx], h3⟩
  | mark v => obtain ⟨h1, h2, h3⟩ := nd v 2 h (by omega); exact ⟨rfl, h1, h2, by simp [ndx], h3⟩
  | next v => obtain ⟨h1, h2, h3⟩ := nd v 3 h (by omega); exact ⟨rfl, h1, h2, by simp [ndx], h3⟩
  | slot v j =>
    obtain ⟨h1, h2⟩ := slot_val hL (v := v) (j := j) h
    have h3 : 0 ≤ M.node v (4 + j) := by rw [← h2]; exact h
    obtain ⟨g1, g2⟩ := node_val hL h3
    exact ⟨h2, g1, g2, by simp only [ndx]; omega, by simp only [ndx]; omega⟩
  | _ => cases hz
theorem ndx_inj {p q : Pl} (hp : zn p = 5) (hq : zn q = 5) (h : ndx p = ndx q) (p4 : ∀ v j, p = .slot v j → 0 ≤ j) (q4 : ∀ v j, q = .slot v j → 0 ≤ j) : p = q := by
  cases p <;> first | cases hp | skip
  all_goals cases q <;> first | cases hq | skip
  all_goals simp only [ndx, Prod.mk.injEq] at h
  all_goals first
    | (obtain ⟨rfl, -⟩ := h; rfl)
    | (exfalso; omega)
    | (exfalso; have := p4 _ _ rfl; omega)
    | (exfalso; have := q4 _ _ rfl; omega)
    | (obtain ⟨rfl, h⟩ := h; congr 1; omega)
theorem ad_inj (hL : La M) {p q : Pl} (e : ad M p = ad M q) (h : 0 ≤ ad M p) : p = q := by
  have h' : 0 ≤ ad M q := e ▸ h
  have z1 := ad_zone hL h
  have z2 := ad_zone hL h'
  have a1 := hL.ack; have a2 := hL.head; have a3 := hL.deqs; have a4 := hL.node0; have a5 := hL.mu; have a6 := hL.dq; have a7 := hL.all; have a8 := hL.pks; have a9 := hL.dqn; have a0 := hL.many
  have hz : zn p = zn q := by omega
  clear z1 z2
  by_cases h5 : zn p = 5
  · obtain ⟨e1, b1, b2, b3, b4⟩ := nd_ad hL h h5
    obtain ⟨e2, c1, c2, c3, c4⟩ := nd_ad hL h' (hz ▸ h5)
    have := hL.inj _ _ _ _ b1 b2 b3 b4 c1 c2 c3 c4 (by rw [← e1, ← e2, e])
    refine ndx_inj h5 (hz ▸ h5) (Prod.ext this.1 this.2) ?_ ?_
    · rintro v j rfl; exact (slot_val hL (v := v) (j := j) h).1.1
    · rintro v j rfl; exact (slot_val hL (v := v) (j := j) h').1.1
  · cases p with
    | low a =>
      cases q <;> first | cases hz | skip
      have g1 := low_val h; have g2 := low_val h'
      congr 1; omega
    | ack a =>
      cases q <;> first | cases hz | skip
      have g1 := ack_val h; have g2 := ack_val h'
      simp only [ad] at e
      congr 1; omega
    | head a =>
      cases q <;> first | cases hz | skip
      have g1 := head_val h; have g2 := head_val h'
      simp only [ad] at e
      congr 1; omega
    | top i =>
      cases q <;> first | cases hz | skip
      · have := end_inj hL (by omega) (by omega) h e; rw [this.1]
      · have := end_inj hL (by omega) (by omega) h e; omega
      · rename_i k j
        obtain ⟨g1, g2⟩ := entry_val (i := k) (j := j) h'
        have := end_inj hL (by omega) (by omega) h (e.trans g2); omega
    | bottom i =>
      cases q <;> first | cases hz | skip
      · have := end_inj hL (by omega) (by omega) h e; omega
      · have := end_inj hL (by omega) (by omega) h e; rw [this.1]
      · rename_i k j
        obtain ⟨g1, g2⟩ := entry_val (i := k) (j := j) h'
        have := end_inj hL (by omega) (by omega) h (e.trans g2); omega
    | entry i m =>
      obtain ⟨f1, f2⟩ := entry_val (i := i) (j := m) h
      have h2 : 0 ≤ M.end_ i (2 + m) := by rw [← f2]; exact h
      have e2 : M.end_ i (2 + m) = _ := f2.symm.trans e
      cases q <;> first | cases hz | skip
      · have := end_inj hL (by omega) (by omega) h2 e2; omega
      · have := end_inj hL (by omega) (by omega) h2 e2; omega
      · rename_i k j
        obtain ⟨g1, g2⟩ := entry_val (i := k) (j := j) h'
        have := end_inj hL (by omega) (by omega) h2 (e2.trans g2)
        rw [this.1]; congr 1; omega
    | many i =>
      have k1 := packet_val (p := i) (j := 0) h
      cases q <;> first | cases hz | skip
      · rename_i k; have k2 := packet_val (p := k) (j := 0) h'; simp only [ad, MapM.Many] at e; congr 1; omega
      · rename_i k; have k2 := packet_val (p := k) (j := 1) h'; simp only [ad, MapM.Many, MapM.Link] at e; omega
      · rename_i k j
        obtain ⟨g1, g2⟩ := task_val (p := k) (j := j) h'
        have h3 : 0 ≤ M.packet k (2 + j) := by rw [← g2]; exact h'
        have k2 := packet_val h3
        have e3 : M.packet i 0 = M.packet k (2 + j) := e.trans g2
        omega
    | link i =>
      have k1 := packet_val (p := i) (j := 1) h
      cases q <;> first | cases hz | skip
      · rename_i k; have k2 := packet_val (p := k) (j := 0) h'; simp only [ad, MapM.Many, MapM.Link] at e; omega
      · rename_i k; have k2 := packet_val (p := k) (j := 1) h'; simp only [ad, MapM.Link] at e; congr 1; omega
      · rename_i k j
        obtain ⟨g1, g2⟩ := task_val (p := k) (j := j) h'
        have h3 : 0 ≤ M.packet k (2 + j) := by rw [← g2]; exact h'
        have k2 := packet_val h3
        have e3 : M.packet i 1 = M.packet k (2 + j) := e.trans g2
        omega
    | task i m =>
      obtain ⟨f1, f2⟩ := task_val (p := i) (j := m) h
      have h2 : 0 ≤ M.packet i (2 + m) := by rw [← f2]; exact h
      have k1 := packet_val h2
      have e2 : M.packet i (2 + m) = _ := f2.symm.trans e
      cases q <;> first | cases hz | skip
      · rename_i k; have k2 := packet_val (p := k) (j := 0) h'; simp only [ad, MapM.Many] at e2; omega
      · rename_i k; have k2 := packet_val (p := k) (j := 1) h'; simp only [ad, MapM.Link] at e2; omega
      · rename_i k j
        obtain ⟨g1, g2⟩ := task_val (p := k) (j := j) h'
        have h3 : 0 ≤ M.packet k (2 + j) := by rw [← g2]; exact h'
        have k2 := packet_val h3
        have e3 := e2.trans g2
        have : i = k := by omega
        subst this; congr 1; omega
    | _ => exact absurd rfl h5
theorem ld_pl (hL : La M) {l : Wds} {v : Int} {p q : Pl} (h : p ≠ q) : ld (put l (ad M p) v) (ad M q) = ld l (ad M q) :=
  ld_put_ne fun e => Int.not_le.1 fun h0 => h (ad_inj hL e h0)
end
end Go.Proofs.YtmpcfamcbaineaaGreat.Mo.Iv
namespace Go.Proofs.YtmpcfamcbaineaaGreat.Mo.Iv
open Go.RowKit Go.Proofs.YtmpcfamcbaineaaGreat.Mo
set_option linter.unusedVariables false
set_option linter.unusedSimpArgs false
open Go.Proofs.YtmpcfamcbaineaaGreat.Mo
section
variable {M : MapM} {l l' : Wds} {n c bo ao : Int}
def CT (M : MapM) (w : Int) : Prop := hi w = M.nodes
theorem CT_pair {x : Int} (h : 0 ≤ x ∧ x < 4294967296) : CT M (pair M.nodes x) := by
  unfold CT hi pair
  omega
def bot (M : MapM) (l : Wds) (i : Int) : Int := ld l (M.Bottom i)
def mrk (M : MapM) (l : Wds) : Int := ld l (M.Mark M.nodes)
def wr (M : MapM) (l : Wds) (i b : Int) : Prop := ∀ k, 0 ≤ k → k < b → CT M (ld l (M.Entry i (k % M.deque)))
def Frz (M : MapM) : Pl → Prop
  | .head _ | .header _ | .state _ | .next _ | .slot _ _ => True
  | .mark v => v ≠ M.nodes
  | _ => False
structure Wd (M : MapM) (n : Int) (l : Wds) : Prop where
  len : l.length = M.all.toNat
  frz : ∀ p, Frz M p → ld l (ad M p) = ld M.first (ad M p)
  many : ∀ p j, 0 ≤ j → j < 4 → j < ld l (M.Many p) → CT M (ld l (M.Task p j))
  top : ∀ i, 0 ≤ ld l (M.Top i) ∧ ld l (M.Top i) ≤ n
  dq : ∀ i, 0 ≤ i → i < M.markers → ∃ b, 0 ≤ b ∧ b ≤ n ∧ wr M l i b ∧ (bot M l i = b ∨ bot M l i = w64 (b - 1))
structure Rl (M : MapM) (c bo ao : Int) (l l' : Wds) : Prop where
  task : ∀ p j, CT M (ld l (M.Task p j)) → CT M (ld l' (M.Task p j))
  entry : ∀ i j, CT M (ld l (M.Entry i j)) → CT M (ld l' (M.Entry i j))
  mark : mrk M l' = mrk M l ∨ (mrk M l ≤ mrk M l' ∧ c ≤ mrk M l')
  bot : ∀ i, i ≠ bo → bot M l' i = bot M l i
  ack : ∀ i, i ≠ ao → ld l' (M.Ack i) = ld l (M.Ack i)
structure Ef (M : MapM) (n c bo ao : Int) (l l' : Wds) : Prop where
  rl : Rl M c bo ao l l'
  ph : ld l' 0 = ld l 0
  wd : Wd M (n + 1) l'
theorem Rl.wr (h : Rl M c bo ao l l') {i b : Int} (hw : wr M l i b) : wr M l' i b := fun k h0 h1 => h.entry _ _ (hw k h0 h1)
theorem Rl.le (h : Rl M c bo ao l l') : mrk M l ≤ mrk M l' := by rcases h.mark with h | h <;> omega
theorem Rl.refl : Rl M c bo ao l l := ⟨fun _ _ h => h, fun _ _ h => h, .inl rfl, fun _ _ => rfl, fun _ _ => rfl⟩
theorem wr_le {i b b' : Int} (hw : wr M l i b) (h : b' ≤ b) : wr M l i b' := fun k h0 h1 => hw k h0 (by omega)
theorem Wd.more (h : Wd M n l) : Wd M (n + 1) l := ⟨h.len, h.frz, h.many, fun i => by have := h.top i; omega, fun i h0 h1 => let ⟨b, g1, g2, g3⟩ := h.dq i h0 h1; ⟨b, g1, by omega, g3⟩⟩
theorem Ef.refl (h : Wd M n l) : Ef M n c bo ao l l := ⟨.refl, rfl, h.more⟩
theorem Wd.inM (h : Wd M n l) (hL : La M) {p : Pl} (h0 : 0 ≤ ad M p) : inM l (ad M p) := ⟨h0, by rw [h.len]; have := ad_rng hL h0; omega⟩
theorem Wd.eq (h : Wd M n l) (hL : La M) {p : Pl} (h0 : 0 ≤ ad M p) {v : Int} : ld (put l (ad M p) v) (ad M p) = v := ld_put_eq (h.inM hL h0)
theorem ld_neg {a : Int} (h : a < 0) : ld l a = 0 := ld_out fun g => by unfold Mo.inM at g; omega
theorem put_neg {a v : Int} (h : a < 0) : put l a v = l := if_neg fun g => by unfold Mo.inM at g; omega
theorem rl_put (hL : La M) (hw : Wd M n l) {q : Pl} {v : Int} (hq : ¬ Frz M q)
    (htask : ∀ p j, q = .task p j → CT M v) (hentry : ∀ i j, q = .entry i j → CT M v) (hmark : q = .mark M.nodes → mrk M l ≤ v ∧ c ≤ v)
    (hbot : ∀ i, q = .bottom i → i = bo ∧ ∃ b, 0 ≤ b ∧ b ≤ n + 1 ∧ wr M l i b ∧ (v = b ∨ v = w64 (b - 1))) (hack : ∀ i, q = .ack i → i = ao)
    (hmany : ∀ p, q = .many p → 1 ≤ p → p ≤ M.many → ∀ j, 0 ≤ j → j < 4 → j < v → CT M (ld l (M.Task p j))) (htop : ∀ i, q = .top i → 0 ≤ v ∧ v ≤ n + 1) : Rl M c bo ao l (put l (ad M q) v) ∧ Wd M (n + 1) (put l (ad M q) v) := by
  rcases (show ad M q < 0 ∨ 0 ≤ ad M q by omega) with hneg | hin
  · rw [put_neg hneg]; exact ⟨.refl, hw.more⟩
  have ne : ∀ p : Pl, q ≠ p → ld (put l (ad M q) v) (ad M p) = ld l (ad M p) := fun p h => ld_pl hL h
  have eq := hw.eq hL hin (v := v)
  have rl : Rl M c bo ao l (put l (ad M q) v) := by
    refine ⟨fun p j h => ?_, fun i j h => ?_, ?_, fun i hi => ?_, fun i hi => ?_⟩
    · by_cases e : q = .task p j
      · subst e; show CT M (ld _ (ad M (.task p j))); rw [eq]; exact htask _ _ rfl
      · show CT M (ld _ (ad M (.task p j))); rw [ne _ e]; exact h
    · by_cases e : q = .entry i j
      · subst e; show CT M (ld _ (ad M (.entry i j))); rw [eq]; exact hentry _ _ rfl
      · show CT M (ld _ (ad M (.entry i j))); rw [ne _ e]; exact h
    · by_cases e : q = .mark M.nodes
      · subst e; have := hmark rfl; refine .inr ?_; show _ ≤ ld _ (ad M (.mark M.nodes)) ∧ _ ≤ ld _ (ad M (.mark M.nodes)); rw [eq]; exact this
      · exact .inl (ne (.mark M.nodes) e)
    · exact ne (.bottom i) fun e => hi (hbot i e).1
    · exact ne (.ack i) fun e => hi (hack i e)
  refine ⟨rl, ⟨by rw [put_len]; exact hw.len, fun p hp => ?_, fun p j j0 j4 hj => ?_, fun i => ?_, fun i i0 i1 => ?_⟩⟩
  · rw [ne p (by rintro rfl; exact hq hp)]; exact hw.frz p hp
  · by_cases e : q = .many p
    · subst e
      have hj' : j < ld (put l (ad M (.many p)) v) (ad M (.many p)) := hj
      rw [eq] at hj'
      have hp := packet_val (p := p) (j := 0) hin
      exact rl.task _ _ (hmany p rfl hp.1 hp.2.1 j j0 j4 hj')
    · have hj' : j < ld (put l (ad M q) v) (ad M (.many p)) := hj
      rw [ne _ e] at hj'
      exact rl.task _ _ (hw.many p j j0 j4 hj')
  · by_cases e : q = .top i
    · subst e; show 0 ≤ ld _ (ad M (.top i)) ∧ ld _ (ad M (.top i)) ≤ _; rw [eq]; exact htop i rfl
    · show 0 ≤ ld _ (ad M (.top i)) ∧ ld _ (ad M (.top i)) ≤ _; rw [ne _ e]; have := hw.top i; simp only [ad]; omega
  · by_cases e : q = .bottom i
    · subst e
      obtain ⟨-, b, b0, b1, b2, b3⟩ := hbot i rfl
      refine ⟨b, b0, b1, rl.wr b2, ?_⟩
      show ld _ (ad M (.bottom i)) = b ∨ ld _ (ad M (.bottom i)) = _
      rw [eq]; exact b3
    · obtain ⟨b, b0, b1, b2, b3⟩ := hw.dq i i0 i1
      refine ⟨b, b0, by omega, rl.wr b2, ?_⟩
      show ld _ (ad M (.bottom i)) = b ∨ ld _ (ad M (.bottom i)) = _
      rw [ne _ e]; exact b3
theorem ef_put (hL : La M) (hw : Wd M n l) {q : Pl} {v : Int} (hq : ¬ Frz M q) (h0 : q ≠ .low 0)
    (htask : ∀ p j, q = .task p j → CT M v) (hentry : ∀ i j, q = .entry i j → CT M v) (hmark : q = .mark M.nodes → mrk M l ≤ v ∧ c ≤ v)
    (hbot : ∀ i, q = .bottom i → i = bo ∧ ∃ b, 0 ≤ b ∧ b ≤ n + 1 ∧ wr M l i b ∧ (v = b ∨ v = w64 (b - 1))) (hack : ∀ i, q = .ack i → i = ao)
    (hmany : ∀ p, q = .many p → 1 ≤ p → p ≤ M.many → ∀ j, 0 ≤ j → j < 4 → j < v → CT M (ld l (M.Task p j))) (htop : ∀ i, q = .top i → 0 ≤ v ∧ v ≤ n + 1) : Ef M n c bo ao l (put l (ad M q) v) := by
  obtain ⟨h1, h2⟩ := rl_put (c := c) (bo := bo) (ao := ao) hL hw hq htask hentry hmark hbot hack hmany htop
  exact ⟨h1, ld_pl hL (q := .low 0) h0, h2⟩
theorem ef_low (hL : La M) (hw : Wd M n l) {a v : Int} (ha : 1 ≤ a ∧ a ≤ 5) : Ef M n c bo ao l (put l a v) := by
  have e : ad M (.low a) = a := if_pos (by omega)
  rw [← e]
  refine ef_put hL hw id (by intro h; cases h; omega) ?_ ?_ ?_ ?_ ?_ ?_ ?_ <;> intros <;> contradiction
theorem ef_link (hL : La M) (hw : Wd M n l) {p v : Int} : Ef M n c bo ao l (put l (M.Link p) v) := by
  refine ef_put (q := .link p) hL hw id (by simp) ?_ ?_ ?_ ?_ ?_ ?_ ?_ <;> intros <;> contradiction
theorem ef_task (hL : La M) (hw : Wd M n l) {p j v : Int} (h : CT M v) : Ef M n c bo ao l (put l (M.Task p j) v) := by
  refine ef_put (q := .task p j) hL hw id (by simp) (fun _ _ _ => h) ?_ ?_ ?_ ?_ ?_ ?_ <;> intros <;> contradiction
theorem ef_entry (hL : La M) (hw : Wd M n l) {i j v : Int} (h : CT M v) : Ef M n c bo ao l (put l (M.Entry i j) v) := by
  refine ef_put (q := .entry i j) hL hw id (by simp) ?_ (fun _ _ _ => h) ?_ ?_ ?_ ?_ ?_ <;> intros <;> contradiction
theorem ef_many (hL : La M) (hw : Wd M n l) {p v : Int} (h : 1 ≤ p → p ≤ M.many → ∀ j, 0 ≤ j → j < 4 → j < v → CT M (ld l (M.Task p j))) : Ef M n c bo ao l (put l (M.Many p) v) := by
  refine ef_put (q := .many p) hL hw id (by simp) ?_ ?_ ?_ ?_ ?_ ?_ ?_
  all_goals first | (rintro p' e; cases e; exact h) | (intros; contradiction)
theorem ef_top (hL : La M) (hw : Wd M n l) {i v : Int} (h : 0 ≤ v ∧ v ≤ n + 1) : Ef M n c bo ao l (put l (M.Top i) v) := by
  refine ef_put (q := .top i) hL hw id (by simp) ?_ ?_ ?_ ?_ ?_ ?_ (fun _ _ => h) <;> intros <;> contradiction
theorem ef_bottom (hL : La M) (hw : Wd M n l) {i v b : Int} (h : 0 ≤ b ∧ b ≤ n + 1 ∧ wr M l i b ∧ (v = b ∨ v = w64 (b - 1))) : Ef M n c i ao l (put l (M.Bottom i) v) := by
  refine ef_put (q := .bottom i) hL hw id (by simp) ?_ ?_ ?_ (fun j e => by cases e; exact ⟨rfl, b, h⟩) ?_ ?_ ?_ <;> intros <;> contradiction
theorem ef_mark (hL : La M) (hw : Wd M n l) {v : Int} (h : mrk M l ≤ v ∧ c ≤ v) : Ef M n c bo ao l (put l (M.Mark M.nodes) v) := by
  refine ef_put (q := .mark M.nodes) hL hw (by simp [Frz]) (by simp) ?_ ?_ (fun _ => h) ?_ ?_ ?_ ?_ <;> intros <;> contradiction
theorem ef_ack (hL : La M) (hw : Wd M n l) {i v : Int} : Ef M n c bo i l (put l (M.Ack i) v) := by
  refine ef_put (q := .ack i) hL hw id (by simp) ?_ ?_ ?_ ?_ (fun j e => by cases e; rfl) ?_ ?_ <;> intros <;> contradiction
theorem ef_cas {a old v : Int} (hw : Wd M n l) (h : Ef M n c bo ao l (put l a v)) : Ef M n c bo ao l (cas l a old v) := by
  unfold cas
  split
  · exact h
  · exact .refl hw
theorem casB_eq {a old : Int} (h : casB l a old = true) : inM l a ∧ ld l a = old := of_decide_eq_true h
def stOk (x : St) : Prop := x.node = false ∧ (x.head = 4 ∨ x.head = 5)
theorem st_step (hL : La M) (hw : Wd M n l) {x : St} (h : stOk x) : Ef M n c bo ao l (x.step M l).2 ∧ stOk (x.step M l).1 := by
  obtain ⟨h1, h2⟩ := h
  have hlow : ∀ {o v : Int}, Ef M n c bo ao l (cas l x.head o v) := fun {o v} => ef_cas hw (ef_low hL hw (by omega))
  unfold St.step
  split
  all_goals repeat' split
  all_goals first
    | exact ⟨.refl hw, h1, h2⟩
    | exact ⟨hlow, h1, h2⟩
    | (refine ⟨?_, h1, h2⟩; rw [h1]; exact ef_link hL hw)
def tsOk (M : MapM) (ts : List Int) : Prop := (∀ w ∈ ts, CT M w) ∧ ts.length ≤ 4
def pkOk (M : MapM) (l : Wds) (x : Pk) : Prop :=
  tsOk M x.tasks ∧ match x.next with
  | .nil => True
  | .spare => stOk x.inner ∧ x.tasks ≠ [] ∧ x.j = 0
  | .fill => x.j < x.tasks.length ∧ (1 ≤ x.p → x.p ≤ M.many → ∀ j : Int, 0 ≤ j → j < x.j → CT M (ld l (M.Task x.p j)))
  | .many => (1 ≤ x.p → x.p ≤ M.many → ∀ j : Int, 0 ≤ j → j < x.tasks.length → CT M (ld l (M.Task x.p j)))
  | .last => stOk x.inner
theorem pk_mono (hr : Rl M c bo ao l l') {x : Pk} (h : pkOk M l x) : pkOk M l' x := by
  obtain ⟨h1, h2⟩ := h
  refine ⟨h1, ?_⟩
  cases hx : x.next <;> rw [hx] at h2 <;> simp only at h2 ⊢
  · exact h2
  · exact ⟨h2.1, fun g1 g2 j j0 j1 => hr.task _ _ (h2.2 g1 g2 j j0 j1)⟩
  · exact fun g1 g2 j j0 j1 => hr.task _ _ (h2 g1 g2 j j0 j1)
  · exact h2
theorem getD_CT {ts : List Int} (h : ∀ w ∈ ts, CT M w) {j : Nat} (hj : j < ts.length) : CT M (ts.getD j 0) := by
  rw [List.getD_eq_getElem?_getD, List.getElem?_eq_getElem hj]
  exact h _ (List.getElem_mem hj)
theorem task_in (hL : La M) {p j : Int} (h1 : 1 ≤ p) (h2 : p ≤ M.many) (h3 : 0 ≤ j) (h4 : j < 4) : 0 ≤ M.Task p j := by
  unfold MapM.Task MapM.packet
  rw [if_neg (by omega), if_neg (by omega)]
  have := hL.pks; have := hL.dqn; have := hL.deqs; have := hL.head; have := hL.mu
  omega
theorem pk_step (hL : La M) (hw : Wd M n l) {x : Pk} (h : pkOk M l x) : Ef M n c bo ao l (x.step M l).2 ∧ pkOk M (x.step M l).2 (x.step M l).1 := by
  obtain ⟨⟨h1, h4⟩, h2⟩ := h
  unfold Mo.Pk.step
  split <;> rename_i hx <;> rw [hx] at h2 <;> simp only at h2
  · exact ⟨.refl hw, ⟨h1, h4⟩, by simp [hx]⟩
  · have hs := st_step (c := c) (bo := bo) (ao := ao) hL hw h2.1
    repeat' split
    · exact ⟨hs.1, ⟨h1, h4⟩, ⟨rfl, .inr rfl⟩, h2.2.1, h2.2.2⟩
    · refine ⟨hs.1, ⟨h1, h4⟩, ?_, ?_⟩
      · show x.j < _; rw [h2.2.2]; exact List.length_pos_iff.2 h2.2.1
      · intro g1 g2 j j0 j1
        have : j < ((x.j : Nat) : Int) := j1
        omega
    · refine ⟨hs.1, ⟨h1, h4⟩, ?_⟩
      simp only [hx]
      exact ⟨hs.2, h2.2.1, h2.2.2⟩
  · obtain ⟨h3, h5⟩ := h2
    have hct := getD_CT h1 h3
    have he : Ef M n c bo ao l (put l (M.Task x.p x.j) (x.tasks.getD x.j 0)) := ef_task hL hw hct
    have key : 1 ≤ x.p → x.p ≤ M.many → ∀ j : Int, 0 ≤ j → j < x.j + 1 → CT M (ld (put l (M.Task x.p x.j) (x.tasks.getD x.j 0)) (M.Task x.p j)) := fun g1 g2 j j0 j1 => by
      by_cases e : j = x.j
      · subst e
        have := hw.eq hL (p := .task x.p x.j) (task_in hL g1 g2 j0 (by omega)) (v := x.tasks.getD x.j 0)
        simp only [ad] at this
        rw [this]; exact hct
      · exact he.rl.task _ _ (h5 g1 g2 j j0 (by omega))
    split
    · rename_i e
      refine ⟨he, ⟨h1, h4⟩, ?_⟩
      intro g1 g2 j j0 j1
      exact key g1 g2 j j0 (by have : j < ((x.tasks.length : Nat) : Int) := j1; omega)
    · rename_i e
      refine ⟨he, ⟨h1, h4⟩, ?_⟩
      simp only [hx]
      exact ⟨by omega, fun g1 g2 j j0 j1 => key g1 g2 j j0 (by omega)⟩
  · exact ⟨ef_many hL hw fun g1 g2 j j0 j4 j1 => h2 g1 g2 j j0 j1, ⟨h1, h4⟩, rfl, .inl rfl⟩
  · have hs := st_step (c := c) (bo := bo) (ao := ao) hL hw h2
    split
    · exact ⟨hs.1, ⟨h1, h4⟩, trivial⟩
    · refine ⟨hs.1, ⟨h1, h4⟩, ?_⟩
      simp only [hx]
      exact hs.2
theorem pk_put {ts : List Int} (h : tsOk M ts) : pkOk M l (.put ts) := by
  unfold Mo.Pk.put
  split
  · exact ⟨⟨by simp, by simp⟩, trivial⟩
  · rename_i hne
    exact ⟨h, ⟨rfl, .inr rfl⟩, hne, rfl⟩
theorem pk_take : pkOk M l .take := ⟨⟨by simp [Mo.Pk.take], by simp [Mo.Pk.take]⟩, rfl, .inl rfl⟩
theorem pk_back {p : Int} : pkOk M l (.back M p) := by
  unfold Mo.Pk.back
  split
  · exact ⟨⟨by simp, by simp⟩, rfl, .inr rfl⟩
  · exact ⟨⟨by simp, by simp⟩, trivial⟩
end
end Go.Proofs.YtmpcfamcbaineaaGreat.Mo.Iv
namespace Go.Proofs.YtmpcfamcbaineaaGreat.Mo.Iv
open Go.RowKit Go.Proofs.YtmpcfamcbaineaaGreat.Mo
set_option linter.unusedVariables false
set_option linter.unusedSimpArgs false
open Go.Proofs.YtmpcfamcbaineaaGreat.Mo
section
variable {M : MapM} {l l' : Wds} {n c bo ao i : Int}
theorem w64_id {x : Int} (h : 0 ≤ x ∧ x < 18446744073709551616) : w64 x = x := by unfold w64; omega
theorem w64_back {b : Int} (h : 0 ≤ b ∧ b < 1000000) : w64 (w64 (b - 1) + 1) = b := by unfold w64; omega
theorem dist_pos {b t : Int} (hb : 0 ≤ b ∧ b < 1000000) (ht : 0 ≤ t ∧ t < 1000000) (h : ¬ dist t (w64 (b - 1)) > 0) : t ≤ b - 1 := by
  unfold dist w64 at h
  split at h <;> omega
theorem dist_bot {b x t : Int} (hb : 0 ≤ b ∧ b < 1000000) (ht : 0 ≤ t ∧ t < 1000000) (hx : x = b ∨ x = w64 (b - 1)) (h : ¬ dist x t ≤ 0) : t < b := by
  unfold dist at h
  unfold w64 at h hx
  split at h <;> omega
def rest (M : MapM) (n : Int) (l : Wds) (i : Int) : Prop := 0 ≤ bot M l i ∧ bot M l i ≤ n ∧ wr M l i (bot M l i)
theorem rest_mono (hr : Rl M c bo ao l l') (hi : i ≠ bo) (h : rest M n l i) : rest M (n + 1) l' i := by
  unfold rest
  rw [hr.bot i hi]
  exact ⟨h.1, by have := h.2.1; omega, hr.wr h.2.2⟩
theorem rest_same (hr : Rl M c bo ao l l') (hb : bot M l' i = bot M l i) (h : rest M n l i) : rest M (n + 1) l' i := by
  unfold rest
  rw [hb]
  exact ⟨h.1, by have := h.2.1; omega, hr.wr h.2.2⟩
def half (M : MapM) (n : Int) (l : Wds) (i b : Int) (m : Dq) : Prop := 0 ≤ b ∧ b ≤ n ∧ wr M l i b ∧ bot M l i = w64 (b - 1) ∧ m.b = w64 (b - 1)
def popOk (M : MapM) (n : Int) (l : Wds) (i : Int) (m : Dq) : Prop :=
  m.e = M.ends i ∧ match m.next with
  | .popFirst => rest M n l i ∧ m.won = false
  | .popDown => rest M n l i ∧ m.b = w64 (bot M l i - 1) ∧ m.won = false
  | .popTop => ∃ b, half M n l i b m ∧ m.won = false
  | .popEntry => ∃ b, half M n l i b m ∧ 1 ≤ b
  | .popSwap => ∃ b, half M n l i b m ∧ CT M m.w
  | .popBack => ∃ b, half M n l i b m ∧ (m.won = true → CT M m.w)
  | .nil => rest M n l i ∧ (m.out = 1 → CT M m.w)
  | _ => False
theorem bot_put (hL : La M) {q : Pl} {v : Int} (h : q ≠ .bottom i) : bot M (put l (ad M q) v) i = bot M l i := ld_pl hL (q := .bottom i) h
theorem bot_cas (hL : La M) {q : Pl} {o v : Int} (h : q ≠ .bottom i) : bot M (cas l (ad M q) o v) i = bot M l i := by
  unfold cas
  split
  · exact bot_put hL h
  · rfl
theorem half_mono (hr : Rl M c bo ao l l') (hb : bot M l' i = bot M l i) {b : Int} {m m' : Dq} (hm : m'.b = m.b) (h : half M n l i b m) : half M (n + 1) l' i b m' := by
  obtain ⟨h1, h2, h3, h4, h5⟩ := h
  exact ⟨h1, by omega, hr.wr h3, by rw [hb, h4], by rw [hm, h5]⟩
theorem half_rest (hL : La M) (hw : Wd M n l) (hi : 0 ≤ i) (hi' : i < M.markers) (hn : n < 900000) {b : Int} {m : Dq} (h : half M n l i b m) :
    Ef M n c i ao l (put l (M.Bottom i) (w64 (m.b + 1))) ∧ rest M (n + 1) (put l (M.Bottom i) (w64 (m.b + 1))) i := by
  obtain ⟨h1, h2, h3, h4, h5⟩ := h
  have e : w64 (m.b + 1) = b := by rw [h5]; exact w64_back (by omega)
  rw [e]
  have he : Ef M n c i ao l (put l (M.Bottom i) b) := ef_bottom hL hw ⟨h1, by omega, h3, .inl rfl⟩
  refine ⟨he, ?_⟩
  have hin : 0 ≤ ad M (.bottom i) := by
    show 0 ≤ M.end_ i 1
    rw [end_in hi hi']
    have := Int.mul_nonneg hi (show 0 ≤ 2 + M.deque by have := hL.dq; omega)
    have := hL.deqs; have := hL.head; have := hL.mu
    omega
  have hb : bot M (put l (M.Bottom i) b) i = b := hw.eq hL (p := .bottom i) hin
  unfold rest
  rw [hb]
  exact ⟨h1, by omega, he.rl.wr h3⟩
theorem bot_in (hL : La M) (hi : 0 ≤ i) (hi' : i < M.markers) : 0 ≤ ad M (.bottom i) := by
  show 0 ≤ M.end_ i 1
  rw [end_in hi hi']
  have := Int.mul_nonneg hi (show 0 ≤ 2 + M.deque by have := hL.dq; omega)
  have := hL.deqs; have := hL.head; have := hL.mu
  omega
theorem ends_at (hL : La M) (hi : 0 ≤ i) (hi' : i < M.markers) (b : Int) : (M.ends i).at_ b = M.Entry i (b % M.deque) := by
  have := hL.dq
  have h0 : 0 ≤ b % M.deque ∧ b % M.deque < M.deque := ⟨Int.emod_nonneg _ (by omega), Int.emod_lt_of_pos _ (by omega)⟩
  unfold MapM.ends DqE.at_
  show M.Entry i 0 + b % max M.deque 1 = _
  rw [show max M.deque 1 = M.deque by omega]
  unfold MapM.Entry
  rw [if_neg (by omega), if_neg (by omega), end_in hi hi', end_in hi hi']
  omega
theorem popTop_ef (hL : La M) (hw : Wd M n l) (hn : n < 900000) {m : Dq} (he : m.e = M.ends i) : Ef M n c bo ao l (cas l m.e.top m.t (w64 (m.t + 1))) := by
  rw [he]
  show Ef M n c bo ao l (cas l (M.Top i) m.t (w64 (m.t + 1)))
  unfold cas
  split
  · rename_i hc
    have := (casB_eq hc).2
    have ht := hw.top i
    rw [this] at ht
    exact ef_top hL hw (by rw [w64_id (by omega)]; omega)
  · exact .refl hw
theorem pop_step (hL : La M) (hw : Wd M n l) (hi : 0 ≤ i) (hi' : i < M.markers) (hn : n < 900000) {m : Dq} (h : popOk M n l i m) :
    Ef M n c i ao l (m.step l).2 ∧ popOk M (n + 1) (m.step l).2 i (m.step l).1 := by
  obtain ⟨h1, h2⟩ := h
  have hr := Rl.refl (M := M) (l := l) (c := c) (bo := i) (ao := ao)
  unfold Dq.step
  split <;> rename_i hx <;> rw [hx] at h2 <;> simp only at h2
  · exact ⟨.refl hw, h1, by simp only [hx]; exact ⟨rest_same hr rfl h2.1, h2.2⟩⟩
  · refine ⟨.refl hw, h1, rest_same hr rfl h2.1, ?_, h2.2⟩
    show w64 (ld l m.e.bottom - 1) = _
    rw [h1]; rfl
  · obtain ⟨h2, h3, h4⟩ := h2
    have e : m.e.bottom = M.Bottom i := by rw [h1]; rfl
    rw [e]
    have he : Ef M n c i ao l (put l (M.Bottom i) m.b) := ef_bottom hL hw (b := bot M l i) ⟨h2.1, by have := h2.2.1; omega, h2.2.2, .inr h3⟩
    refine ⟨he, h1, bot M l i, ⟨h2.1, by have := h2.2.1; omega, he.rl.wr h2.2.2, ?_, h3⟩, h4⟩
    rw [← h3]
    exact hw.eq hL (p := .bottom i) (bot_in hL hi hi')
  · obtain ⟨b, hb, hwon⟩ := h2
    split
    · exact ⟨.refl hw, h1, b, half_mono hr rfl rfl hb, fun g => by rw [show m.won = true from g] at hwon; cases hwon⟩
    · rename_i hd
      refine ⟨.refl hw, h1, b, half_mono hr rfl rfl hb, ?_⟩
      have ht := hw.top i
      rw [h1, show (M.ends i).top = M.Top i from rfl, hb.2.2.2.2] at hd
      have := dist_pos ⟨hb.1, by have := hb.2.1; omega⟩ (by omega) hd
      omega
  · obtain ⟨b, hb, hb1⟩ := h2
    have hmb : m.b = b - 1 := by rw [hb.2.2.2.2, w64_id (by have := hb.2.1; omega)]
    have hct : CT M (ld l (m.e.at_ m.b)) := by
      rw [h1, ends_at hL hi hi', hmb]
      exact hb.2.2.1 _ (by omega) (by omega)
    split
    · refine ⟨.refl hw, h1, ?_, fun _ => hct⟩
      have e : bot M l i = b - 1 := by rw [hb.2.2.2.1, w64_id (by have := hb.2.1; omega)]
      unfold rest
      rw [e]
      exact ⟨by omega, by have := hb.2.1; omega, wr_le hb.2.2.1 (by omega)⟩
    · exact ⟨.refl hw, h1, b, half_mono hr rfl rfl hb, hct⟩
  · obtain ⟨b, hb, hct⟩ := h2
    have he := popTop_ef (c := c) (bo := i) (ao := ao) hL hw hn h1
    refine ⟨he, h1, b, half_mono he.rl ?_ rfl hb, fun _ => hct⟩
    rw [h1]
    exact bot_cas hL (q := .top i) (by simp)
  · obtain ⟨b, hb, hct⟩ := h2
    have hh := half_rest (c := c) (ao := ao) hL hw hi hi' hn hb
    have e : m.e.bottom = M.Bottom i := by rw [h1]; rfl
    rw [e]
    split
    · rename_i hwon
      exact ⟨hh.1, h1, hh.2, fun _ => hct hwon⟩
    · exact ⟨hh.1, h1, hh.2, fun g => by cases g⟩
end
end Go.Proofs.YtmpcfamcbaineaaGreat.Mo.Iv
