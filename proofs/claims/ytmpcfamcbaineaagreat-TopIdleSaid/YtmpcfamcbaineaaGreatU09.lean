/- Part 9 of the proof: contracts of the functions that the law reaches, and the plain law. No condition. -/
import Derived.Test.YtmpcfamcbaineaaGreatU08
namespace Go.Proofs.YtmpcfamcbaineaaGreat.Mo.Mp
open Go.RowKit Go.Proofs.YtmpcfamcbaineaaGreat.Mo
set_option linter.unusedVariables false
set_option linter.unusedSimpArgs false
theorem ct_Check0 {C : Cx} {l : Wds} {c : Cfg} (h : c.ok = true) : Cv C 6 [.agg c.cells.toArray] l emp (.int .i64 0) l emp := by
 have := ct_Check (C := C) (l := l) (Cfg.Ok.of h).sm
 rw [if_pos h] at this
 exact this
theorem lay_blks {c : Cfg} {b1 ab rb am rm : Nat} {arest rrest : List Value} {D : Dom} {w : World}
  (h : blks [⟨b1, 109, lay c 6 (6 + c.mutators) (6 + c.mutators + 5) (6 + c.mutators + 5 + c.markers * (2 + c.deque)) c.node0 c.nodes c.many ((c.nodes + c.sweep - 1) / c.sweep) (offEnd c.room c.node0) (slv ab c.nodes.toNat am) (slv rb c.nodes.toNat rm)⟩, ⟨ab, 3, i64s (offs c.room c.node0) ++ arest⟩, ⟨rb, 3, i64s c.room ++ rrest⟩] emp D w) : blks (LayB ⟨0, 0, 0, b1, ab, rb, am, rm, c.map⟩ arest rrest) emp D w := by
 have e : (⟨0, 0, 0, b1, ab, rb, am, rm, c.map⟩ : Mo.Cx).mcells.toList = lay c 6 (6 + c.mutators) (6 + c.mutators + 5) (6 + c.mutators + 5 + c.markers * (2 + c.deque)) c.node0 c.nodes c.many ((c.nodes + c.sweep - 1) / c.sweep) (offEnd c.room c.node0) (slv ab c.nodes.toNat am) (slv rb c.nodes.toNat rm) := by
  have e1 : c.map.at_.length = c.nodes.toNat := by show (offs c.room c.node0).length = _; rw [offs_len, room_len]
  have e2 : c.map.room.length = c.nodes.toNat := room_len c
  simp only [Mo.Cx.mcells, e1, e2]
  rfl
 unfold LayB
 rw [e]
 exact h
set_option maxHeartbeats 20000000 in
theorem ct_layNew {C : Cx} {l : Wds} {c : Cfg} (hok : c.ok = true) : Ce (α := Mo.Cx × List Value × List Value) C 23 [.agg c.cells.toArray] l emp (fun a => .tuple #[ptr a.1.m, .int .i64 0]) l (fun a => a.1.M = c.map ∧ LayOk a.1 a.2.1 a.2.2) (fun a => blks (LayB a.1 a.2.1 a.2.2) emp) := by
 have hc := Cfg.Ok.of hok
 have hn := hc.nodes
 have hd1 := hc.markers
 have hd2 := hc.mutators
 have hd3 := hc.deque
 have hd4 := hc.chunk
 have hd5 := hc.sweep
 obtain ⟨hn1, hn2, hn3⟩ := Cfg.nums hc
 have hn4 : c.node0 = 6 + c.mutators + 5 + c.markers * (2 + c.deque) + c.many * 6 := rfl
 refine Ct.of (vs := [.agg c.cells.toArray]) Tryz.func23 rfl Tryz.ntmps23 (by simp) loc_emp ?_
 intro w0 D0
 refine T.seq <| tx [0,1,2] (ct [0]) Z Z <| xbx Z Z Z Z (fun _ => pend0) (fun b0 => ?_)
 refine xas Z Z Z <| xas Z Z Z <| X.nil <| T.seq <| T.seq <| tx [0,1,2] nf Z Z <| xlda Z Z Z m24 .z Z <| xcq Z Z Z Z g6 (ct_Check0 hok) loc_emp <| xas Z Z Z <| X.nil <| T.seq <| tx [0,1] nf Z Z <| xmv Z Z Z <| xcm (c := false) Z Z Z Z Z (Z) <| X.nil ?_
 refine T.no Z <| T.skip <| T.seq <| tx [0,1,2,3] (ct [2]) Z Z <| xlda Z Z Z m24 .z Z <| xbd Z Z Z l109 z109 Z <| xbx Z Z Z Z (fun _ => pend0) (fun b1 => ?_)
 refine xas Z Z Z <| X.nil <| T.seq <| tx [0,1,2,3,4,5,6,7] (ct [7]) Z Z <| xmv Z Z Z <| xfa Z Z Z f24_0 <| xlda Z Z Z m22 (.s .z) Z <| xcq Z Z Z Z g22 (ct_Nodes hc.sm) loc_emp <| xnc Z Z Z <| xfa Z Z Z f109_0 <| xfa Z Z Z f107_5 ?_
 refine xst Z Z Z Z o3 Z .z Z .z pend0 <| X.nil <| T.seq <| T.any (ord := [0, 1, 2, 3, 4, 5, 6, 7, 8, 9, 10, 11, 12, 13, 14, 15, 16]) (lo := (fun _ => false)) (ef := (fun i => [16].contains i)) (by kernel_rfl) (fun _ h => h.drew) <| xmv Z Z Z <| xmv Z Z Z ?_
 refine xnc Z Z Z <| xfa Z Z Z f109_0 <| xfa Z Z Z f107_5 <| xld Z Z Z o3 .z Z <| xfa Z Z Z f24_1 <| xld Z Z Z o3 (.s .z) Z <| xarc (c := 2 * c.markers) Z Z Z Z Z (IntWalk.i64_in _ (by simp only [ari]; omega)) ?_
 refine xarc (c := c.nodes + 2 * c.markers) Z Z Z Z Z (IntWalk.i64_in _ (by simp only [ari]; omega)) <| xfa Z Z Z f24_2 <| xld Z Z Z o3 (.s .z) Z <| xarc (c := c.nodes + 2 * c.markers + c.mutators) Z Z Z Z Z (IntWalk.i64_in _ (by simp only [ari]; omega)) ?_
 refine xnc Z Z Z <| xfa Z Z Z f109_0 <| xfa Z Z Z f107_6 <| xst Z Z Z Z o3 Z .z Z .z pend0 <| X.nil <| T.seq <| T.seq <| tx [0] nf Z Z <| xas Z Z Z <| X.nil <| T.block ?_
 refine T.loop (fun (x : Nat × Value × List Bk) w => (x.1 ≤ c.nodes.toNat ∧ SlV 3 1 x.2.1 x.1 (i64s (c.room.take x.1)) x.2.2) ∧ Sy C w0 D0 l (⟨b1, 109, lay c 0 0 0 0 0 c.nodes (c.manyAt x.1) 0 0 (.slice none 0 0) x.2.1⟩ :: ⟨b0, 24, c.cells⟩ :: x.2.2) emp w) (fun x => [(6, .int .i64 ((x.1 : Int) + 1)), (5, ptr b1), (1, ptr b0)]) (fun x => c.nodes.toNat - x.1) (0, .slice none 0 0, []) (fun w h => ⟨⟨Nat.zero_le _, SlV.nil⟩, h⟩) ⟨Z, Z, Z, trivial⟩ ?_
 rintro ⟨i, rv, RB⟩ g
 refine T.pure ?_
 rintro ⟨hi, hR⟩
 simp only at hi hR
 refine T.seq <| T.seq <| tx [0,1,2,3,4,5,6] nf Z Z <| xmv Z Z Z <| xmv Z Z Z <| xnc Z Z Z <| xfa Z Z Z f109_0 <| xfa Z Z Z f107_5 <| xld Z Z Z o3 .z Z <| xcm Z Z Z Z Z Z <| X.nil <| T.cond Z ?_ ?_
 ·intro hb0
  have hin : i < c.nodes.toNat := by have := of_decide_eq_true hb0; omega
  have hs16 := slotsOf_rng _ (class_rng hc (v := (i : Int) + 1) (by omega))
  have hma := manyAt_rng hc i (by omega)
  have hma2 := manyAt_rng hc (i + 1) (by omega)
  refine T.skip <| T.seq <| T.block <| T.seq <| tx [0,1,2,3,4,5] nf Z Z <| xfa Z Z Z f24_0 <| xlda Z Z Z m22 (.s .z) Z <| xmv Z Z Z <| xcq Z Z Z Z g51 (ct_Class hc.sm (by omega)) loc_emp <| xcq Z Z Z Z g50 (ct_Slots (class_rng hc (by omega))) loc_emp ?_
  refine xas Z Z Z <| X.nil <| T.seq <| tx [0,1,2,3,4,5,6,7,8,9,10] (ct [6,7,10]) Z Z <| xmv Z Z Z <| xmv Z Z Z <| xnc Z Z Z <| xfa Z Z Z f109_3 <| xld Z Z Z o41 .z Z <| xmv Z Z Z <| xbs Z Z Z s41 z3 (by decide) Z Z Z (fun _ => pend0) (fun b2 => ?_)
  refine xapv (n := 1) (news := i64s [slotsOf (c.class_ ((i : Int) + 1))]) (rest2 := []) (Hr := [_, _, _]) (cn := i64s (c.room.take (i + 1))) (kn := i + 1) hR Z Z Z s41 Z .z Z (by simp [isCell, i64s]) ⟨by omega, by omega, by omega, by omega⟩ (by rw [room_take hin]; simp [i64s]) Z (fun _ => pend0) (fun v' B' hR' => ?_)
  refine xnc Z Z Z <| xfa Z Z Z f109_3 <| xst Z Z Z Z o41 hR'.cell (.s .z) Z (.s .z) pend0 <| X.nil ?_
  refine T.any (ord := [0, 1, 2, 3, 4, 5, 6, 7, 8, 9, 10, 11, 12, 13, 14, 15, 16, 17]) (lo := (fun _ => false)) (ef := (fun i => [17].contains i)) (by kernel_rfl) (fun _ h => h.drew) <| xmv Z Z Z <| xnc Z Z Z <| xfa Z Z Z f109_0 <| xfa Z Z Z f107_6 ?_
  refine xld Z Z Z o3 (.s .z) Z <| xmv Z Z Z <| xfa Z Z Z f24_4 <| xld Z Z Z o3 (.s (.s .z)) Z <| xarc (c := slotsOf (c.class_ ((i : Int) + 1)) + c.chunk) Z Z Z Z Z (IntWalk.i64_in _ (by simp only [ari]; omega)) ?_
  refine xarc (c := slotsOf (c.class_ ((i : Int) + 1)) + c.chunk - 1) Z Z Z Z Z (IntWalk.i64_in _ (by simp only [ari]; omega)) <| xfa Z Z Z f24_4 <| xld Z Z Z o3 (.s (.s .z)) Z <| xbo Z Z Z Z gd_num (run_quo (by omega) (by omega)) ?_
  refine xarc (c := c.manyAt (i + 1)) Z Z Z Z Z (by simp only [ari]; rw [← manyAt_succ hin]; exact IntWalk.i64_in _ (by omega)) <| xnc Z Z Z <| xfa Z Z Z f109_0 <| xfa Z Z Z f107_6 <| xst Z Z Z Z o3 Z (.s .z) Z (.s .z) pend0 <| X.nil <| T.blk_end ?_
  refine tx [0,1,2] nf Z Z <| xmv Z Z Z <| xarc (c := (((i + 1 : Nat) : Int) + 1)) Z Z Z Z Z (by simp only [ari]; rw [IntWalk.i64_in _ (by omega)]; omega) <| xas Z Z Z <| X.nil ?_
  exact T.lq_end (i + 1, v', B') (by show c.nodes.toNat - (i + 1) < c.nodes.toNat - i; omega) (fun w h => ⟨⟨by show i + 1 ≤ c.nodes.toNat; omega, hR'⟩, h.reb loc_emp Wk.tail⟩) ⟨rfl, rfl, rfl, trivial⟩
 ·intro hb0
  have hi2 : i = c.nodes.toNat := by have := of_decide_eq_false hb0; omega
  subst hi2
  obtain ⟨rb, rrest, rm, rfl, hr1, hr2, hr3, -, rfl⟩ := hR.resolve_left (fun h => by omega)
  rw [room_all] at hr3 ⊢
  rw [manyAt_all]
  refine T.exit ?_
  refine TE.lq_exit ?_
  refine TE.blk_exit ?_
  refine T.seq <| T.any (ord := [0, 1, 2, 3, 4, 5, 6, 7, 8, 9, 10, 11, 12, 13, 14, 15, 16]) (lo := (fun _ => false)) (ef := (fun i => [16].contains i)) (by kernel_rfl) (fun _ h => h.drew) <| xmv Z Z Z <| xmv Z Z Z <| xnc Z Z Z <| xfa Z Z Z f109_0 ?_
  refine xfa Z Z Z f107_5 <| xld Z Z Z o3 .z Z <| xfa Z Z Z f24_7 <| xld Z Z Z o3 (.s .z) Z <| xarc (c := c.nodes + c.sweep) Z Z Z Z Z (IntWalk.i64_in _ (by simp only [ari]; omega)) ?_
  refine xarc (c := c.nodes + c.sweep - 1) Z Z Z Z Z (IntWalk.i64_in _ (by simp only [ari]; omega)) <| xfa Z Z Z f24_7 <| xld Z Z Z o3 (.s .z) Z <| xbo Z Z Z Z gd_num (run_quo (by omega) (by omega)) <| xnc Z Z Z <| xfa Z Z Z f109_0 <| xfa Z Z Z f107_7 ?_
  refine xst Z Z Z Z o3 Z .z Z .z pend0 <| X.nil <| T.seq <| tx [0,1,2,3,4] (ct [4]) Z Z <| xmv Z Z Z <| xnc Z Z Z <| xfa Z Z Z f109_0 <| xfa Z Z Z f107_0 <| xst Z Z Z Z o3 Z .z Z .z pend0 <| X.nil <| T.seq ?_
  refine T.any (ord := [0, 1, 2, 3, 4, 5, 6, 7, 8, 9, 10, 11, 12]) (lo := (fun _ => false)) (ef := (fun i => [12].contains i)) (by kernel_rfl) (fun _ h => h.drew) <| xmv Z Z Z <| xmv Z Z Z <| xnc Z Z Z <| xfa Z Z Z f109_0 <| xfa Z Z Z f107_0 ?_
  refine xld Z Z Z o3 .z Z <| xfa Z Z Z f24_2 <| xld Z Z Z o3 (.s .z) Z <| xarc (c := 6 + c.mutators) Z Z Z Z Z (IntWalk.i64_in _ (by simp only [ari]; omega)) <| xnc Z Z Z <| xfa Z Z Z f109_0 <| xfa Z Z Z f107_1 <| xst Z Z Z Z o3 Z .z Z .z pend0 <| X.nil ?_
  refine T.seq <| tx [0,1,2,3,4,5,6,7,8,9,10] (ct [10]) Z Z <| xmv Z Z Z <| xmv Z Z Z <| xnc Z Z Z <| xfa Z Z Z f109_0 <| xfa Z Z Z f107_1 <| xld Z Z Z o3 .z Z <| xarc (c := 6 + c.mutators + 5) Z Z Z Z Z (IntWalk.i64_in _ (by simp only [ari]; omega)) ?_
  refine xnc Z Z Z <| xfa Z Z Z f109_0 <| xfa Z Z Z f107_2 <| xst Z Z Z Z o3 Z .z Z .z pend0 <| X.nil <| T.seq ?_
  refine T.any (ord := [0, 1, 2, 3, 4, 5, 6, 7, 8, 9, 10, 11, 12, 13, 14, 15, 16]) (lo := (fun _ => false)) (ef := (fun i => [16].contains i)) (by kernel_rfl) (fun _ h => h.drew) <| xmv Z Z Z <| xmv Z Z Z <| xnc Z Z Z <| xfa Z Z Z f109_0 ?_
  refine xfa Z Z Z f107_2 <| xld Z Z Z o3 .z Z <| xfa Z Z Z f24_1 <| xld Z Z Z o3 (.s .z) Z <| xfa Z Z Z f24_3 <| xld Z Z Z o3 (.s .z) Z <| xarc (c := 2 + c.deque) Z Z Z Z Z (IntWalk.i64_in _ (by simp only [ari]; omega)) ?_
  refine xarc (c := c.markers * (2 + c.deque)) Z Z Z Z Z (IntWalk.i64_in _ (by simp only [ari]; omega)) <| xarc (c := 6 + c.mutators + 5 + c.markers * (2 + c.deque)) Z Z Z Z Z (IntWalk.i64_in _ (by simp only [ari]; omega)) <| xnc Z Z Z <| xfa Z Z Z f109_0 ?_
  refine xfa Z Z Z f107_3 <| xst Z Z Z Z o3 Z .z Z .z pend0 <| X.nil <| T.seq <| T.any (ord := [0, 1, 2, 3, 4, 5, 6, 7, 8, 9, 10, 11, 12, 13, 14, 15, 16]) (lo := (fun _ => false)) (ef := (fun i => [16].contains i)) (by kernel_rfl) (fun _ h => h.drew) ?_
  refine xmv Z Z Z <| xmv Z Z Z <| xnc Z Z Z <| xfa Z Z Z f109_0 <| xfa Z Z Z f107_3 <| xld Z Z Z o3 .z Z <| xmv Z Z Z <| xnc Z Z Z <| xfa Z Z Z f109_0 <| xfa Z Z Z f107_6 <| xld Z Z Z o3 .z Z ?_
  refine xarc (c := c.many * 6) Z Z Z Z Z (IntWalk.i64_in _ (by simp only [ari]; omega)) <| xarc (c := c.node0) Z Z Z Z Z (by simp only [ari]; exact IntWalk.i64_in _ (by omega)) <| xnc Z Z Z <| xfa Z Z Z f109_0 <| xfa Z Z Z f107_4 ?_
  refine xst Z Z Z Z o3 Z .z Z .z pend0 <| X.nil <| T.seq <| tx [0,1,2,3,4,5,6,7,8,9] (ct [9]) Z Z <| xmv Z Z Z <| xmv Z Z Z <| xnc Z Z Z <| xfa Z Z Z f109_0 <| xfa Z Z Z f107_4 <| xld Z Z Z o3 .z Z <| xnc Z Z Z <| xfa Z Z Z f109_0 <| xfa Z Z Z f107_8 ?_
  refine xst Z Z Z Z o3 Z .z Z .z pend0 <| X.nil <| T.seq <| T.seq <| tx [0,1,2,3,4,5] nf Z Z <| xmv Z Z Z <| xnc Z Z Z <| xfa Z Z Z f109_3 <| xld Z Z Z o41 .z Z <| xlen Z Z Z u41_dSlice <| xmv Z Z Z <| X.nil <| T.block ?_
  refine T.loop (fun (x : Nat × Value × List Bk) w => (x.1 ≤ c.nodes.toNat ∧ SlV 3 1 x.2.1 x.1 (i64s (offs (c.room.take x.1) c.node0)) x.2.2) ∧ Sy C w0 D0 l (⟨b1, 109, lay c 6 (6 + c.mutators) (6 + c.mutators + 5) (6 + c.mutators + 5 + c.markers * (2 + c.deque)) c.node0 c.nodes c.many ((c.nodes + c.sweep - 1) / c.sweep) (offEnd (c.room.take x.1) c.node0) x.2.1 (slv rb c.nodes.toNat rm)⟩ :: ⟨b0, 24, c.cells⟩ :: ⟨rb, 3, i64s c.room ++ rrest⟩ :: x.2.2) emp w) (fun x => [(170, .int .i64 ((x.1 : Nat) : Int)), (169, .int .i64 ((c.nodes.toNat : Nat) : Int)), (168, slv rb c.nodes.toNat rm), (5, ptr b1)]) (fun x => c.nodes.toNat - x.1) (0, .slice none 0 0, []) (fun w h => ⟨⟨Nat.zero_le _, SlV.nil⟩, h⟩) ⟨Z, Z, Z, Z, trivial⟩ ?_
  rintro ⟨j, av, AB⟩ g2
  refine T.pure ?_
  rintro ⟨hj, hA⟩
  simp only at hj hA
  refine T.seq <| tx [0] nf Z Z <| xcm Z Z Z Z Z Z <| X.nil <| T.seq <| T.cond Z ?_ ?_
  ·intro hb1
   have hjn : j < c.nodes.toNat := Int.ofNat_lt.1 (of_decide_eq_true hb1)
   have hro := room_at_rng hc hjn
   have hoe := offEnd_take_rng hc j c.node0
   have hoe2 := offEnd_take_rng hc (j + 1) c.node0
   refine T.skip <| T.seq <| T.block <| T.seq <| tx [0,1,2] nf Z Z <| xix Z Z Z Z s41 ⟨Int.natCast_nonneg _, Int.ofNat_lt.2 hjn⟩ <| xld Z Z Z o3 (.s (.s .z)) (nth_i64s (by rw [room_len]; exact hjn)) <| xas Z Z Z <| X.nil <| T.seq ?_
   refine T.any (ord := [0, 1, 2, 3, 4, 5, 6, 7, 8, 9, 10, 11, 12, 13, 14]) (lo := (fun i => [0, 1, 2, 3, 4].contains i)) (ef := (fun i => [10, 11, 14].contains i)) (by kernel_rfl) (fun _ h => h.drew) <| xmv Z Z Z <| xmv Z Z Z <| xnc Z Z Z ?_
   refine xfa Z Z Z f109_2 <| xld Z Z Z o41 .z Z <| xmv Z Z Z <| xnc Z Z Z <| xfa Z Z Z f109_0 <| xfa Z Z Z f107_8 <| xld Z Z Z o3 .z Z ?_
   refine xbs Z Z Z s41 z3 (by decide) Z Z Z (fun _ => (pxld Z Z o41 (.s .z) Z (pxfa Z Z f109_2 (pxnc Z Z (pendmv Z Z (pendmv Z Z pend0)))))) (fun b3 => ?_)
   refine xapv (n := 1) (news := i64s [offEnd (c.room.take j) c.node0]) (rest2 := []) (Hr := [_, _, _, _]) (cn := i64s (offs (c.room.take (j + 1)) c.node0)) (kn := j + 1) hA Z Z Z s41 Z .z Z (by simp [isCell, i64s]) ⟨by omega, by omega, by omega, by omega⟩ (by rw [offs_take hjn]; simp [i64s]) Z (fun _ => (pxld Z Z o41 (.s .z) Z (pxfa Z Z f109_2 (pxnc Z Z (pendmv Z Z (pendmv Z Z pend0)))))) (fun v' B' hR' => ?_)
   refine xnc Z Z Z <| xfa Z Z Z f109_2 <| xst Z Z Z Z o41 hR'.cell (.s .z) Z (.s .z) (pendsk (by kernel_rfl) (pendsk (by kernel_rfl) (pendsk (by kernel_rfl) (pendsk (by kernel_rfl) (pendsk (by kernel_rfl) pend0))))) <| X.nil ?_
   refine tx [0,1,2,3,4,5,6,7,8,9,10,11] (ct [11]) Z Z <| xmv Z Z Z <| xnc Z Z Z <| xfa Z Z Z f109_0 <| xfa Z Z Z f107_8 <| xld Z Z Z o3 (.s .z) Z <| xmv Z Z Z <| xarc (c := 4 + c.room.getD j 0) Z Z Z Z Z (IntWalk.i64_in _ (by simp only [ari]; omega)) ?_
   refine xarc (c := offEnd (c.room.take (j + 1)) c.node0) Z Z Z Z Z (by simp only [ari]; rw [← offEnd_take hjn]; exact IntWalk.i64_in _ (by omega)) <| xnc Z Z Z <| xfa Z Z Z f109_0 <| xfa Z Z Z f107_8 <| xst Z Z Z Z o3 Z (.s .z) Z (.s .z) pend0 <| X.nil ?_
   refine T.blk_end <| tx [0,1] nf Z Z <| xarc (c := ((j + 1 : Nat) : Int)) Z Z Z Z Z (by simp only [ari]; rw [IntWalk.i64_in _ (by omega)]; omega) <| xmv Z Z Z <| X.nil ?_
   exact T.lq_end (j + 1, v', B') (by show c.nodes.toNat - (j + 1) < c.nodes.toNat - j; omega) (fun w h => ⟨⟨by show j + 1 ≤ c.nodes.toNat; omega, hR'⟩, h.reb loc_emp Wk.tail⟩) ⟨rfl, rfl, rfl, rfl, trivial⟩
  ·intro hb1
   have hj2 : j = c.nodes.toNat := by have : ¬ ((j : Nat) : Int) < ((c.nodes.toNat : Nat) : Int) := of_decide_eq_false hb1; omega
   subst hj2
   obtain ⟨ab, arest, am, rfl, ha1, ha2, ha3, -, rfl⟩ := hA.resolve_left (fun h => by omega)
   rw [room_all] at ha3 ⊢
   refine T.exit ?_
   refine TE.lq_exit ?_
   refine TE.blk_exit ?_
   refine T.seq <| tx [0,1,2] nf Z Z <| xmv Z Z Z <| xas Z Z Z <| xas Z Z Z <| X.nil <| T.ret2 Z (fun W D h => ?_)
   obtain ⟨D1, h1, h2⟩ := blks_pick [0, 3, 2] (by decide) h
   rw [sl_i64s] at hr3 ha3
   exact ⟨D1, ⟨(⟨0, 0, 0, b1, ab, rb, am, rm, c.map⟩, arest, rrest), rfl, ⟨rfl, ⟨Cfg.map_ok hc, ⟨by show (offs c.room c.node0).length + arest.length = am; omega, ha2⟩, ⟨by show c.room.length + rrest.length = rm; omega, hr2⟩⟩⟩, rfl, lay_blks h1⟩, h2⟩
end Go.Proofs.YtmpcfamcbaineaaGreat.Mo.Mp
namespace Go.Proofs.YtmpcfamcbaineaaGreat.Mo
open Go.RowKit Go.Proofs.YtmpcfamcbaineaaGreat.Mo
set_option linter.unusedVariables false
set_option linter.unusedSimpArgs false
theorem g11 : fnB 11 = true := by kernel_rfl
end Go.Proofs.YtmpcfamcbaineaaGreat.Mo
namespace Go.Proofs.YtmpcfamcbaineaaGreat.Mo.Mp
open Go.RowKit Go.Proofs.YtmpcfamcbaineaaGreat.Mo
set_option linter.unusedVariables false
set_option linter.unusedSimpArgs false
section
variable {C : Cx} {l : Wds} {R : Asr} {K : Mo.Cx} {ra rr : List Value}
theorem ct_Link (h : LayOk K ra rr) {p : Int} : Cv C 54 [ptr K.m, .int .i64 p] l (blks (LayB K ra rr) R) (.int .i64 (K.M.Link p)) l (blks (LayB K ra rr) R) := Cv.get fun w D hb => Link_calls w K (MapAt.of h hb) p
theorem ct_Common (h : LayOk K ra rr) : Cv C 11 [ptr K.m] l (blks (LayB K ra rr) R) (.int .i64 K.M.nodes) l (blks (LayB K ra rr) R) := Cv.get fun w D hb => Common_calls w K (MapAt.of h hb)
theorem ct_State (h : LayOk K ra rr) {v : Int} : Cv C 33 [ptr K.m, .int .i64 v] l (blks (LayB K ra rr) R) (.int .i64 (K.M.State v)) l (blks (LayB K ra rr) R) := Cv.get fun w D hb => State_calls w K (MapAt.of h hb) v
theorem ct_Header (h : LayOk K ra rr) {v : Int} : Cv C 56 [ptr K.m, .int .i64 v] l (blks (LayB K ra rr) R) (.int .i64 (K.M.Header v)) l (blks (LayB K ra rr) R) := Cv.get fun w D hb => Header_calls w K (MapAt.of h hb) v
theorem ct_Room (h : LayOk K ra rr) {v : Int} : Cv C 55 [ptr K.m, .int .i64 v] l (blks (LayB K ra rr) R) (.int .i64 (K.M.Room v)) l (blks (LayB K ra rr) R) := Cv.get fun w D hb => Room_calls w K (MapAt.of h hb) v
theorem ct_Head (h : LayOk K ra rr) {v : Int} : Cv C 35 [ptr K.m, .int .i64 v] l (blks (LayB K ra rr) R) (.int .i64 (K.M.Head v)) l (blks (LayB K ra rr) R) := Cv.get fun w D hb => Head_calls w K (MapAt.of h hb) v
theorem ct_Next (h : LayOk K ra rr) {v : Int} : Cv C 36 [ptr K.m, .int .i64 v] l (blks (LayB K ra rr) R) (.int .i64 (K.M.Next v)) l (blks (LayB K ra rr) R) := Cv.get fun w D hb => Next_calls w K (MapAt.of h hb) v
theorem ct_Pair0 {k : Int} (hk : 0 ≤ k ∧ k ≤ 4294967295) : Cv C 53 [.int .u32 0, .int .u32 k] l R (.int .u64 k) l R := Cv.get fun w _ _ => by
 have := Pair_calls w 0 k (by omega) hk
 rw [show pair 0 k = k by unfold pair; omega] at this
 exact this
end
theorem Cv.frame0 {C : Cx} {l l' : Wds} {R : Asr} {f : Nat} {args : List Value} {v : Value} (hl : Loc R) (h : Cv C f args l emp v l' emp) : Cv C f args l R v l' R := by
 have := Cv.sepF h hl
 rw [emp_sep] at this
 exact this
set_option maxHeartbeats 1000000 in
theorem ct_MClass {C : Cx} {l : Wds} {R : Asr} (hl : Loc R) {c : Cfg} {K : Mo.Cx} {ra rr : List Value} {v : Int} (hc : c.Ok) (hK : K.M = c.map) (hv : -1000 ≤ v ∧ v ≤ 1000) : Cv C 37 [ptr K.m, .int .i64 v] l (blks (LayB K ra rr) R) (.int .i64 (c.class_ v)) l (blks (LayB K ra rr) R) := by
 obtain ⟨ks, kg, kc, km, ga, gr, ca, cr, M⟩ := K
 obtain rfl : M = c.map := hK
 refine Ct.of (vs := [ptr km, .int .i64 v]) Tryz.func37 rfl Tryz.ntmps37 (by simp) (loc_blks hl _) ?_
 intro w0 D0
 refine T.conv (fun w h => Sy.opens (H2 := LayB _ _ _) h hl) <| T.seq <| tx [0] nf Z Z <| xas Z Z Z <| X.nil <| T.seq <| T.seq <| tx [0,1] nf Z Z <| xmv Z Z Z <| xnp Z Z Z Z u39_dPtr <| X.nil <| T.no Z <| T.skip <| T.seq <| tx [0,1,2,3,4,5,6,7] nf Z Z ?_
 refine xmv Z Z Z <| xnc Z Z Z <| xfa Z Z Z f109_1 <| xfa Z Z Z f24_0 <| xlda Z Z Z m22 .z Z <| xmv Z Z Z <| xcq Z Z Z Z g51 (Cv.frame0 hl (ct_Class hc.sm hv)) hl <| xas Z Z Z <| X.nil <| T.ret1 Z (fun W D h => ?_)
 exact ⟨D, ⟨rfl, rfl, h⟩, fun _ hk => hk⟩
set_option maxHeartbeats 20000000 in
theorem ct_First {C : Cx} {l : Wds} {c : Cfg} {K : Mo.Cx} {ra rr : List Value} (hc : c.Ok) (hK : K.M = c.map) (hok : LayOk K ra rr) : Ce (α := Nat) C 25 [ptr K.m] l (blks (LayB K ra rr) emp) (fun q => slv q c.map.all.toNat c.map.all.toNat) l (fun _ => True) (fun q => blks (⟨q, 90, u64s c.map.first⟩ :: LayB K ra rr) emp) := by
 obtain ⟨ks, kg, kc, km, ga, gr, ca, cr, M⟩ := K
 obtain rfl : M = c.map := hK
 have hn := hc.nodes
 have hd1 := hc.mutators
 obtain ⟨hn1, hn2, hn3⟩ := Cfg.nums hc
 have hn4 : c.node0 = 6 + c.mutators + 5 + c.markers * (2 + c.deque) + c.many * 6 := rfl
 have hall := all_rng hc
 have hro0 := map_room_rng hc (v := c.nodes) (by omega)
 have hst : c.node0 ≤ c.map.State c.nodes ∧ c.map.State c.nodes < c.map.all := node_rng hc (j := 1) (by omega) (by omega)
 have hhe : c.node0 ≤ c.map.Header c.nodes ∧ c.map.Header c.nodes < c.map.all := node_rng hc (j := 0) (by omega) (by omega)
 obtain ⟨n, hnall⟩ : ∃ n : Nat, c.map.all = (n : Int) := ⟨c.map.all.toNat, by omega⟩
 have hnn : c.map.all.toNat = n := by omega
 rw [hnn]
 have hmany : 1 ≤ c.many := by have := manyAt_ge hc; omega
 generalize hL1 : linkUp c.map (c.many.toNat - 1) 1 ((List.replicate n 0).set 5 1) = L1
 generalize hL2 : freeUp c.map (c.nodes - 1).toNat ((L1.set (c.map.State c.nodes).toNat 1).set (c.map.Header c.nodes).toNat (c.map.Room c.nodes)) = L2
 have first_eq : c.map.first = L2 := by
  rw [← hL2, ← hL1, ← hnn, show c.many.toNat - 1 = (c.many - 1).toNat by omega]
  rfl
 refine Ct.of (vs := [ptr km]) Tryz.func25 rfl Tryz.ntmps25 (by simp) (loc_blks loc_emp _) ?_
 intro w0 D0
 refine T.conv (fun w h => Sy.opens (H2 := LayB _ _ _) h loc_emp) <| T.seq <| tx [0] nf Z Z <| xas Z Z Z <| X.nil <| T.seq <| T.seq <| tx [0,1] nf Z Z <| xmv Z Z Z <| xnp Z Z Z Z u39_dPtr <| X.nil <| T.no Z <| T.skip <| T.seq ?_
 refine tx [0,1,2,3,4,5,6] (ct [5]) Z Z <| xmv Z Z Z <| xnc Z Z Z <| xfa Z Z Z f109_0 <| xfa Z Z Z f107_8 <| xld Z Z Z o3 .z Z <| xms (n := n) (by omega) hnall Z Z Z Z s43 z90 (fun _ => pend0) (fun b => ?_)
 refine xas Z Z Z <| X.nil <| T.seq ?_
 rw [u64s_rep]
 refine tx [0,1,2,3] (ct [3]) Z Z <| xmv Z Z Z <| xcq Z Z Z Z g53 (ct_Pair0 (by omega)) loc_emp <| xix Z Z Z Z s43 ⟨by decide, by omega⟩ ?_
 refine xstw (H1 := []) (H2 := LayB ⟨ks, kg, kc, km, ga, gr, ca, cr, c.map⟩ ra rr) (a := 5) Z Z Z Z Z Z o90 Z (by rw [List.length_replicate]; omega) pend0 <| X.nil <| T.seq <| T.seq <| tx [0] nf Z Z <| xas Z Z Z <| X.nil <| T.block ?_
 refine T.loop (fun (x : Nat × Wds) w => ((1 ≤ x.1 ∧ (x.1 : Int) ≤ 2000 ∧ x.2.length = n) ∧ linkUp c.map (c.many.toNat - x.1) x.1 x.2 = L1) ∧ Sy C w0 D0 l (⟨b, 90, u64s x.2⟩ :: LayB ⟨ks, kg, kc, km, ga, gr, ca, cr, c.map⟩ ra rr) emp w) (fun x => [(4, .int .i64 ((x.1 : Nat) : Int)), (3, slv b n n), (0, ptr km)]) (fun x => c.many.toNat - x.1) (1, (List.replicate n 0).set 5 1) (fun w h => ⟨⟨⟨Nat.le_refl _, by show ((1 : Nat) : Int) ≤ 2000; decide, by simp⟩, hL1⟩, h⟩) ⟨Z, Z, Z, trivial⟩ ?_
 rintro ⟨p, ws⟩ g
 refine T.pure ?_
 rintro ⟨⟨hp1, hp2, hws⟩, hL⟩
 simp only at hp1 hp2 hws hL
 refine T.seq <| T.seq <| tx [0,1,2,3,4,5,6] nf Z Z <| xmv Z Z Z <| xmv Z Z Z <| xnc Z Z Z <| xfa Z Z Z f109_0 <| xfa Z Z Z f107_6 <| xld Z Z Z o3 (.s .z) Z <| xcm Z Z Z Z Z Z <| X.nil <| T.cond Z ?_ ?_
 ·intro hb0
  have hpm : p < c.many.toNat := by have : ((p : Nat) : Int) < c.many := of_decide_eq_true hb0; omega
  have hlk := link_rng hc (p := p) (by omega)
  have hL' : linkUp c.map (c.many.toNat - (p + 1)) (p + 1) (ws.set (c.map.Link p).toNat ((p : Int) + 1)) = L1 := by rw [← hL, show c.many.toNat - p = (c.many.toNat - (p + 1)) + 1 by omega]; rfl
  refine T.skip <| T.seq <| T.block <| tx [0,1,2,3,4,5,6,7,8] (ct [8]) Z Z <| xmv Z Z Z <| xmv Z Z Z <| xmv Z Z Z <| xcr (H1 := [_]) (H2 := _ :: _) Z Z Z Z g54 Z (ct_Link hok) loc_emp <| xmv Z Z Z ?_
  refine xarc (c := ((p : Int) + 1)) Z Z Z Z Z (IntWalk.i64_in _ (by simp only [ari]; omega)) <| xcvc Z Z Z u90_dIntu64 u3_fun_true (IntWalk.u64_in _ (by omega)) ?_
  refine xix Z Z Z Z s43 (show 0 ≤ c.map.Link (p : Int) ∧ c.map.Link (p : Int) < ((n : Nat) : Int) by omega) ?_
  refine xstw (H1 := []) (H2 := LayB ⟨ks, kg, kc, km, ga, gr, ca, cr, c.map⟩ ra rr) (show 0 + (c.map.Link (p : Int)).toNat * 1 = (c.map.Link (p : Int)).toNat by omega) Z Z Z Z Z o90 Z (show (c.map.Link (p : Int)).toNat < _ by rw [hws]; omega) pend0 ?_
  refine X.nil <| T.blk_end <| tx [0,1,2] nf Z Z <| xmv Z Z Z <| xarc (c := ((p + 1 : Nat) : Int)) Z Z Z Z Z (by simp only [ari]; rw [IntWalk.i64_in _ (by omega)]; omega) <| xas Z Z Z <| X.nil ?_
  exact T.lq_end (p + 1, ws.set (c.map.Link p).toNat ((p : Int) + 1)) (by show c.many.toNat - (p + 1) < c.many.toNat - p; omega) (fun w h => ⟨⟨⟨by show 1 ≤ p + 1; omega, by show ((p + 1 : Nat) : Int) ≤ 2000; omega, by show (ws.set _ _).length = n; rw [List.length_set]; exact hws⟩, hL'⟩, h⟩) ⟨rfl, rfl, rfl, trivial⟩
 ·intro hb0
  have hpm : c.many.toNat - p = 0 := by have : ¬ ((p : Nat) : Int) < c.many := of_decide_eq_false hb0; omega
  rw [hpm] at hL
  obtain rfl : ws = L1 := hL
  refine T.exit ?_
  refine TE.lq_exit ?_
  refine TE.blk_exit ?_
  refine T.seq <| tx [0,1,2] nf Z Z <| xmv Z Z Z <| xcr (H1 := [_]) (H2 := _ :: _) Z Z Z Z g11 Z (ct_Common hok) loc_emp <| xas Z Z Z <| X.nil <| T.seq <| tx [0,1,2,3,4,5,6,7,8,9,10,11,12,13,14,15] (ct [13,15]) Z Z <| xmv Z Z Z <| xmv Z Z Z <| xmv Z Z Z ?_
  refine xcr (H1 := [_]) (H2 := _ :: _) Z Z Z Z g33 Z (ct_State hok) loc_emp <| xmv Z Z Z <| xmv Z Z Z <| xmv Z Z Z <| xcr (H1 := [_]) (H2 := _ :: _) Z Z Z Z g56 Z (ct_Header hok) loc_emp <| xmv Z Z Z <| xmv Z Z Z ?_
  refine xcr (H1 := [_]) (H2 := _ :: _) Z Z Z Z g55 Z (ct_Room hok) loc_emp <| xcvc Z Z Z u90_dIntu64 u3_fun_true (IntWalk.u64_in (c.map.Room c.nodes) (by omega)) ?_
  refine xix Z Z Z Z s43 (show 0 ≤ c.map.State c.nodes ∧ c.map.State c.nodes < ((n : Nat) : Int) by omega) ?_
  refine xstw (H1 := []) (H2 := LayB ⟨ks, kg, kc, km, ga, gr, ca, cr, c.map⟩ ra rr) (show 0 + (c.map.State c.nodes).toNat * 1 = (c.map.State c.nodes).toNat by omega) Z Z Z Z Z o90 Z (show (c.map.State c.nodes).toNat < _ by rw [hws]; omega) pend0 ?_
  refine xix Z Z Z Z s43 (show 0 ≤ c.map.Header c.nodes ∧ c.map.Header c.nodes < ((n : Nat) : Int) by omega) ?_
  refine xstw (H1 := []) (H2 := LayB ⟨ks, kg, kc, km, ga, gr, ca, cr, c.map⟩ ra rr) (show 0 + (c.map.Header c.nodes).toNat * 1 = (c.map.Header c.nodes).toNat by omega) Z Z Z Z Z o90 Z (show (c.map.Header c.nodes).toNat < _ by rw [List.length_set, hws]; omega) pend0 ?_
  refine X.nil <| T.seq <| T.seq <| tx [0,1,2] nf Z Z <| xmv Z Z Z <| xarc (c := (((c.nodes - 1).toNat : Nat) : Int)) Z Z Z Z Z (by show IntKind.i64.wrap (ari .sub c.nodes 1) = _; simp only [ari]; rw [IntWalk.i64_in _ (by omega)]; omega) <| xas Z Z Z ?_
  refine X.nil <| T.block ?_
  refine T.loop (fun (x : Nat × Wds) w => (((x.1 : Int) ≤ 60 ∧ (x.1 : Int) < c.nodes ∧ x.2.length = n) ∧ freeUp c.map x.1 x.2 = L2) ∧ Sy C w0 D0 l (⟨b, 90, u64s x.2⟩ :: LayB ⟨ks, kg, kc, km, ga, gr, ca, cr, c.map⟩ ra rr) emp w) (fun x => [(6, .int .i64 ((x.1 : Nat) : Int)), (3, slv b n n), (0, ptr km)]) (fun x => x.1) ((c.nodes - 1).toNat, (ws.set (c.map.State c.nodes).toNat 1).set (c.map.Header c.nodes).toNat (c.map.Room c.nodes)) (fun w h => ⟨⟨⟨by show (((c.nodes - 1).toNat : Nat) : Int) ≤ 60; omega, by show (((c.nodes - 1).toNat : Nat) : Int) < c.nodes; omega, by show ((ws.set _ _).set _ _).length = n; rw [List.length_set, List.length_set]; exact hws⟩, hL2⟩, h⟩) ⟨Z, Z, Z, trivial⟩ ?_
  rintro ⟨v, ws2⟩ g2
  refine T.pure ?_
  rintro ⟨⟨hv1, hv2, hws2⟩, hF⟩
  simp only at hv1 hv2 hws2 hF
  refine T.seq <| T.seq <| tx [0,1] nf Z Z <| xmv Z Z Z <| xcm Z Z Z Z Z Z <| X.nil <| T.cond Z ?_ ?_
  ·intro hb1
   obtain ⟨v, rfl⟩ : ∃ u, v = u + 1 := ⟨v - 1, by have : ((v : Nat) : Int) ≥ 1 := of_decide_eq_true hb1; omega⟩
   rw [show ((v + 1 : Nat) : Int) = (v : Int) + 1 from rfl] at *
   have hcl := class_rng hc (v := (v : Int) + 1) (by omega)
   have hro := map_room_rng hc (v := (v : Int) + 1) (by omega)
   refine T.skip <| T.seq <| T.block <| T.seq <| tx [0,1,2,3,4,5] nf Z Z <| xmv Z Z Z <| xmv Z Z Z <| xmv Z Z Z <| xcr (H1 := [_]) (H2 := _ :: _) Z Z Z Z g37 Z (ct_MClass loc_emp hc Z (by omega)) loc_emp ?_
   refine xcr (H1 := [_]) (H2 := _ :: _) Z Z Z Z g35 Z (ct_Head hok) loc_emp <| xas Z Z Z <| X.nil <| T.seq ?_
   have hhd := head_rng hc hcl
   have hnx : c.node0 ≤ c.map.Next ((v : Int) + 1) ∧ c.map.Next ((v : Int) + 1) < c.map.all := node_rng hc (v := (v : Int) + 1) (j := 3) (by omega) (by omega)
   refine T.any (ord := [0, 1, 2, 3, 4, 5, 6, 7, 8, 9]) (lo := (fun _ => false)) (ef := (fun i => [9].contains i)) (by kernel_rfl) (fun _ h => h.drew) <| xmv Z Z Z <| xmv Z Z Z <| xmv Z Z Z ?_
   refine xcr (H1 := [_]) (H2 := _ :: _) Z Z Z Z g36 Z (ct_Next hok) loc_emp <| xmv Z Z Z <| xmv Z Z Z <| xix Z Z Z Z s43 (show 0 ≤ c.map.Head (c.class_ ((v : Int) + 1)) ∧ c.map.Head (c.class_ ((v : Int) + 1)) < ((n : Nat) : Int) by omega) ?_
   refine xld Z Z Z o90 .z (nth_u64' (a := c.map.Head (c.class_ ((v : Int) + 1))) (by rw [hws2]; omega)) <| xix Z Z Z Z s43 (show 0 ≤ c.map.Next ((v : Int) + 1) ∧ c.map.Next ((v : Int) + 1) < ((n : Nat) : Int) by omega) ?_
   refine xstw (H1 := []) (H2 := LayB ⟨ks, kg, kc, km, ga, gr, ca, cr, c.map⟩ ra rr) (show 0 + (c.map.Next ((v : Int) + 1)).toNat * 1 = (c.map.Next ((v : Int) + 1)).toNat by omega) Z Z Z Z Z o90 Z (show (c.map.Next ((v : Int) + 1)).toNat < _ by rw [hws2]; omega) pend0 ?_
   refine X.nil <| tx [0,1,2,3,4,5,6] (ct [6]) Z Z <| xmv Z Z Z <| xmv Z Z Z <| xmv Z Z Z <| xcvc Z Z Z u115_dIntu32 u3_fun_true (IntWalk.u32_in _ (by omega)) <| xcq Z Z Z Z g53 (ct_Pair0 (by omega)) loc_emp ?_
   refine xix Z Z Z Z s43 (show 0 ≤ c.map.Head (c.class_ ((v : Int) + 1)) ∧ c.map.Head (c.class_ ((v : Int) + 1)) < ((n : Nat) : Int) by omega) ?_
   refine xstw (H1 := []) (H2 := LayB ⟨ks, kg, kc, km, ga, gr, ca, cr, c.map⟩ ra rr) (show 0 + (c.map.Head (c.class_ ((v : Int) + 1))).toNat * 1 = (c.map.Head (c.class_ ((v : Int) + 1))).toNat by omega) Z Z Z Z Z o90 Z (show (c.map.Head (c.class_ ((v : Int) + 1))).toNat < _ by rw [List.length_set, hws2]; omega) pend0 ?_
   refine X.nil <| T.blk_end <| tx [0,1,2] nf Z Z <| xmv Z Z Z <| xarc (c := ((v : Nat) : Int)) Z Z Z Z Z (by simp only [ari]; rw [IntWalk.i64_in _ (by omega)]; omega) <| xas Z Z Z <| X.nil ?_
   exact T.lq_end (v, (ws2.set (c.map.Next ((v : Int) + 1)).toNat (ws2.getD (c.map.Head (c.class_ ((v : Int) + 1))).toNat 0)).set (c.map.Head (c.class_ ((v : Int) + 1))).toNat ((v : Int) + 1)) (by show v < v + 1; omega) (fun w h => ⟨⟨⟨by show (v : Int) ≤ 60; omega, by show (v : Int) < c.nodes; omega, by show ((ws2.set _ _).set _ _).length = n; rw [List.length_set, List.length_set]; exact hws2⟩, hF⟩, h⟩) ⟨rfl, rfl, rfl, trivial⟩
  ·intro hb1
   obtain rfl : v = 0 := by have : ¬ ((v : Nat) : Int) ≥ 1 := of_decide_eq_false hb1; omega
   obtain rfl : ws2 = L2 := hF
   refine T.exit ?_
   refine TE.lq_exit ?_
   refine TE.blk_exit ?_
   refine T.seq <| tx [0,1] nf Z Z <| xmv Z Z Z <| xas Z Z Z <| X.nil <| T.ret1 Z (fun W D h => ?_)
   refine ⟨D, ⟨b, rfl, trivial, rfl, ?_⟩, fun _ hk => hk⟩
   rw [first_eq]
   exact h
end Go.Proofs.YtmpcfamcbaineaaGreat.Mo.Mp
namespace Go.Proofs.YtmpcfamcbaineaaGreat.Mo
open Go.RowKit Go.Proofs.YtmpcfamcbaineaaGreat.Mo
set_option linter.unusedVariables false
set_option linter.unusedSimpArgs false
theorem g59 : fnB 59 = true := by kernel_rfl
theorem g61 : fnB 61 = true := by kernel_rfl
theorem l133 : layB 133 [(0, 1), (1, 1), (2, 1), (3, 4), (7, 1), (8, 1), (9, 1), (10, 1), (11, 1), (12, 1), (13, 1), (14, 1), (15, 1), (16, 5), (21, 1)] = true := by kernel_rfl
theorem l166 : layB 166 [(0, 1), (1, 1)] = true := by kernel_rfl
theorem z133 : zer 133 = some [.pointer none, .int .i64 0, .slice none 0 0, .int .i64 0, .int .i64 0, .int .i64 0, .int .i64 0, .slice none 0 0, .pointer none, .int .u64 0, .int .u64 0, .int .u64 0, .int .u64 0, .int .i64 0, .pointer none, .pointer none, .int .i64 0, .int .i64 0, .int .i64 0, .int .i64 0, .int .i64 0, .nilFunc] := by kernel_rfl
theorem z166 : zer 166 = some [.pointer none, .slice none 0 0] := by kernel_rfl
set_option maxHeartbeats 1000000 in
theorem ct_bufNew {C : Cx} {l : Wds} : Cn C 59 [ptr C.m] l emp l (fun q => BfR C q []) := by
 refine Ct.of (vs := [ptr C.m]) Tryz.func59 rfl Tryz.ntmps59 (by simp) loc_emp ?_
 intro w0 D0
 refine T.seq <| tx [0] nf Z Z <| xas Z Z Z <| X.nil <| T.seq <| tx [0,1,2,3] (ct [2]) Z Z <| xmv Z Z Z <| xbd Z Z Z l166 z166 Z <| xbx Z Z Z Z (fun _ => pend0) (fun b0 => ?_)
 refine xas Z Z Z <| X.nil <| T.ret1 Z (fun W D h => ?_)
 exact ⟨D, ⟨_, rfl, rfl, _, _, .inl ⟨rfl, rfl, rfl⟩, h⟩, fun _ hk => hk⟩
set_option maxHeartbeats 1000000 in
theorem ct_muNew0 {C : Cx} {l : Wds} {i : Int} (hack : C.M.Ack i ≥ 0) : Cn C 28 [ptr C.m, .int .i64 i, .slice none 0 0] l emp l (fun q => MuR C q (.new C.M i [])) := by
 refine Ct.of (vs := [ptr C.m, .int .i64 i, .slice none 0 0]) Tryz.func28 rfl Tryz.ntmps28 (by simp) loc_emp ?_
 intro w0 D0
 refine T.seq <| tx [0] nf Z Z <| xas Z Z Z <| X.nil <| T.seq <| tx [0,1,2,3,4,5,6] (ct [3,5]) Z Z <| xmv Z Z Z <| xmv Z Z Z <| xmv Z Z Z <| xcn Z Z Z Z g59 (ct_bufNew) (fun _ => loc_BfR) (fun _ => pend0) (fun q0 => ?_)
 refine xbd Z Z Z l133 z133 Z <| xbx Z Z Z Z (fun _ => pend0) (fun b1 => ?_)
 refine xas Z Z Z <| X.nil <| T.seq <| T.seq <| tx [0,1,2,3] nf Z Z <| xmv Z Z Z <| xmv Z Z Z <| xcq Z Z Z Z g60 (ct_Ack) loc_BfR <| xcm (c := true) Z Z Z Z Z (decide_eq_true hack) <| X.nil <| T.yes Z <| T.seq <| tx [0,1,2,3,4,5,6] (ct [3,6]) Z Z ?_
 refine xmv Z Z Z <| xmv Z Z Z <| xcq Z Z Z Z g11 (ct_Common) loc_BfR <| xbs Z Z Z s41 z3 (by decide) Z Z Z (fun _ => pend0) (fun b2 => ?_)
 refine xnc Z Z Z <| xfa Z Z Z f133_4 <| xst Z Z Z Z o41 Z (.s .z) Z (.s .z) pend0 <| X.nil <| T.seq <| tx [0,1,2,3,4,5,6,7,8,9] (ct [9]) Z Z <| xmv Z Z Z <| xmv Z Z Z <| xmv Z Z Z <| xlen Z Z Z u66_dSlice <| xmin Z Z Z <| xslz Z Z Z Z s66 ?_
 refine xcq Z Z Z Z g61 (Cv.frame loc_BfR ct_clonez61) loc_BfR <| xnc Z Z Z <| xfa Z Z Z f133_2 <| xst Z Z Z Z o66 Z (.s .z) Z (.s .z) pend0 <| X.nil ?_
 refine T.reb (H' := [_, _]) (R' := sep (BfR C q0 []) (OpsR (.slice none 0 0) [])) (loc_sep loc_BfR loc_OpsR) (Wk.blks (ops_fold (B := []) (.inl ⟨Z, ⟨_, _, Z⟩, Z⟩)) _) <| tx [0,1] (ct [1]) Z Z <| xmv Z Z Z ?_
 refine xcfp (H2 := [_, _]) (is := [1, 0]) (by decide) Z Z Z Z g62 Z (ct_begin (x := (⟨i, [], op0, [C.M.nodes], [], 0, 0, 0, 0, 0, .new 0 0, .log 0 0, ev0, .safe⟩ : Mu)) (ov := .slice none 0 0) (rest := []) (m := 1) (by simp) (by simp)) loc_MuR pend0 ?_
 refine X.nil <| T.seq <| tx [0,1] nf Z Z <| xmv Z Z Z <| xas Z Z Z <| X.nil <| T.ret1 Z (fun W D h => ?_)
 exact ⟨D, ⟨_, rfl, rfl, h⟩, fun _ hk => hk⟩
theorem Ce.sepF0 {α : Type} {C : Cx} {f : Nat} {args : List Value} {l l' : Wds} {H : List Bk} {F : Asr} {v : α → Value} {P : α → Prop} {B : α → List Bk} (h : Ce C f args l (blks H emp) v l' P (fun a => blks (B a) emp)) (hF : Loc F) : Ce C f args l (blks H F) v l' P (fun a => blks (B a) F) := by
 have := Ce.sepF h hF
 simp only [blks_sep, emp_sep] at this
 exact this
set_option maxHeartbeats 1000000 in
theorem ct_muNew1 {C : Cx} {l : Wds} {i : Int} {ops : List MOp} {ob oc : Nat} {orest : List Value} (hack : C.M.Ack i ≥ 0) (hne : ops ≠ []) (h64 : ops.length ≤ 64) (hoc : ops.length ≤ oc) (hk : ∀ o ∈ ops, o.kind = 0 ∨ o.kind = 3) : Cn C 28 [ptr C.m, .int .i64 i, slv ob ops.length oc] l (blks [⟨ob, 65, opsC ops ++ orest⟩] emp) l (fun q => MuR C q (.new C.M i ops)) := by
 have hl := List.length_pos_iff.2 hne
 have e : Mu.new C.M i ops = Mu.begin_ C.M ⟨i, ops, op0, [C.M.nodes], [], 0, 0, 0, 0, 0, .new 0 0, .log 0 0, ev0, .safe⟩ := by
  unfold Mu.new
  rw [List.take_of_length_le h64]
 rw [e]
 refine Ct.of (vs := [ptr C.m, .int .i64 i, slv ob ops.length oc]) Tryz.func28 rfl Tryz.ntmps28 (by simp) (loc_blks loc_emp _) ?_
 intro w0 D0
 refine T.conv (fun w h => Sy.opens (H2 := [_]) h loc_emp) <| T.seq <| tx [0] nf Z Z <| xas Z Z Z <| X.nil <| T.seq <| tx [0,1,2,3,4,5,6] (ct [3,5]) Z Z <| xmv Z Z Z <| xmv Z Z Z <| xmv Z Z Z ?_
 refine xcn Z Z Z Z g59 (ct_bufNew) (fun _ => loc_BfR) (fun _ => pend0) (fun q0 => ?_)
 refine xbd Z Z Z l133 z133 Z <| xbx Z Z Z Z (fun _ => pend0) (fun b1 => ?_)
 refine xas Z Z Z <| X.nil <| T.seq <| T.seq <| tx [0,1,2,3] nf Z Z <| xmv Z Z Z <| xmv Z Z Z <| xcq Z Z Z Z g60 (ct_Ack) loc_BfR <| xcm (c := true) Z Z Z Z Z (decide_eq_true hack) <| X.nil <| T.yes Z <| T.seq <| tx [0,1,2,3,4,5,6] (ct [3,6]) Z Z ?_
 refine xmv Z Z Z <| xmv Z Z Z <| xcq Z Z Z Z g11 (ct_Common) loc_BfR <| xbs Z Z Z s41 z3 (by decide) Z Z Z (fun _ => pend0) (fun b2 => ?_)
 refine xnc Z Z Z <| xfa Z Z Z f133_4 <| xst Z Z Z Z o41 Z (.s .z) Z (.s .z) pend0 <| X.nil <| T.seq <| tx [0,1,2,3,4,5,6,7,8,9] (ct [6,9]) Z Z <| xmv Z Z Z <| xmv Z Z Z <| xmv Z Z Z <| xlen Z Z Z u66_dSlice <| xmin Z Z Z ?_
 refine xsl (k := ops.length) Z Z Z Z s66 ⟨by omega, by omega, by omega⟩ ?_
 refine xcx (H1 := [_, _]) (H2 := [_]) (B := fun (a : Nat × List Value × Nat) => [⟨a.1, 65, opsC ops ++ a.2.1⟩, ⟨ob, 65, opsC ops ++ orest⟩]) Z Z Z Z g61 Z (Ce.sepF0 (ct_clone61 (news := opsC ops) (rest := orest) ⟨by omega, by omega⟩ (opsC_length ops)) loc_BfR) (fun _ => loc_BfR) (fun a3 ha3 => pend0) (fun a3 ha3 => ?_)
 refine xnc Z Z Z <| xfa Z Z Z f133_2 <| xst Z Z Z Z o66 Z (.s .z) Z (.s .z) pend0 <| X.nil ?_
 refine T.reb (H' := [_, _]) (R' := sep (BfR C q0 []) (OpsR (.slice (some ⟨a3.1, 0, none⟩) ops.length a3.2.2) ops)) (loc_sep loc_BfR loc_OpsR) ((Wk.pick [0, 1, 2] (by decide)).trans (Wk.blks (ops_fold (B := [_]) (.inr ⟨hne, a3.1, [], a3.2.1, a3.2.2, Z, ha3.1.1, Z⟩)) [_, _])) ?_
 refine tx [0,1] (ct [1]) Z Z <| xmv Z Z Z ?_
 refine xcfp (H2 := [_, _]) (is := [1, 0]) (by decide) Z Z Z Z g62 Z (ct_begin (x := (⟨i, ops, op0, [C.M.nodes], [], 0, 0, 0, 0, 0, .new 0 0, .log 0 0, ev0, .safe⟩ : Mu)) (ov := .slice (some ⟨a3.1, 0, none⟩) ops.length a3.2.2) (rest := []) (m := 1) hk (by simp)) loc_MuR pend0 ?_
 refine X.nil <| T.seq <| tx [0,1] nf Z Z <| xmv Z Z Z <| xas Z Z Z <| X.nil <| T.ret1 Z (fun W D h => ?_)
 exact ⟨D, ⟨_, rfl, rfl, h⟩, fun _ hk => hk⟩
end Go.Proofs.YtmpcfamcbaineaaGreat.Mo
namespace Go.Proofs.YtmpcfamcbaineaaGreat.Mo.Mp
open Go.RowKit Go.Proofs.YtmpcfamcbaineaaGreat.Mo
set_option linter.unusedVariables false
set_option linter.unusedSimpArgs false
def wrap (C : Mo.Cx) (l : Wds) (R : Asr) : Asr := fun D w => ∃ Dw, R Dw w ∧ MapAt w C ∧ Mo.Mem w C l ∧ Mo.Amb C w Dw ∧ ∀ k, D k ↔ (Dw k ∨ k = C.s ∨ k = C.g ∨ k = C.m ∨ k = C.ga ∨ k = C.gr)
theorem loc_wrap {C : Mo.Cx} {l : Wds} {R : Asr} (hl : Loc R) : Loc (wrap C l R) := by
  rintro D w w' ⟨Dw, h1, h2, h3, h4, h5⟩ hk
  have hs : w'.heap[C.s]? = w.heap[C.s]? := hk _ ((h5 _).2 (.inr (.inl rfl)))
  have hg : w'.heap[C.g]? = w.heap[C.g]? := hk _ ((h5 _).2 (.inr (.inr (.inl rfl))))
  have hm : w'.heap[C.m]? = w.heap[C.m]? := hk _ ((h5 _).2 (.inr (.inr (.inr (.inl rfl)))))
  have hga : w'.heap[C.ga]? = w.heap[C.ga]? := hk _ ((h5 _).2 (.inr (.inr (.inr (.inr (.inl rfl))))))
  have hgr : w'.heap[C.gr]? = w.heap[C.gr]? := hk _ ((h5 _).2 (.inr (.inr (.inr (.inr (.inr rfl))))))
  have hM : MapAt w' C := by
    refine ⟨h2.ok, hm.trans h2.mb, own_move h2.ra (fun k hk => ?_), own_move h2.rr (fun k hk => ?_)⟩
    · have e : C.ga = k := by simpa [Value.ownBlock] using hk
      subst e
      exact hga
    · have e : C.gr = k := by simpa [Value.ownBlock] using hk
      subst e
      exact hgr
  have hMem : Mo.Mem w' C l := by
    obtain ⟨n, hn⟩ := h3.head
    refine ⟨h3.ne, ⟨n, hs.trans hn⟩, own_move h3.row (fun k hk => ?_), h3.rng⟩
    have e : C.g = k := by simpa [Value.ownBlock] using hk
    subst e
    exact hg
  refine ⟨Dw, hl Dw w w' h1 (fun k hk' => hk k ((h5 k).2 (.inl hk'))), hM, hMem, ⟨hM, fun k hk' => ?_, hMem.lt, h4.ns, h4.ng, h4.nm, h4.na, h4.nr⟩, h5⟩
  have h6 := hk k ((h5 k).2 (.inl hk'))
  have h7 := h4.lt k hk'
  apply Classical.byContradiction
  intro h8
  rw [Array.getElem?_eq_getElem h7, Array.getElem?_eq_none (by omega)] at h6
  cases h6
theorem lift {C : Mo.Cx} {C0 : Cx} {f : Nat} {args : Array Value} {l l0 : Wds} {R : Asr} {Q : Value → Wds → Asr} (h : Mo.Ct C f args l R Q) : Ct C0 f args l0 (wrap C l R) fun u _ => fun D w => ∃ l', wrap C l' (Q u l') D w := by
  rintro w D ha hm ⟨Dw, h1, h2, h3, h4, h5⟩
  refine (h w Dw h4 h3 h1).mono ?_
  rintro e w' ⟨v, l', D', rfl, hm', hQ, hc, hD'⟩
  have hlt := h2.lt
  have no : ∀ b, ¬ Dw b → b < w.heap.size → ¬ D' b := fun b g1 g2 g3 => by
    rcases (hD' b g3).2 with g4 | g4
    · exact g1 g4
    · omega
  have hM : MapAt w' C := h2.chg hc (by
    rintro (g | g | g)
    · exact h4.nm.1 g
    · exact h4.nm.2.1 g
    · exact h4.nm.2.2 g) (by
    rintro (g | g | g)
    · exact h4.na.1 g
    · exact h4.na.2.1 g
    · exact h4.na.2.2 g) (by
    rintro (g | g | g)
    · exact h4.nr.1 g
    · exact h4.nr.2.1 g
    · exact h4.nr.2.2 g)
  have hsz := hc.size
  refine ⟨v, l0, fun k => D' k ∨ k = C.s ∨ k = C.g ∨ k = C.m ∨ k = C.ga ∨ k = C.gr, rfl, ⟨⟩, ⟨l', D', hQ, hM, hm', ⟨hM, fun k hk => (hD' k hk).1, hm'.lt, no _ h4.ns h4.ls.1, no _ h4.ng h4.ls.2, ⟨no _ h4.nm.1 hlt.1, h4.nm.2⟩, ⟨no _ h4.na.1 hlt.2.1, h4.na.2⟩, ⟨no _ h4.nr.1 hlt.2.2, h4.nr.2⟩⟩, fun k => Iff.rfl⟩, hc.mono ?_, fun k hk => ?_⟩
  · rintro k (g | g | g)
    · exact (h5 k).2 (.inl g)
    · exact (h5 k).2 (.inr (.inl g))
    · exact (h5 k).2 (.inr (.inr (.inl g)))
  · rcases hk with hk | rfl | rfl | rfl | rfl | rfl
    · have := hD' k hk
      exact ⟨this.1, this.2.imp (fun g => (h5 k).2 (.inl g)) id⟩
    · exact ⟨by have := h4.ls.1; omega, .inl ((h5 _).2 (.inr (.inl rfl)))⟩
    · exact ⟨by have := h4.ls.2; omega, .inl ((h5 _).2 (.inr (.inr (.inl rfl))))⟩
    · exact ⟨by have := hlt.1; omega, .inl ((h5 _).2 (.inr (.inr (.inr (.inl rfl)))))⟩
    · exact ⟨by have := hlt.2.1; omega, .inl ((h5 _).2 (.inr (.inr (.inr (.inr (.inl rfl))))))⟩
    · exact ⟨by have := hlt.2.2; omega, .inl ((h5 _).2 (.inr (.inr (.inr (.inr (.inr rfl))))))⟩
theorem lift_v {C : Mo.Cx} {C0 : Cx} {f : Nat} {args : List Value} {l l' l0 : Wds} {R R' : Asr} {v : Value} (h : Mo.Cv C f args l R v l' R') : Cv C0 f args l0 (wrap C l R) v l0 (wrap C l' R') := fun w D ha hm hR =>
  (lift (l0 := l0) h w D ha hm hR).mono fun e w' ⟨u, _, D', he, hm', ⟨m, Dw, ⟨h1, h2, h3⟩, h4⟩, hc, hD⟩ => by
    subst h1 h2
    exact ⟨u, l0, D', he, ⟨⟩, ⟨rfl, rfl, Dw, h3, h4⟩, hc, hD⟩
theorem lift_n {C : Mo.Cx} {C0 : Cx} {f : Nat} {args : List Value} {l l' l0 : Wds} {R : Asr} {R' : Nat → Asr} (h : Mo.Cn C f args l R l' R') : Cn C0 f args l0 (wrap C l R) l0 (fun q => wrap C l' (R' q)) := fun w D ha hm hR =>
  (lift (l0 := l0) h w D ha hm hR).mono fun e w' ⟨u, _, D', he, hm', ⟨m, Dw, ⟨q, h1, h2, h3⟩, h4⟩, hc, hD⟩ => by
    subst h2
    exact ⟨u, l0, D', he, ⟨⟩, ⟨q, h1, rfl, Dw, h3, h4⟩, hc, hD⟩
theorem lift_e {α : Type} {C : Mo.Cx} {C0 : Cx} {f : Nat} {args : List Value} {l l' l0 : Wds} {R : Asr} {v : α → Value} {P : α → Prop} {R' : α → Asr} (h : Mo.Ce C f args l R v l' P R') : Ce C0 f args l0 (wrap C l R) v l0 P (fun a => wrap C l' (R' a)) := fun w D ha hm hR =>
  (lift (l0 := l0) h w D ha hm hR).mono fun e w' ⟨u, _, D', he, hm', ⟨m, Dw, ⟨a, h1, h2, h3, h4⟩, h5⟩, hc, hD⟩ => by
    subst h3
    exact ⟨u, l0, D', he, ⟨⟩, ⟨a, h1, h2, rfl, Dw, h4, h5⟩, hc, hD⟩
def WkL (R R' : Asr) : Prop := ∀ D w, (∀ k, D k → k < w.heap.size) → R D w → ∃ D', R' D' w ∧ ∀ k, D' k → D k
theorem WkL.of {R R' : Asr} (h : Wk R R') : WkL R R' := fun D w _ hR => h D w hR
theorem WkL.trans {R R' R'' : Asr} (h : WkL R R') (k : WkL R' R'') : WkL R R'' := fun D w hl h1 => by
  obtain ⟨D1, h2, h3⟩ := h D w hl h1
  obtain ⟨D2, h4, h5⟩ := k D1 w (fun x hx => hl x (h3 x hx)) h2
  exact ⟨D2, h4, fun x hx => h3 x (h5 x hx)⟩
theorem WkL.blk {x : Bk} {R R' : Asr} (h : WkL R R') : WkL (blk x R) (blk x R') := fun D w hl ⟨h1, D1, h2, h3, h4⟩ => by
  obtain ⟨D2, g1, g2⟩ := h D1 w (fun k hk => hl k ((h4 k).2 (.inr hk))) h2
  exact ⟨fun k => k = x.b ∨ D2 k, ⟨h1, D2, g1, fun h5 => h3 (g2 _ h5), fun _ => Iff.rfl⟩, fun k hk => (h4 k).2 (hk.imp id (g2 k))⟩
theorem WkL.blks {R R' : Asr} (h : WkL R R') : ∀ H, WkL (blks H R) (blks H R')
  | [] => h
  | x :: H => WkL.blk (WkL.blks h H)
section
variable {C : Cx} {w0 : World} {D0 : Dom} {l : Wds} {H H' : List Bk} {R R' : Asr} {Q : Exit → Act → World → Prop} {n : Nat} {r : List Code} {e : Env}
theorem Sy.rebL {w : World} (h : Sy C w0 D0 l H R w) (hl : Loc R') (hk : WkL (Mo.blks H R) (Mo.blks H' R')) : Sy C w0 D0 l H' R' w := by
  obtain ⟨D, h1, h2⟩ := h.rep
  obtain ⟨D', h3, h4⟩ := hk D w (fun k hk => (h2 k hk).1) h1
  exact ⟨h.amb, h.chg, h.mem, hl, D', h3, fun k hk => h2 k (h4 k hk)⟩
theorem T.rebL (hl : Loc R') (hk : WkL (Mo.blks H R) (Mo.blks H' R')) (h : T Q n r (Sy C w0 D0 l H' R') e) : T Q n r (Sy C w0 D0 l H R) e := T.conv (fun w hS => hS.rebL hl hk) h
end
theorem wrap_mk {s g cap : Nat} {K : Mo.Cx} {ra rr grest : List Value} {l : Wds} {R : Asr} (hK : LayOk K ra rr) (hr : Rng l) (hc : l.length ≤ cap) (hcm : cap ≤ maxLen) (hlen : l.length + grest.length = cap) :
    WkL (blks (⟨s, 113, [slv g l.length cap, .int .i64 0]⟩ :: ⟨g, 90, u64s l ++ grest⟩ :: LayB K ra rr) R) (wrap ⟨s, g, cap, K.m, K.ga, K.gr, K.ca, K.cr, K.M⟩ l R) := fun D w hlt h => by
  obtain ⟨hp, hm, DR, h1, h2, h3⟩ := blks_all h
  have hs := hm ⟨s, 113, [slv g l.length cap, .int .i64 0]⟩ (by simp)
  have hg := hm ⟨g, 90, u64s l ++ grest⟩ (by simp)
  have hmm := hm ⟨K.m, 109, K.mcells.toList⟩ (by simp [LayB])
  have hga := hm ⟨K.ga, 3, i64s K.M.at_ ++ ra⟩ (by simp [LayB])
  have hgr := hm ⟨K.gr, 3, i64s K.M.room ++ rr⟩ (by simp [LayB])
  have hL := Wk.tail.trans Wk.tail D w h
  obtain ⟨DL, hL, -⟩ := hL
  have hMap0 : MapAt w K := MapAt.of hK hL
  have hMap : MapAt w ⟨s, g, cap, K.m, K.ga, K.gr, K.ca, K.cr, K.M⟩ := ⟨hMap0.ok, hMap0.mb, hMap0.ra, hMap0.rr⟩
  simp only [LayB, List.pairwise_cons] at hp
  obtain ⟨p1, p2, p3, p4, -⟩ := hp
  have e1 : s ≠ g := p1 ⟨g, 90, u64s l ++ grest⟩ (by simp)
  have e2 : s ≠ K.m := p1 ⟨K.m, 109, K.mcells.toList⟩ (by simp)
  have e3 : s ≠ K.ga := p1 ⟨K.ga, 3, i64s K.M.at_ ++ ra⟩ (by simp)
  have e4 : s ≠ K.gr := p1 ⟨K.gr, 3, i64s K.M.room ++ rr⟩ (by simp)
  have e5 : g ≠ K.m := p2 ⟨K.m, 109, K.mcells.toList⟩ (by simp)
  have e6 : g ≠ K.ga := p2 ⟨K.ga, 3, i64s K.M.at_ ++ ra⟩ (by simp)
  have e7 : g ≠ K.gr := p2 ⟨K.gr, 3, i64s K.M.room ++ rr⟩ (by simp)
  have hMem : Mo.Mem w ⟨s, g, cap, K.m, K.ga, K.gr, K.ca, K.cr, K.M⟩ l := by
    refine ⟨e1.symm, ⟨0, hs.1⟩, ?_, hr⟩
    exact own_blk hg.1 hc hcm (by rw [List.length_map, Nat.mul_one]; exact hlen) (by rw [List.length_map, Nat.mul_one])
  refine ⟨fun k => DR k ∨ k = s ∨ k = g ∨ k = K.m ∨ k = K.ga ∨ k = K.gr, ⟨DR, h1, hMap, hMem, ⟨hMap, fun k hk => hlt k (h3 k hk), hMem.lt, ?_, ?_, ⟨?_, e2.symm, e5.symm⟩, ⟨?_, e3.symm, e6.symm⟩, ⟨?_, e4.symm, e7.symm⟩⟩, fun k => Iff.rfl⟩, fun k hk => ?_⟩
  · exact h2 ⟨s, 113, [slv g l.length cap, .int .i64 0]⟩ (by simp)
  · exact h2 ⟨g, 90, u64s l ++ grest⟩ (by simp)
  · exact h2 ⟨K.m, 109, K.mcells.toList⟩ (by simp [LayB])
  · exact h2 ⟨K.ga, 3, i64s K.M.at_ ++ ra⟩ (by simp [LayB])
  · exact h2 ⟨K.gr, 3, i64s K.M.room ++ rr⟩ (by simp [LayB])
  · rcases hk with hk | rfl | rfl | rfl | rfl | rfl
    · exact h3 k hk
    · exact hs.2
    · exact hg.2
    · exact hmm.2
    · exact hga.2
    · exact hgr.2
theorem wrap_in1 {C : Mo.Cx} {l : Wds} {R : Asr} {x : Bk} : WkL (Mo.blk x (wrap C l R)) (wrap C l (Mo.blk x R)) := fun D w hlt ⟨h1, D1, ⟨Dw, g1, g2, g3, g4, g5⟩, h3, h4⟩ => by
  have ne : ∀ b, D1 b → b ≠ x.b := fun b hb e => h3 (e ▸ hb)
  have hs := ne C.s ((g5 _).2 (.inr (.inl rfl)))
  have hg := ne C.g ((g5 _).2 (.inr (.inr (.inl rfl))))
  have hm := ne C.m ((g5 _).2 (.inr (.inr (.inr (.inl rfl)))))
  have hga := ne C.ga ((g5 _).2 (.inr (.inr (.inr (.inr (.inl rfl))))))
  have hgr := ne C.gr ((g5 _).2 (.inr (.inr (.inr (.inr (.inr rfl))))))
  have no : ∀ b, b ≠ x.b → ¬ Dw b → ¬ (b = x.b ∨ Dw b) := fun b e1 e2 e3 => e3.elim e1 e2
  refine ⟨D, ⟨fun k => k = x.b ∨ Dw k, ⟨h1, Dw, g1, fun hk => h3 ((g5 _).2 (.inl hk)), fun k => Iff.rfl⟩, g2, g3, ⟨g2, fun k hk => ?_, g4.ls, no _ hs g4.ns, no _ hg g4.ng, ⟨no _ hm g4.nm.1, g4.nm.2⟩, ⟨no _ hga g4.na.1, g4.na.2⟩, ⟨no _ hgr g4.nr.1, g4.nr.2⟩⟩, fun k => ?_⟩, fun _ h => h⟩
  · rcases hk with rfl | hk
    · exact hlt _ ((h4 _).2 (.inl rfl))
    · exact g4.lt k hk
  · rw [h4, g5, or_assoc]
theorem wrap_in {C : Mo.Cx} {l : Wds} {R : Asr} : ∀ (H : List Bk), WkL (Mo.blks H (wrap C l R)) (wrap C l (Mo.blks H R))
  | [] => WkL.of (Wk.refl _)
  | x :: H => (WkL.blk (wrap_in H)).trans wrap_in1
theorem wrap_wk {C : Mo.Cx} {l : Wds} {R R' : Asr} (h : Wk R R') : Wk (wrap C l R) (wrap C l R') := fun D w ⟨Dw, g1, g2, g3, g4, g5⟩ => by
  obtain ⟨D2, h1, h2⟩ := h Dw w g1
  refine ⟨fun k => D2 k ∨ k = C.s ∨ k = C.g ∨ k = C.m ∨ k = C.ga ∨ k = C.gr, ⟨D2, h1, g2, g3, g4.sub h2, fun k => Iff.rfl⟩, fun k hk => (g5 k).2 (hk.imp (h2 k) id)⟩
theorem wrap_eq {C : Mo.Cx} {l : Wds} {R R' : Asr} (h : R = R') : Wk (wrap C l R) (wrap C l R') := by
  subst h
  exact Wk.refl _
end Go.Proofs.YtmpcfamcbaineaaGreat.Mo.Mp
namespace Go.Proofs.YtmpcfamcbaineaaGreat.Mo
open Go.RowKit Go.Proofs.YtmpcfamcbaineaaGreat.Mo
set_option linter.unusedVariables false
set_option linter.unusedSimpArgs false
def mksN (M : MapM) : Nat → List Mk
  | 0 => []
  | i + 1 => mksN M i ++ [.new M i]
def musN (M : MapM) (ps : List (List MOp)) : Nat → List Mu
  | 0 => []
  | i + 1 => musN M ps i ++ [.new M i (ps.getD i [])]
theorem mksN_eq (M : MapM) : ∀ n, mksN M n = (List.range n).map fun (i : Nat) => Mk.new M i
  | 0 => rfl
  | n + 1 => by rw [mksN, mksN_eq M n, List.range_succ, List.map_append]; rfl
theorem musN_eq (M : MapM) (ps : List (List MOp)) : ∀ n, musN M ps n = (List.range n).map fun (i : Nat) => Mu.new M i (ps.getD i [])
  | 0 => rfl
  | n + 1 => by rw [musN, musN_eq M ps n, List.range_succ, List.map_append]; rfl
theorem mksN_len (M : MapM) : ∀ n, (mksN M n).length = n
  | 0 => rfl
  | n + 1 => by simp [mksN, mksN_len M n]
theorem musN_len (M : MapM) (ps : List (List MOp)) : ∀ n, (musN M ps n).length = n
  | 0 => rfl
  | n + 1 => by simp [musN, musN_len M ps n]
theorem mks_snoc {C : Cx} {qs : List Nat} {ms : List Mk} {q : Nat} {m : Mk} (h : qs.length = ms.length) : MksR C (qs ++ [q]) (ms ++ [m]) = sep (MksR C qs ms) (MkR C q m) := by
  unfold MksR
  rw [List.zipWith_append h, sepL_app]
  show sep _ (sep (MkR C q m) emp) = _
  rw [sep_emp]
theorem mus_snoc {C : Cx} {qs : List Nat} {ms : List Mu} {q : Nat} {m : Mu} (h : qs.length = ms.length) : MusR C (qs ++ [q]) (ms ++ [m]) = sep (MusR C qs ms) (MuR C q m) := by
  unfold MusR
  rw [List.zipWith_append h, sepL_app]
  show sep _ (sep (MuR C q m) emp) = _
  rw [sep_emp]
theorem mk_step_eq {C : Cx} {qs : List Nat} {ms : List Mk} {q : Nat} {m : Mk} {R : Asr} (h : qs.length = ms.length) : sep (MkR C q m) (sep (MksR C qs ms) R) = sep (MksR C (qs ++ [q]) (ms ++ [m])) R := by
  rw [mks_snoc h, ← sep_assoc, sep_comm (MkR C q m)]
theorem mu_step_eq {C : Cx} {qs : List Nat} {ms : List Mu} {q : Nat} {m : Mu} {A R : Asr} (h : qs.length = ms.length) : sep (MuR C q m) (sep A (sep (MusR C qs ms) R)) = sep A (sep (MusR C (qs ++ [q]) (ms ++ [m])) R) := by
  rw [mus_snoc h, ← sep_assoc, sep_comm (MuR C q m), sep_assoc, ← sep_assoc (MuR C q m), sep_comm (MuR C q m)]
theorem Rng.set {l : Wds} (h : Rng l) (a : Nat) {v : Int} (hv : u64R v) : Rng (l.set a v) := put_rng h a v hv
theorem linkUp_rng {M : MapM} : ∀ (n p : Nat) (l : Wds), n + p ≤ 100000 → Rng l → Rng (linkUp M n p l)
  | 0, _, _, _, h => h
  | n + 1, p, l, hp, h => linkUp_rng n (p + 1) _ (by omega) (h.set _ (by unfold u64R; omega))
theorem freeUp_rng {M : MapM} : ∀ (n : Nat) (l : Wds), n ≤ 100000 → Rng l → Rng (freeUp M n l)
  | 0, _, _, h => h
  | n + 1, l, hn, h => freeUp_rng n _ (by omega) ((h.set _ (h _)).set _ (by unfold u64R; omega))
theorem first_rng {c : Cfg} (h : c.Ok) : Rng c.map.first := by
  obtain ⟨h1, -, -⟩ := Cfg.nums h
  have hn := h.nodes
  have hr := map_room_rng h (v := c.nodes) (by omega)
  have h0 : Rng ((List.replicate c.map.all.toNat 0).set 5 1) := by
    refine Rng.set (fun i => ?_) 5 (by unfold u64R; omega)
    rw [List.getD_eq_getElem?_getD, List.getElem?_replicate]
    split <;> simp
  refine freeUp_rng _ _ (by show (c.nodes - 1).toNat ≤ 100000; omega) (Rng.set (Rng.set (linkUp_rng _ _ _ (by show (c.many - 1).toNat + 1 ≤ 100000; omega) h0) _ (by unfold u64R; omega)) _ ?_)
  show u64R (c.map.Room c.nodes)
  unfold u64R
  omega
theorem l113 : layB 113 [(0, 1), (1, 1)] = true := by kernel_rfl
theorem s46 : slcB 46 66 1 = true := by kernel_rfl
theorem u46_dSlice : undIs 46 (dSlice) = true := by kernel_rfl
theorem z113 : zer 113 = some [.slice none 0 0, .int .i64 0] := by kernel_rfl
end Go.Proofs.YtmpcfamcbaineaaGreat.Mo
namespace Go.Proofs.YtmpcfamcbaineaaGreat.Mo.Mp
open Go.RowKit Go.Proofs.YtmpcfamcbaineaaGreat.Mo
set_option linter.unusedVariables false
set_option linter.unusedSimpArgs false
set_option maxHeartbeats 1000000 in
theorem ct_clone52 {C : Cx} {l : Wds} {b k c : Nat} {news rest : List Value} (hk : 0 < k ∧ k ≤ 1000000) (hcs : news.length = k * 1) :
  Ce (α := Nat × List Value × Nat) C 52 [.slice (some ⟨b, 0, none⟩) k c] l (blks [⟨b, 90, news ++ rest⟩] emp) (fun a => .slice (some ⟨a.1, 0, none⟩) k a.2.2) l (fun a => (k ≤ a.2.2 ∧ news.length + a.2.1.length = a.2.2 * 1) ∧ a.2.2 ≤ maxLen) (fun a => blks [⟨a.1, 90, news ++ a.2.1⟩, ⟨b, 90, news ++ rest⟩] emp) := by
 refine Ct.of (vs := [.slice (some ⟨b, 0, none⟩) k c]) Tryz.func52 rfl Tryz.ntmps52 (by simp) (loc_blks loc_emp _) ?_
 intro w0 D0
 refine T.conv (fun w h => Sy.opens (H2 := [_]) h loc_emp) <| T.seq <| tx [0] nf Z Z <| xas Z Z Z <| X.nil <| T.seq <| T.seq <| tx [0,1] nf Z Z <| xmv Z Z Z <| xeqs (b := false) Z Z Z Z u43_dSlice Z <| X.nil <| T.no Z <| T.skip <| T.seq ?_
 refine tx [0,1,2,3] (ct [0,2]) Z Z <| xbs0 Z Z s43 (fun _ => pend0) (fun b0 => ?_)
 refine xmv Z Z Z <| xapz (cs := news) (rest := rest) Z Z Z s43 (.s .z) hk hcs (fun _ _ => pend0) (fun q rs m hm => ?_)
 refine xas Z Z Z <| X.nil <| T.ret1 Z (fun W D h => ?_)
 obtain ⟨D1, h1, h2⟩ := blks_pick [0, 2] (by decide) h
 exact ⟨D1, ⟨(q, rs, m), rfl, hm, rfl, h1⟩, h2⟩
theorem Ce.sepB {α : Type} {C : Cx} {f : Nat} {args : List Value} {l l' : Wds} {H H2 : List Bk} {F : Asr} {v : α → Value} {P : α → Prop} {B : α → List Bk} (h : Ce C f args l (blks H emp) v l' P (fun a => blks (B a) emp)) (hF : Loc F) : Ce C f args l (blks (H ++ H2) F) v l' P (fun a => blks (B a ++ H2) F) := by
 have := Ce.sepF h (F := blks H2 F) (loc_blks hF H2)
 simp only [blks_sep, emp_sep, ← blks_app] at this
 exact this
set_option maxHeartbeats 1000000 in
theorem ct_cellsNew {C : Cx} {l : Wds} {b c : Nat} {ws : List Int} (hk : 0 < ws.length ∧ ws.length ≤ 1000000) :
  Ce (α := Nat × Nat × List Value × Nat) C 24 [slv b ws.length c] l (blks [⟨b, 90, u64s ws⟩] emp) (fun a => ptr a.1) l (fun a => (ws.length ≤ a.2.2.2 ∧ ws.length + a.2.2.1.length = a.2.2.2) ∧ a.2.2.2 ≤ maxLen) (fun a => blks [⟨a.1, 113, [slv a.2.1 ws.length a.2.2.2, .int .i64 0]⟩, ⟨a.2.1, 90, u64s ws ++ a.2.2.1⟩] emp) := by
 refine Ct.of (vs := [slv b ws.length c]) Tryz.func24 rfl Tryz.ntmps24 (by simp) (loc_blks loc_emp _) ?_
 intro w0 D0
 refine T.conv (fun w h => Sy.opens (H2 := [_]) h loc_emp) <| T.reb (H' := [⟨b, 90, u64s ws ++ []⟩]) (R' := emp) loc_emp (by rw [List.append_nil]; exact Wk.refl _) <| T.seq <| tx [0] nf Z Z <| xas Z Z Z <| X.nil <| T.seq <| tx [0,1,2,3,4] (ct [1,3]) Z Z ?_
 refine xmv Z Z Z ?_
 refine xcx (H1 := []) (H2 := [_]) (B := fun (a : Nat × List Value × Nat) => [⟨a.1, 90, u64s ws ++ a.2.1⟩, ⟨b, 90, u64s ws ++ []⟩]) Z Z Z Z g52 Z (ct_clone52 (news := u64s ws) (rest := []) hk (by simp [u64s])) (fun _ => loc_emp) (fun a0 ha0 => pend0) (fun a0 ha0 => ?_)
 refine xbd Z Z Z l113 z113 Z <| xbx Z Z Z Z (fun _ => pend0) (fun b1 => ?_)
 refine xas Z Z Z <| X.nil <| T.ret1 Z (fun W D h => ?_)
 obtain ⟨D1, h1, h2⟩ := blks_pick [0, 1] (by decide) h
 exact ⟨D1, ⟨(b1, a0), rfl, ⟨⟨ha0.1.1, by have := ha0.1.2; simpa [u64s] using this⟩, ha0.2⟩, rfl, h1⟩, h2⟩
set_option maxHeartbeats 1000000 in
theorem ct_deNew {C : Cx} {l : Wds} {K : Mo.Cx} : Cn C 26 [ptr K.m] l emp l (fun q => DeR K q .new) := by
 refine Ct.of (vs := [ptr K.m]) Tryz.func26 rfl Tryz.ntmps26 (by simp) loc_emp ?_
 intro w0 D0
 refine T.seq <| tx [0] nf Z Z <| xas Z Z Z <| X.nil <| T.seq <| tx [0,1,2,3] (ct [2]) Z Z <| xmv Z Z Z <| xbd Z Z Z l117 z117 Z <| xbx Z Z Z Z (fun _ => pend0) (fun b0 => ?_)
 refine xas Z Z Z <| X.nil <| T.ret1 Z (fun W D h => ?_)
 exact ⟨D, ⟨_, rfl, rfl, h⟩, fun _ hk => hk⟩
end Go.Proofs.YtmpcfamcbaineaaGreat.Mo.Mp
namespace Go.Proofs.YtmpcfamcbaineaaGreat.Mo
open Go.RowKit Go.Proofs.YtmpcfamcbaineaaGreat.Mo
set_option linter.unusedVariables false
set_option linter.unusedSimpArgs false
theorem g23 : fnB 23 = true := by kernel_rfl
theorem g24 : fnB 24 = true := by kernel_rfl
theorem g25 : fnB 25 = true := by kernel_rfl
theorem g26 : fnB 26 = true := by kernel_rfl
theorem g27 : fnB 27 = true := by kernel_rfl
theorem g28 : fnB 28 = true := by kernel_rfl
theorem l80 : layB 80 [(0, 1), (1, 1), (2, 1), (3, 1), (4, 1), (5, 1)] = true := by kernel_rfl
theorem z80 : zer 80 = some [.pointer none, .pointer none, .slice none 0 0, .slice none 0 0, .pointer none, .slice none 0 0] := by kernel_rfl
theorem z81 : zer 81 = some [.pointer none] := by kernel_rfl
theorem z83 : zer 83 = some [.pointer none] := by kernel_rfl
end Go.Proofs.YtmpcfamcbaineaaGreat.Mo
namespace Go.Proofs.YtmpcfamcbaineaaGreat.Mo.Mp
open Go.RowKit Go.Proofs.YtmpcfamcbaineaaGreat.Mo
set_option linter.unusedVariables false
set_option linter.unusedSimpArgs false
theorem ct_First0 {C : Cx} {l : Wds} {c : Cfg} {K : Mo.Cx} {ra rr : List Value} (hc : c.Ok) (hok : LayOk K ra rr) (hK : K.M = c.map) : Ce (α := Nat) C 25 [ptr K.m] l (blks (LayB K ra rr) emp) (fun q => slv q c.map.first.length c.map.first.length) l (fun _ => True) (fun q => blks (⟨q, 90, u64s c.map.first⟩ :: LayB K ra rr) emp) := by
 have := ct_First (C := C) (l := l) hc hK hok
 rw [first_len]
 exact this
set_option maxHeartbeats 20000000 in
theorem ct_woNew {C : Cx} {l : Wds} {c : Cfg} (hok : c.ok = true) : Ce (α := Mo.Cx × Nat) C 7 [.agg c.cells.toArray, .slice none 0 0] l emp (fun a => .tuple #[ptr a.2, .int .i64 0]) l (fun a => a.1.M = c.map) (fun a => wrap a.1 c.map.first (WoR a.1 a.2 (Wo.new c.map []))) := by
 have hc := Cfg.Ok.of hok
 have hn := hc.nodes
 have hd1 := hc.markers
 have hd2 := hc.mutators
 have hMok := Cfg.map_ok hc
 obtain ⟨hn1, hn2, hn3⟩ := Cfg.nums hc
 have hn4 : c.node0 = 6 + c.mutators + 5 + c.markers * (2 + c.deque) + c.many * 6 := rfl
 have hall := all_rng hc
 have hfl : 0 < c.map.first.length ∧ c.map.first.length ≤ 1000000 := by rw [first_len]; omega
 refine Ct.of (vs := [.agg c.cells.toArray, .slice none 0 0]) Tryz.func7 rfl Tryz.ntmps7 (by simp) loc_emp ?_
 intro w0 D0
 refine T.seq <| tx [0,1,2] (ct [0]) Z Z <| xbx Z Z Z Z (fun _ => pend0) (fun b0 => ?_)
 refine xas Z Z Z <| xas Z Z Z <| X.nil <| T.seq <| tx [0,1,2,3,4,5,6] (ct [1]) Z Z <| xlda Z Z Z m24 .z Z ?_
 refine xcx (H1 := [_]) (H2 := []) (B := fun (a : Mo.Cx × List Value × List Value) => LayB a.1 a.2.1 a.2.2) Z Z Z Z g23 Z (ct_layNew hok) (fun _ => loc_emp) (fun a1 ha1 => pend0) (fun a1 ha1 => ?_)
 refine xmv Z Z Z <| xex Z Z Z Z <| xex Z Z Z Z <| xas Z Z Z <| xas Z Z Z <| X.nil <| T.seq <| T.seq ?_
 obtain ⟨⟨ks, kg, kc, km, ga, gr, ca, cr, M⟩, ra, rr⟩ := a1
 obtain ⟨hM1, hlay⟩ := ha1
 obtain rfl : M = c.map := hM1
 refine tx [0,1] nf Z Z <| xmv Z Z Z <| xcm (c := false) Z Z Z Z Z (Z) <| X.nil <| T.no Z <| T.skip <| T.seq <| tx [0,1,2,3,4,5,6,7,8] (ct [2,3,5,7]) Z Z <| xmv Z Z Z <| xmv Z Z Z ?_
 refine xcx (H1 := [_]) (H2 := [_, _, _]) (B := fun (q : Nat) => ⟨q, 90, u64s c.map.first⟩ :: LayB ⟨ks, kg, kc, km, ga, gr, ca, cr, c.map⟩ ra rr) Z Z Z Z g25 Z (ct_First0 hc hlay rfl) (fun _ => loc_emp) (fun a2 ha2 => pend0) (fun a2 ha2 => ?_)
 refine xcx (H1 := [_]) (H2 := [_, _, _, _]) (B := fun (a : Nat × Nat × List Value × Nat) => [⟨a.1, 113, [slv a.2.1 c.map.first.length a.2.2.2, .int .i64 0]⟩, ⟨a.2.1, 90, u64s c.map.first ++ a.2.2.1⟩] ++ LayB ⟨ks, kg, kc, km, ga, gr, ca, cr, c.map⟩ ra rr) Z Z Z Z g24 Z (Ce.sepB (H2 := LayB ⟨ks, kg, kc, km, ga, gr, ca, cr, c.map⟩ ra rr) (ct_cellsNew (ws := c.map.first) hfl) loc_emp) (fun _ => loc_emp) (fun a3 ha3 => pend0) (fun a3 ha3 => ?_)
 refine xmv Z Z Z <| xcn Z Z Z Z g26 (ct_deNew (K := ⟨ks, kg, kc, km, ga, gr, ca, cr, c.map⟩)) (fun _ => loc_DeR) (fun _ => pend0) (fun q4 => ?_)
 refine xbd Z Z Z l80 z80 Z <| xbx Z Z Z Z (fun _ => pend0) (fun b5 => ?_)
 refine xas Z Z Z <| X.nil <| T.seq <| T.seq ?_
 obtain ⟨sb, gb, grest, gcap⟩ := a3
 refine T.rebL (H' := [_, _]) (R' := wrap (⟨sb, gb, gcap, km, ga, gr, ca, cr, c.map⟩ : Mo.Cx) c.map.first (DeR (⟨sb, gb, gcap, km, ga, gr, ca, cr, c.map⟩ : Mo.Cx) q4 .new)) (loc_wrap loc_DeR) (WkL.blks (wrap_mk hlay (first_rng hc) ha3.1.1 ha3.2 ha3.1.2) [_, _]) ?_
 refine tx [0,1,2] nf Z Z <| xfa Z Z Z f24_1 <| xld Z Z Z o3 (.s .z) Z <| xmv Z Z Z <| X.nil <| T.block ?_
 refine T.loop (fun (x : Nat × Value × List Bk × List Nat) w => ((x.1 : Int) ≤ c.markers ∧ SlV 81 1 x.2.1 x.1 (ptrs x.2.2.2) x.2.2.1 ∧ x.2.2.2.length = x.1) ∧ Sy C w0 D0 l (⟨b5, 80, [ptr km, ptr sb, x.2.1, .slice none 0 0, ptr q4, .slice none 0 0]⟩ :: ⟨b0, 24, c.cells⟩ :: x.2.2.1) (wrap (⟨sb, gb, gcap, km, ga, gr, ca, cr, c.map⟩ : Mo.Cx) c.map.first (sep (MksR (⟨sb, gb, gcap, km, ga, gr, ca, cr, c.map⟩ : Mo.Cx) x.2.2.2 (mksN c.map x.1)) (DeR (⟨sb, gb, gcap, km, ga, gr, ca, cr, c.map⟩ : Mo.Cx) q4 .new))) w) (fun x => [(30, .int .i64 ((x.1 : Nat) : Int)), (29, .int .i64 c.markers), (8, ptr b5), (6, ptr km), (2, ptr b0), (1, .slice none 0 0)]) (fun x => c.markers.toNat - x.1) (0, .slice none 0 0, [], []) (fun w h => ⟨⟨by show ((0 : Nat) : Int) ≤ c.markers; omega, SlV.nil, rfl⟩, by show Sy C w0 D0 l _ (wrap _ _ (sep emp _)) w; rw [emp_sep]; exact h⟩) ⟨Z, Z, Z, Z, Z, Z, trivial⟩ ?_
 rintro ⟨i, mv, MB, qs⟩ g
 refine T.pure ?_
 rintro ⟨hi, hR, hql⟩
 simp only at hi hR hql
 have hF1 : Loc (sep (MksR (⟨sb, gb, gcap, km, ga, gr, ca, cr, c.map⟩ : Mo.Cx) qs (mksN c.map i)) (DeR (⟨sb, gb, gcap, km, ga, gr, ca, cr, c.map⟩ : Mo.Cx) q4 .new)) := loc_sep loc_MksR loc_DeR
 refine T.seq <| tx [0] nf Z Z <| xcm Z Z Z Z Z Z <| X.nil <| T.seq <| T.cond Z ?_ ?_
 ·intro hb0
  have him : ((i : Nat) : Int) < c.markers := of_decide_eq_true hb0
  refine T.skip <| T.seq <| T.block <| T.seq <| tx [0,1] nf Z Z <| xmv Z Z Z <| xas Z Z Z <| X.nil ?_
  refine T.any (ord := [0, 1, 2, 3, 4, 5, 6, 7, 8, 9, 10, 11, 12]) (lo := (fun i => [0, 1, 2, 3, 4].contains i)) (ef := (fun i => [7, 8, 9, 12].contains i)) (by kernel_rfl) (fun _ h => h.drew) <| xmv Z Z Z <| xmv Z Z Z <| xnc Z Z Z <| xfa Z Z Z f80_2 ?_
  refine xld Z Z Z o77 .z Z <| xmv Z Z Z <| xmv Z Z Z ?_
  refine xcnw Z Z Z Z g27 (lift_n (Mo.Cn.fr (ct_mkNew (C := (⟨sb, gb, gcap, km, ga, gr, ca, cr, c.map⟩ : Mo.Cx)) hMok (show 0 ≤ ((i : Nat) : Int) ∧ ((i : Nat) : Int) < c.markers by omega)) hF1)) (fun _ => loc_wrap (loc_sep loc_MkR hF1)) (fun _ => (pxld Z Z o77 .z Z (pxfa Z Z f80_2 (pxnc Z Z (pendmv Z Z (pendmv Z Z pend0)))))) (fun q6 => ?_)
  refine xbs Z Z Z s77 z81 (by decide) Z Z Z (fun _ => (pxld Z Z o77 (.s .z) Z (pxfa Z Z f80_2 (pxnc Z Z (pendmv Z Z (pendmv Z Z pend0)))))) (fun b7 => ?_)
  refine xapv (n := 1) (news := [ptr q6]) (rest2 := []) (Hr := [_, _, _]) (cn := ptrs (qs ++ [q6])) (kn := i + 1) hR Z Z Z s77 Z .z Z (by simp [isCell]) ⟨by omega, by omega, by omega, by omega⟩ (by simp [ptrs]) Z (fun _ => (pxld Z Z o77 (.s .z) Z (pxfa Z Z f80_2 (pxnc Z Z (pendmv Z Z (pendmv Z Z pend0)))))) (fun v' B' hR' => ?_)
  refine xnc Z Z Z <| xfa Z Z Z f80_2 <| xst Z Z Z Z o77 hR'.cell (.s .z) Z (.s .z) (pendsk (by kernel_rfl) (pendsk (by kernel_rfl) (pendsk (by kernel_rfl) (pendsk (by kernel_rfl) (pendsk (by kernel_rfl) pend0))))) <| X.nil <| T.blk_end <| tx [0,1] nf Z Z ?_
  refine xarc (c := ((i + 1 : Nat) : Int)) Z Z Z Z Z (by simp only [ari]; rw [IntWalk.i64_in _ (by omega)]; omega) <| xmv Z Z Z <| X.nil ?_
  exact T.lq_end (i + 1, v', B', qs ++ [q6]) (by show c.markers.toNat - (i + 1) < c.markers.toNat - i; omega) (fun w h => ⟨⟨by show ((i + 1 : Nat) : Int) ≤ c.markers; omega, hR', by show (qs ++ [_]).length = i + 1; rw [List.length_append, hql]; rfl⟩, h.reb (loc_wrap (loc_sep loc_MksR loc_DeR)) (Wk.tail.trans (Wk.blks (wrap_eq (mk_step_eq (by rw [mksN_len]; exact hql))) _))⟩) ⟨rfl, rfl, rfl, rfl, rfl, rfl, trivial⟩
 ·intro hb0
  have hie : ((i : Nat) : Int) = c.markers := by have : ¬ ((i : Nat) : Int) < c.markers := of_decide_eq_false hb0; omega
  obtain ⟨mb, mrest, mm, rfl, hr1, hr2, hr3, -, rfl⟩ := hR.resolve_left (fun h => by omega)
  have hr4 : (ptrs qs).length = qs.length := by simp [ptrs]
  refine T.exit ?_
  refine TE.lq_exit ?_
  refine TE.blk_exit ?_
  refine T.seq <| T.seq <| tx [0,1,2] nf Z Z <| xfa Z Z Z f24_2 <| xld Z Z Z o3 (.s .z) Z <| xmv Z Z Z <| X.nil <| T.block ?_
  refine T.loop (fun (x : Nat × Value × List Bk × List Nat) w => ((x.1 : Int) ≤ c.mutators ∧ SlV 83 1 x.2.1 x.1 (ptrs x.2.2.2) x.2.2.1 ∧ x.2.2.2.length = x.1) ∧ Sy C w0 D0 l (⟨b5, 80, [ptr km, ptr sb, slv mb i mm, x.2.1, ptr q4, .slice none 0 0]⟩ :: ⟨b0, 24, c.cells⟩ :: ⟨mb, 81, ptrs qs ++ mrest⟩ :: x.2.2.1) (wrap (⟨sb, gb, gcap, km, ga, gr, ca, cr, c.map⟩ : Mo.Cx) c.map.first (sep (MksR (⟨sb, gb, gcap, km, ga, gr, ca, cr, c.map⟩ : Mo.Cx) qs (mksN c.map i)) (sep (MusR (⟨sb, gb, gcap, km, ga, gr, ca, cr, c.map⟩ : Mo.Cx) x.2.2.2 (musN c.map [] x.1)) (DeR (⟨sb, gb, gcap, km, ga, gr, ca, cr, c.map⟩ : Mo.Cx) q4 .new)))) w) (fun x => [(48, .int .i64 ((x.1 : Nat) : Int)), (47, .int .i64 c.mutators), (8, ptr b5), (6, ptr km), (1, .slice none 0 0)]) (fun x => c.mutators.toNat - x.1) (0, .slice none 0 0, [], []) (fun w h => ⟨⟨by show ((0 : Nat) : Int) ≤ c.mutators; omega, SlV.nil, rfl⟩, by show Sy C w0 D0 l _ (wrap _ _ (sep _ (sep emp _))) w; rw [emp_sep]; exact h⟩) ⟨Z, Z, Z, Z, Z, trivial⟩ ?_
  rintro ⟨j, uv, UB, us⟩ g2
  refine T.pure ?_
  rintro ⟨hj, hU, hul⟩
  simp only at hj hU hul
  have hF2 : Loc (sep (MksR (⟨sb, gb, gcap, km, ga, gr, ca, cr, c.map⟩ : Mo.Cx) qs (mksN c.map i)) (sep (MusR (⟨sb, gb, gcap, km, ga, gr, ca, cr, c.map⟩ : Mo.Cx) us (musN c.map [] j)) (DeR (⟨sb, gb, gcap, km, ga, gr, ca, cr, c.map⟩ : Mo.Cx) q4 .new))) := loc_sep loc_MksR (loc_sep loc_MusR loc_DeR)
  refine T.seq <| tx [0] nf Z Z <| xcm Z Z Z Z Z Z <| X.nil <| T.seq <| T.cond Z ?_ ?_
  ·intro hb1
   have hjm : ((j : Nat) : Int) < c.mutators := of_decide_eq_true hb1
   refine T.skip <| T.seq <| T.block <| T.seq <| tx [0,1] nf Z Z <| xmv Z Z Z <| xas Z Z Z <| X.nil <| T.seq <| tx [0] nf Z Z <| xas Z Z Z <| X.nil <| T.seq <| T.seq <| tx [0,1,2,3] nf Z Z <| xmv Z Z Z <| xmv Z Z Z <| xlen Z Z Z u46_dSlice ?_
   refine xcm (c := false) Z Z Z Z Z (decide_eq_false (show ¬ ((j : Nat) : Int) < ((0 : Nat) : Int) by omega)) <| X.nil <| T.no Z <| T.skip ?_
   refine T.any (ord := [0, 1, 2, 3, 4, 5, 6, 7, 8, 9, 10, 11, 12, 13]) (lo := (fun i => [0, 1, 2, 3, 4].contains i)) (ef := (fun i => [8, 9, 10, 13].contains i)) (by kernel_rfl) (fun _ h => h.drew) <| xmv Z Z Z <| xmv Z Z Z <| xnc Z Z Z ?_
   refine xfa Z Z Z f80_3 <| xld Z Z Z o78 .z Z <| xmv Z Z Z <| xmv Z Z Z <| xmv Z Z Z ?_
   refine xcnw Z Z Z Z g28 (lift_n (Mo.Cn.fr (ct_muNew0 (C := (⟨sb, gb, gcap, km, ga, gr, ca, cr, c.map⟩ : Mo.Cx)) (ack_ge hc (show 0 ≤ ((j : Nat) : Int) ∧ ((j : Nat) : Int) < c.mutators by omega))) hF2)) (fun _ => loc_wrap (loc_sep loc_MuR hF2)) (fun _ => (pxld Z Z o78 .z Z (pxfa Z Z f80_3 (pxnc Z Z (pendmv Z Z (pendmv Z Z pend0)))))) (fun q8 => ?_)
   refine xbs Z Z Z s78 z83 (by decide) Z Z Z (fun _ => (pxld Z Z o78 (.s .z) Z (pxfa Z Z f80_3 (pxnc Z Z (pendmv Z Z (pendmv Z Z pend0)))))) (fun b9 => ?_)
   refine xapv (n := 1) (news := [ptr q8]) (rest2 := []) (Hr := [_, _, _, _]) (cn := ptrs (us ++ [q8])) (kn := j + 1) hU Z Z Z s78 Z .z Z (by simp [isCell]) ⟨by omega, by omega, by omega, by omega⟩ (by simp [ptrs]) Z (fun _ => (pxld Z Z o78 (.s .z) Z (pxfa Z Z f80_3 (pxnc Z Z (pendmv Z Z (pendmv Z Z pend0)))))) (fun v' B' hU' => ?_)
   refine xnc Z Z Z <| xfa Z Z Z f80_3 <| xst Z Z Z Z o78 hU'.cell (.s .z) Z (.s .z) (pendsk (by kernel_rfl) (pendsk (by kernel_rfl) (pendsk (by kernel_rfl) (pendsk (by kernel_rfl) (pendsk (by kernel_rfl) pend0))))) <| X.nil <| T.blk_end ?_
   refine tx [0,1] nf Z Z <| xarc (c := ((j + 1 : Nat) : Int)) Z Z Z Z Z (by simp only [ari]; rw [IntWalk.i64_in _ (by omega)]; omega) <| xmv Z Z Z <| X.nil ?_
   exact T.lq_end (j + 1, v', B', us ++ [q8]) (by show c.mutators.toNat - (j + 1) < c.mutators.toNat - j; omega) (fun w h => ⟨⟨by show ((j + 1 : Nat) : Int) ≤ c.mutators; omega, hU', by show (us ++ [_]).length = j + 1; rw [List.length_append, hul]; rfl⟩, h.reb (loc_wrap (loc_sep loc_MksR (loc_sep loc_MusR loc_DeR))) (Wk.tail.trans (Wk.blks (wrap_eq (mu_step_eq (by rw [musN_len]; exact hul))) _))⟩) ⟨rfl, rfl, rfl, rfl, rfl, trivial⟩
  ·intro hb1
   have hje : ((j : Nat) : Int) = c.mutators := by have : ¬ ((j : Nat) : Int) < c.mutators := of_decide_eq_false hb1; omega
   obtain ⟨ub, urest, um, rfl, hu1, hu2, hu3, -, rfl⟩ := hU.resolve_left (fun h => by omega)
   have hu4 : (ptrs us).length = us.length := by simp [ptrs]
   have hnew1 : (Wo.new c.map []).markers = mksN c.map i := by rw [mksN_eq, show i = c.markers.toNat by omega]; rfl
   have hnew2 : (Wo.new c.map []).mutators = musN c.map [] j := by rw [musN_eq, show j = c.mutators.toNat by omega]; rfl
   have fold_eq : ∀ {D : Dom} {w : World}, blks [⟨b5, 80, [ptr km, ptr sb, slv mb i mm, slv ub j um, ptr q4, .slice none 0 0]⟩, ⟨mb, 81, ptrs qs ++ mrest⟩, ⟨ub, 83, ptrs us ++ urest⟩] (sep (MksR (⟨sb, gb, gcap, km, ga, gr, ca, cr, c.map⟩ : Mo.Cx) qs (mksN c.map i)) (sep (MusR (⟨sb, gb, gcap, km, ga, gr, ca, cr, c.map⟩ : Mo.Cx) us (musN c.map [] j)) (DeR (⟨sb, gb, gcap, km, ga, gr, ca, cr, c.map⟩ : Mo.Cx) q4 .new))) D w → blks [woB (⟨sb, gb, gcap, km, ga, gr, ca, cr, c.map⟩ : Mo.Cx) b5 mb qs.length mm ub us.length um q4 (.slice none 0 0), mkB mb qs mrest, muB ub us urest] (sep (MksR (⟨sb, gb, gcap, km, ga, gr, ca, cr, c.map⟩ : Mo.Cx) qs (Wo.new c.map []).markers) (sep (MusR (⟨sb, gb, gcap, km, ga, gr, ca, cr, c.map⟩ : Mo.Cx) us (Wo.new c.map []).mutators) (DeR (⟨sb, gb, gcap, km, ga, gr, ca, cr, c.map⟩ : Mo.Cx) q4 (Wo.new c.map []).det))) D w := fun h => by rw [hnew1, hnew2, hql, hul]; exact h
   refine T.exit ?_
   refine TE.lq_exit ?_
   refine TE.blk_exit ?_
   refine T.seq ?_
   refine T.rebL (H' := []) (R' := wrap (⟨sb, gb, gcap, km, ga, gr, ca, cr, c.map⟩ : Mo.Cx) c.map.first (WoR (⟨sb, gb, gcap, km, ga, gr, ca, cr, c.map⟩ : Mo.Cx) b5 (Wo.new c.map []))) (loc_wrap loc_WoR) ((WkL.of (Wk.pick [0, 2, 3] (by decide))).trans ((wrap_in [_, _, _]).trans (WkL.of (wrap_wk (Wk.of fun D w h => ⟨⟨qs, us, mb, mrest, mm, ub, urest, um, q4, .slice none 0 0, []⟩, ⟨by rw [hnew1, mksN_len]; exact hql, by rw [hnew2, musN_len]; exact hul, by show qs.length + mrest.length = mm; omega, by show us.length + urest.length = um; omega, .inl ⟨rfl, rfl, rfl⟩⟩, fold_eq h⟩))))) ?_
   refine tx [0,1,2] nf Z Z <| xmv Z Z Z <| xas Z Z Z <| xas Z Z Z <| X.nil <| T.ret2 Z (fun W D h => ?_)
   exact ⟨D, ⟨((⟨sb, gb, gcap, km, ga, gr, ca, cr, c.map⟩ : Mo.Cx), b5), rfl, rfl, rfl, h⟩, fun _ hk => hk⟩
end Go.Proofs.YtmpcfamcbaineaaGreat.Mo.Mp
namespace Go.Proofs.YtmpcfamcbaineaaGreat.Mo
open Go.RowKit Go.Proofs.YtmpcfamcbaineaaGreat.Mo
set_option linter.unusedVariables false
set_option linter.unusedSimpArgs false
end Go.Proofs.YtmpcfamcbaineaaGreat.Mo
namespace Go.Proofs.YtmpcfamcbaineaaGreat.Mo.Mp
open Go.RowKit Go.Proofs.YtmpcfamcbaineaaGreat.Mo
set_option linter.unusedVariables false
set_option linter.unusedSimpArgs false
theorem Wk.back (H : List Bk) {x : Bk} {R : Asr} : Wk (Mo.blks (x :: H) R) (Mo.blks H (Mo.blk x R)) := fun D w h => by
 obtain ⟨D', h1, h2⟩ := blks_rotl h
 rw [blks_app] at h1
 exact ⟨D', h1, h2⟩
def pblk (x y : Bk) : Nat → List Bk
 | 0 => [x, y]
 | _ + 1 => []
theorem muNew1_fr {C : Mo.Cx} {l : Wds} {j : Nat} (hj : j = 0) {ops : List MOp} {ob oc : Nat} {orest : List Value} {F : Asr} (hack : C.M.Ack ((j : Nat) : Int) ≥ 0) (hne : ops ≠ []) (h64 : ops.length ≤ 64) (hoc : ops.length ≤ oc) (hk : ∀ o ∈ ops, o.kind = 0 ∨ o.kind = 3) (hF : Loc F) :
  Mo.Cn C 28 [ptr C.m, .int .i64 ((j : Nat) : Int), slv ob ops.length oc] l (Mo.blk ⟨ob, 65, opsC ops ++ orest⟩ F) l (fun q => sep (MuR C q (.new C.M ((j : Nat) : Int) (([ops] : List (List MOp)).getD j []))) F) := by
 subst hj
 have := Mo.Cn.sepF (ct_muNew1 (C := C) (l := l) (i := ((0 : Nat) : Int)) (ob := ob) (orest := orest) hack hne h64 hoc hk) hF
 rw [blks_sep, emp_sep] at this
 exact this
set_option maxHeartbeats 20000000 in
theorem ct_woNew1 {C : Cx} {l : Wds} {c : Cfg} {ops : List MOp} {pb ob oc : Nat} {orest : List Value} (hok : c.ok = true) (hmu : c.mutators = 1) (hne : ops ≠ []) (h64 : ops.length ≤ 64) (hoc : ops.length ≤ oc) (hkd : ∀ o ∈ ops, o.kind = 0 ∨ o.kind = 3) : Ce (α := Mo.Cx × Nat) C 7 [.agg c.cells.toArray, slv pb 1 1] l (blks [⟨pb, 66, [slv ob ops.length oc]⟩, ⟨ob, 65, opsC ops ++ orest⟩] emp) (fun a => .tuple #[ptr a.2, .int .i64 0]) l (fun a => a.1.M = c.map) (fun a => wrap a.1 c.map.first (WoR a.1 a.2 (Wo.new c.map [ops]))) := by
 have hc := Cfg.Ok.of hok
 have hn := hc.nodes
 have hd1 := hc.markers
 have hd2 := hc.mutators
 have hMok := Cfg.map_ok hc
 obtain ⟨hn1, hn2, hn3⟩ := Cfg.nums hc
 have hn4 : c.node0 = 6 + c.mutators + 5 + c.markers * (2 + c.deque) + c.many * 6 := rfl
 have hall := all_rng hc
 have hfl : 0 < c.map.first.length ∧ c.map.first.length ≤ 1000000 := by rw [first_len]; omega
 refine Ct.of (vs := [.agg c.cells.toArray, slv pb 1 1]) Tryz.func7 rfl Tryz.ntmps7 (by simp) (loc_blks loc_emp _) ?_
 intro w0 D0
 refine T.conv (fun w h => Sy.opens (H2 := [_, _]) h loc_emp) <| T.seq <| tx [0,1,2] (ct [0]) Z Z <| xbx Z Z Z Z (fun _ => pend0) (fun b0 => ?_)
 refine xas Z Z Z <| xas Z Z Z <| X.nil <| T.seq <| tx [0,1,2,3,4,5,6] (ct [1]) Z Z <| xlda Z Z Z m24 .z Z ?_
 refine xcx (H1 := [_, _, _]) (H2 := []) (B := fun (a : Mo.Cx × List Value × List Value) => LayB a.1 a.2.1 a.2.2) Z Z Z Z g23 Z (ct_layNew hok) (fun _ => loc_emp) (fun a1 ha1 => pend0) (fun a1 ha1 => ?_)
 refine xmv Z Z Z <| xex Z Z Z Z <| xex Z Z Z Z <| xas Z Z Z <| xas Z Z Z <| X.nil <| T.seq <| T.seq ?_
 obtain ⟨⟨ks, kg, kc, km, ga, gr, ca, cr, M⟩, ra, rr⟩ := a1
 obtain ⟨hM1, hlay⟩ := ha1
 obtain rfl : M = c.map := hM1
 refine tx [0,1] nf Z Z <| xmv Z Z Z <| xcm (c := false) Z Z Z Z Z (Z) <| X.nil <| T.no Z <| T.skip <| T.seq <| tx [0,1,2,3,4,5,6,7,8] (ct [2,3,5,7]) Z Z <| xmv Z Z Z <| xmv Z Z Z ?_
 refine xcx (H1 := [_, _, _]) (H2 := [_, _, _]) (B := fun (q : Nat) => ⟨q, 90, u64s c.map.first⟩ :: LayB ⟨ks, kg, kc, km, ga, gr, ca, cr, c.map⟩ ra rr) Z Z Z Z g25 Z (ct_First0 hc hlay rfl) (fun _ => loc_emp) (fun a2 ha2 => pend0) (fun a2 ha2 => ?_)
 refine xcx (H1 := [_, _, _]) (H2 := [_, _, _, _]) (B := fun (a : Nat × Nat × List Value × Nat) => [⟨a.1, 113, [slv a.2.1 c.map.first.length a.2.2.2, .int .i64 0]⟩, ⟨a.2.1, 90, u64s c.map.first ++ a.2.2.1⟩] ++ LayB ⟨ks, kg, kc, km, ga, gr, ca, cr, c.map⟩ ra rr) Z Z Z Z g24 Z (Ce.sepB (H2 := LayB ⟨ks, kg, kc, km, ga, gr, ca, cr, c.map⟩ ra rr) (ct_cellsNew (ws := c.map.first) hfl) loc_emp) (fun _ => loc_emp) (fun a3 ha3 => pend0) (fun a3 ha3 => ?_)
 refine xmv Z Z Z <| xcn Z Z Z Z g26 (ct_deNew (K := ⟨ks, kg, kc, km, ga, gr, ca, cr, c.map⟩)) (fun _ => loc_DeR) (fun _ => pend0) (fun q4 => ?_)
 refine xbd Z Z Z l80 z80 Z <| xbx Z Z Z Z (fun _ => pend0) (fun b5 => ?_)
 refine xas Z Z Z <| X.nil <| T.seq <| T.seq ?_
 obtain ⟨sb, gb, grest, gcap⟩ := a3
 refine T.rebL (H' := [_, _, _, _]) (R' := wrap (⟨sb, gb, gcap, km, ga, gr, ca, cr, c.map⟩ : Mo.Cx) c.map.first (DeR (⟨sb, gb, gcap, km, ga, gr, ca, cr, c.map⟩ : Mo.Cx) q4 .new)) (loc_wrap loc_DeR) (WkL.blks (wrap_mk hlay (first_rng hc) ha3.1.1 ha3.2 ha3.1.2) [_, _, _, _]) ?_
 refine tx [0,1,2] nf Z Z <| xfa Z Z Z f24_1 <| xld Z Z Z o3 (.s .z) Z <| xmv Z Z Z <| X.nil <| T.block ?_
 refine T.loop (fun (x : Nat × Value × List Bk × List Nat) w => ((x.1 : Int) ≤ c.markers ∧ SlV 81 1 x.2.1 x.1 (ptrs x.2.2.2) x.2.2.1 ∧ x.2.2.2.length = x.1) ∧ Sy C w0 D0 l (⟨b5, 80, [ptr km, ptr sb, x.2.1, .slice none 0 0, ptr q4, .slice none 0 0]⟩ :: ⟨b0, 24, c.cells⟩ :: ⟨pb, 66, [slv ob ops.length oc]⟩ :: ⟨ob, 65, opsC ops ++ orest⟩ :: x.2.2.1) (wrap (⟨sb, gb, gcap, km, ga, gr, ca, cr, c.map⟩ : Mo.Cx) c.map.first (sep (MksR (⟨sb, gb, gcap, km, ga, gr, ca, cr, c.map⟩ : Mo.Cx) x.2.2.2 (mksN c.map x.1)) (DeR (⟨sb, gb, gcap, km, ga, gr, ca, cr, c.map⟩ : Mo.Cx) q4 .new))) w) (fun x => [(30, .int .i64 ((x.1 : Nat) : Int)), (29, .int .i64 c.markers), (8, ptr b5), (6, ptr km), (2, ptr b0), (1, slv pb 1 1)]) (fun x => c.markers.toNat - x.1) (0, .slice none 0 0, [], []) (fun w h => ⟨⟨by show ((0 : Nat) : Int) ≤ c.markers; omega, SlV.nil, rfl⟩, by show Sy C w0 D0 l _ (wrap _ _ (sep emp _)) w; rw [emp_sep]; exact h⟩) ⟨Z, Z, Z, Z, Z, Z, trivial⟩ ?_
 rintro ⟨i, mv, MB, qs⟩ g
 refine T.pure ?_
 rintro ⟨hi, hR, hql⟩
 simp only at hi hR hql
 have hF1 : Loc (sep (MksR (⟨sb, gb, gcap, km, ga, gr, ca, cr, c.map⟩ : Mo.Cx) qs (mksN c.map i)) (DeR (⟨sb, gb, gcap, km, ga, gr, ca, cr, c.map⟩ : Mo.Cx) q4 .new)) := loc_sep loc_MksR loc_DeR
 refine T.seq <| tx [0] nf Z Z <| xcm Z Z Z Z Z Z <| X.nil <| T.seq <| T.cond Z ?_ ?_
 ·intro hb0
  have him : ((i : Nat) : Int) < c.markers := of_decide_eq_true hb0
  refine T.skip <| T.seq <| T.block <| T.seq <| tx [0,1] nf Z Z <| xmv Z Z Z <| xas Z Z Z <| X.nil ?_
  refine T.any (ord := [0, 1, 2, 3, 4, 5, 6, 7, 8, 9, 10, 11, 12]) (lo := (fun i => [0, 1, 2, 3, 4].contains i)) (ef := (fun i => [7, 8, 9, 12].contains i)) (by kernel_rfl) (fun _ h => h.drew) <| xmv Z Z Z <| xmv Z Z Z <| xnc Z Z Z <| xfa Z Z Z f80_2 ?_
  refine xld Z Z Z o77 .z Z <| xmv Z Z Z <| xmv Z Z Z ?_
  refine xcnw Z Z Z Z g27 (lift_n (Mo.Cn.fr (ct_mkNew (C := (⟨sb, gb, gcap, km, ga, gr, ca, cr, c.map⟩ : Mo.Cx)) hMok (show 0 ≤ ((i : Nat) : Int) ∧ ((i : Nat) : Int) < c.markers by omega)) hF1)) (fun _ => loc_wrap (loc_sep loc_MkR hF1)) (fun _ => (pxld Z Z o77 .z Z (pxfa Z Z f80_2 (pxnc Z Z (pendmv Z Z (pendmv Z Z pend0)))))) (fun q6 => ?_)
  refine xbs Z Z Z s77 z81 (by decide) Z Z Z (fun _ => (pxld Z Z o77 (.s .z) Z (pxfa Z Z f80_2 (pxnc Z Z (pendmv Z Z (pendmv Z Z pend0)))))) (fun b7 => ?_)
  refine xapv (n := 1) (news := [ptr q6]) (rest2 := []) (Hr := [_, _, _, _, _]) (cn := ptrs (qs ++ [q6])) (kn := i + 1) hR Z Z Z s77 Z .z Z (by simp [isCell]) ⟨by omega, by omega, by omega, by omega⟩ (by simp [ptrs]) Z (fun _ => (pxld Z Z o77 (.s .z) Z (pxfa Z Z f80_2 (pxnc Z Z (pendmv Z Z (pendmv Z Z pend0)))))) (fun v' B' hR' => ?_)
  refine xnc Z Z Z <| xfa Z Z Z f80_2 <| xst Z Z Z Z o77 hR'.cell (.s .z) Z (.s .z) (pendsk (by kernel_rfl) (pendsk (by kernel_rfl) (pendsk (by kernel_rfl) (pendsk (by kernel_rfl) (pendsk (by kernel_rfl) pend0))))) <| X.nil <| T.blk_end <| tx [0,1] nf Z Z ?_
  refine xarc (c := ((i + 1 : Nat) : Int)) Z Z Z Z Z (by simp only [ari]; rw [IntWalk.i64_in _ (by omega)]; omega) <| xmv Z Z Z <| X.nil ?_
  exact T.lq_end (i + 1, v', B', qs ++ [q6]) (by show c.markers.toNat - (i + 1) < c.markers.toNat - i; omega) (fun w h => ⟨⟨by show ((i + 1 : Nat) : Int) ≤ c.markers; omega, hR', by show (qs ++ [_]).length = i + 1; rw [List.length_append, hql]; rfl⟩, h.reb (loc_wrap (loc_sep loc_MksR loc_DeR)) (Wk.tail.trans (Wk.blks (wrap_eq (mk_step_eq (by rw [mksN_len]; exact hql))) _))⟩) ⟨rfl, rfl, rfl, rfl, rfl, rfl, trivial⟩
 ·intro hb0
  have hie : ((i : Nat) : Int) = c.markers := by have : ¬ ((i : Nat) : Int) < c.markers := of_decide_eq_false hb0; omega
  obtain ⟨mb, mrest, mm, rfl, hr1, hr2, hr3, -, rfl⟩ := hR.resolve_left (fun h => by omega)
  have hr4 : (ptrs qs).length = qs.length := by simp [ptrs]
  refine T.exit ?_
  refine TE.lq_exit ?_
  refine TE.blk_exit ?_
  refine T.seq <| T.seq <| tx [0,1,2] nf Z Z <| xfa Z Z Z f24_2 <| xld Z Z Z o3 (.s .z) Z <| xmv Z Z Z <| X.nil <| T.block ?_
  refine T.loop (fun (x : Nat × Value × List Bk × List Nat) w => ((x.1 : Int) ≤ c.mutators ∧ SlV 83 1 x.2.1 x.1 (ptrs x.2.2.2) x.2.2.1 ∧ x.2.2.2.length = x.1) ∧ Sy C w0 D0 l (⟨b5, 80, [ptr km, ptr sb, slv mb i mm, x.2.1, ptr q4, .slice none 0 0]⟩ :: ⟨b0, 24, c.cells⟩ :: (pblk ⟨pb, 66, [slv ob ops.length oc]⟩ ⟨ob, 65, opsC ops ++ orest⟩ x.1 ++ ⟨mb, 81, ptrs qs ++ mrest⟩ :: x.2.2.1)) (wrap (⟨sb, gb, gcap, km, ga, gr, ca, cr, c.map⟩ : Mo.Cx) c.map.first (sep (MksR (⟨sb, gb, gcap, km, ga, gr, ca, cr, c.map⟩ : Mo.Cx) qs (mksN c.map i)) (sep (MusR (⟨sb, gb, gcap, km, ga, gr, ca, cr, c.map⟩ : Mo.Cx) x.2.2.2 (musN c.map [ops] x.1)) (DeR (⟨sb, gb, gcap, km, ga, gr, ca, cr, c.map⟩ : Mo.Cx) q4 .new)))) w) (fun x => [(48, .int .i64 ((x.1 : Nat) : Int)), (47, .int .i64 c.mutators), (8, ptr b5), (6, ptr km), (1, slv pb 1 1)]) (fun x => c.mutators.toNat - x.1) (0, .slice none 0 0, [], []) (fun w h => ⟨⟨by show ((0 : Nat) : Int) ≤ c.mutators; omega, SlV.nil, rfl⟩, by show Sy C w0 D0 l _ (wrap _ _ (sep _ (sep emp _))) w; rw [emp_sep]; exact h⟩) ⟨Z, Z, Z, Z, Z, trivial⟩ ?_
  rintro ⟨j, uv, UB, us⟩ g2
  refine T.pure ?_
  rintro ⟨hj, hU, hul⟩
  simp only at hj hU hul
  have hF2 : Loc (sep (MksR (⟨sb, gb, gcap, km, ga, gr, ca, cr, c.map⟩ : Mo.Cx) qs (mksN c.map i)) (sep (MusR (⟨sb, gb, gcap, km, ga, gr, ca, cr, c.map⟩ : Mo.Cx) us (musN c.map [ops] j)) (DeR (⟨sb, gb, gcap, km, ga, gr, ca, cr, c.map⟩ : Mo.Cx) q4 .new))) := loc_sep loc_MksR (loc_sep loc_MusR loc_DeR)
  refine T.seq <| tx [0] nf Z Z <| xcm Z Z Z Z Z Z <| X.nil <| T.seq <| T.cond Z ?_ ?_
  ·intro hb1
   have hjm : ((j : Nat) : Int) < c.mutators := of_decide_eq_true hb1
   have hj0 : j = 0 := by omega
   refine T.rebL (H' := ⟨b5, 80, [ptr km, ptr sb, slv mb i mm, uv, ptr q4, .slice none 0 0]⟩ :: ⟨b0, 24, c.cells⟩ :: ⟨pb, 66, [slv ob ops.length oc]⟩ :: ⟨ob, 65, opsC ops ++ orest⟩ :: ⟨mb, 81, ptrs qs ++ mrest⟩ :: UB) (loc_wrap hF2) (WkL.of (Wk.of fun D w h => by subst hj0; exact h)) ?_
   refine T.skip <| T.seq <| T.block <| T.seq <| tx [0,1] nf Z Z <| xmv Z Z Z <| xas Z Z Z <| X.nil <| T.seq <| tx [0] nf Z Z <| xas Z Z Z <| X.nil <| T.seq <| T.seq <| tx [0,1,2,3] nf Z Z <| xmv Z Z Z <| xmv Z Z Z <| xlen Z Z Z u46_dSlice ?_
   refine xcm (c := true) Z Z Z Z Z (decide_eq_true (show ((j : Nat) : Int) < ((1 : Nat) : Int) by omega)) <| X.nil <| T.yes Z <| tx [0,1,2,3,4] nf Z Z <| xmv Z Z Z <| xmv Z Z Z ?_
   refine xix Z Z Z Z s46 (show 0 ≤ ((j : Nat) : Int) ∧ ((j : Nat) : Int) < ((1 : Nat) : Int) by omega) <| xld (v := slv ob ops.length oc) Z Z Z o66 (.s (.s .z)) (by subst hj0; rfl) <| xas Z Z Z <| X.nil ?_
   refine T.rebL (H' := ⟨b5, 80, [ptr km, ptr sb, slv mb i mm, uv, ptr q4, .slice none 0 0]⟩ :: ⟨b0, 24, c.cells⟩ :: ⟨mb, 81, ptrs qs ++ mrest⟩ :: UB) (R' := wrap (⟨sb, gb, gcap, km, ga, gr, ca, cr, c.map⟩ : Mo.Cx) c.map.first (Mo.blk ⟨ob, 65, opsC ops ++ orest⟩ (sep (MksR (⟨sb, gb, gcap, km, ga, gr, ca, cr, c.map⟩ : Mo.Cx) qs (mksN c.map i)) (sep (MusR (⟨sb, gb, gcap, km, ga, gr, ca, cr, c.map⟩ : Mo.Cx) us (musN c.map [ops] j)) (DeR (⟨sb, gb, gcap, km, ga, gr, ca, cr, c.map⟩ : Mo.Cx) q4 .new))))) (loc_wrap (loc_blk hF2)) (WkL.blk (WkL.blk ((WkL.of Wk.tail).trans ((WkL.of (Wk.back (⟨mb, 81, ptrs qs ++ mrest⟩ :: UB))).trans (WkL.blks wrap_in1 _))))) ?_
   refine T.any (ord := [0, 1, 2, 3, 4, 5, 6, 7, 8, 9, 10, 11, 12, 13]) (lo := (fun i => [0, 1, 2, 3, 4].contains i)) (ef := (fun i => [8, 9, 10, 13].contains i)) (by kernel_rfl) (fun _ h => h.drew) <| xmv Z Z Z <| xmv Z Z Z <| xnc Z Z Z ?_
   refine xfa Z Z Z f80_3 <| xld Z Z Z o78 .z Z <| xmv Z Z Z <| xmv Z Z Z <| xmv Z Z Z ?_
   refine xcnw Z Z Z Z g28 (lift_n (muNew1_fr (C := (⟨sb, gb, gcap, km, ga, gr, ca, cr, c.map⟩ : Mo.Cx)) (l := c.map.first) (j := j) hj0 (ob := ob) (orest := orest) (ack_ge hc (show 0 ≤ ((j : Nat) : Int) ∧ ((j : Nat) : Int) < c.mutators by omega)) hne h64 hoc hkd hF2)) (fun _ => loc_wrap (loc_sep loc_MuR hF2)) (fun _ => (pxld Z Z o78 .z Z (pxfa Z Z f80_3 (pxnc Z Z (pendmv Z Z (pendmv Z Z pend0)))))) (fun q8 => ?_)
   refine xbs Z Z Z s78 z83 (by decide) Z Z Z (fun _ => (pxld Z Z o78 (.s .z) Z (pxfa Z Z f80_3 (pxnc Z Z (pendmv Z Z (pendmv Z Z pend0)))))) (fun b9 => ?_)
   refine xapv (n := 1) (news := [ptr q8]) (rest2 := []) (Hr := [_, _, _, _]) (cn := ptrs (us ++ [q8])) (kn := j + 1) hU Z Z Z s78 Z .z Z (by simp [isCell]) ⟨by omega, by omega, by omega, by omega⟩ (by simp [ptrs]) Z (fun _ => (pxld Z Z o78 (.s .z) Z (pxfa Z Z f80_3 (pxnc Z Z (pendmv Z Z (pendmv Z Z pend0)))))) (fun v' B' hU' => ?_)
   refine xnc Z Z Z <| xfa Z Z Z f80_3 <| xst Z Z Z Z o78 hU'.cell (.s .z) Z (.s .z) (pendsk (by kernel_rfl) (pendsk (by kernel_rfl) (pendsk (by kernel_rfl) (pendsk (by kernel_rfl) (pendsk (by kernel_rfl) pend0))))) <| X.nil <| T.blk_end ?_
   refine tx [0,1] nf Z Z <| xarc (c := ((j + 1 : Nat) : Int)) Z Z Z Z Z (by simp only [ari]; rw [IntWalk.i64_in _ (by omega)]; omega) <| xmv Z Z Z <| X.nil ?_
   exact T.lq_end (j + 1, v', B', us ++ [q8]) (by show c.mutators.toNat - (j + 1) < c.mutators.toNat - j; omega) (fun w h => ⟨⟨by show ((j + 1 : Nat) : Int) ≤ c.mutators; omega, hU', by show (us ++ [_]).length = j + 1; rw [List.length_append, hul]; rfl⟩, h.reb (loc_wrap (loc_sep loc_MksR (loc_sep loc_MusR loc_DeR))) (Wk.tail.trans (Wk.blks (wrap_eq (mu_step_eq (by rw [musN_len]; exact hul))) _))⟩) ⟨rfl, rfl, rfl, rfl, rfl, trivial⟩
  ·intro hb1
   have hje : ((j : Nat) : Int) = c.mutators := by have : ¬ ((j : Nat) : Int) < c.mutators := of_decide_eq_false hb1; omega
   obtain ⟨ub, urest, um, rfl, hu1, hu2, hu3, -, rfl⟩ := hU.resolve_left (fun h => by omega)
   have hu4 : (ptrs us).length = us.length := by simp [ptrs]
   have hnew1 : (Wo.new c.map [ops]).markers = mksN c.map i := by rw [mksN_eq, show i = c.markers.toNat by omega]; rfl
   have hnew2 : (Wo.new c.map [ops]).mutators = musN c.map [ops] j := by rw [musN_eq, show j = c.mutators.toNat by omega]; rfl
   have fold_eq : ∀ {D : Dom} {w : World}, blks [⟨b5, 80, [ptr km, ptr sb, slv mb i mm, slv ub j um, ptr q4, .slice none 0 0]⟩, ⟨mb, 81, ptrs qs ++ mrest⟩, ⟨ub, 83, ptrs us ++ urest⟩] (sep (MksR (⟨sb, gb, gcap, km, ga, gr, ca, cr, c.map⟩ : Mo.Cx) qs (mksN c.map i)) (sep (MusR (⟨sb, gb, gcap, km, ga, gr, ca, cr, c.map⟩ : Mo.Cx) us (musN c.map [ops] j)) (DeR (⟨sb, gb, gcap, km, ga, gr, ca, cr, c.map⟩ : Mo.Cx) q4 .new))) D w → blks [woB (⟨sb, gb, gcap, km, ga, gr, ca, cr, c.map⟩ : Mo.Cx) b5 mb qs.length mm ub us.length um q4 (.slice none 0 0), mkB mb qs mrest, muB ub us urest] (sep (MksR (⟨sb, gb, gcap, km, ga, gr, ca, cr, c.map⟩ : Mo.Cx) qs (Wo.new c.map [ops]).markers) (sep (MusR (⟨sb, gb, gcap, km, ga, gr, ca, cr, c.map⟩ : Mo.Cx) us (Wo.new c.map [ops]).mutators) (DeR (⟨sb, gb, gcap, km, ga, gr, ca, cr, c.map⟩ : Mo.Cx) q4 (Wo.new c.map [ops]).det))) D w := fun h => by rw [hnew1, hnew2, hql, hul]; exact h
   refine T.exit ?_
   refine TE.lq_exit ?_
   refine TE.blk_exit ?_
   refine T.seq ?_
   have hj1 : j = 1 := by omega
   refine T.rebL (H' := [⟨b5, 80, [ptr km, ptr sb, slv mb i mm, slv ub j um, ptr q4, .slice none 0 0]⟩, ⟨b0, 24, c.cells⟩, ⟨mb, 81, ptrs qs ++ mrest⟩, ⟨ub, 83, ptrs us ++ urest⟩]) (loc_wrap hF2) (WkL.of (Wk.of fun D w h => by subst hj1; exact h)) ?_
   refine T.rebL (H' := []) (R' := wrap (⟨sb, gb, gcap, km, ga, gr, ca, cr, c.map⟩ : Mo.Cx) c.map.first (WoR (⟨sb, gb, gcap, km, ga, gr, ca, cr, c.map⟩ : Mo.Cx) b5 (Wo.new c.map [ops]))) (loc_wrap loc_WoR) ((WkL.of (Wk.pick [0, 2, 3] (by decide))).trans ((wrap_in [_, _, _]).trans (WkL.of (wrap_wk (Wk.of fun D w h => ⟨⟨qs, us, mb, mrest, mm, ub, urest, um, q4, .slice none 0 0, []⟩, ⟨by rw [hnew1, mksN_len]; exact hql, by rw [hnew2, musN_len]; exact hul, by show qs.length + mrest.length = mm; omega, by show us.length + urest.length = um; omega, .inl ⟨rfl, rfl, rfl⟩⟩, fold_eq h⟩))))) ?_
   refine tx [0,1,2] nf Z Z <| xmv Z Z Z <| xas Z Z Z <| xas Z Z Z <| X.nil <| T.ret2 Z (fun W D h => ?_)
   exact ⟨D, ⟨((⟨sb, gb, gcap, km, ga, gr, ca, cr, c.map⟩ : Mo.Cx), b5), rfl, rfl, rfl, h⟩, fun _ hk => hk⟩
end Go.Proofs.YtmpcfamcbaineaaGreat.Mo.Mp
namespace Go.Proofs.YtmpcfamcbaineaaGreat.Mo
open Go.RowKit Go.Proofs.YtmpcfamcbaineaaGreat.Mo
set_option linter.unusedVariables false
set_option linter.unusedSimpArgs false
section
variable {C : Cx} {w0 : World} {D0 : Dom} {l l' : Wds} {H H' Hr H1 H2 : List Bk} {R R' : Asr}
variable {ops : Array Oper} {lo ef : Nat → Bool} {K : (World → Prop) → Env → Prop} {i : Nat} {rr : List Nat} {U : List (Nat × Value)} {e : Env} {d : Option Nat} {ty : Nat} {ps : String} {af : Array Edge} {gd : Option (Nat × Bool)} {x y z : Operand} {v u : Value}
theorem Sy.scell {w : World} (h : Sy C w0 D0 l H R w) : w.cell? ⟨C.s, 0, none⟩ = some (slv C.g l.length C.c) := by
  obtain ⟨n, hn⟩ := h.mem.head
  simp [World.cell?, hn]
theorem Sy.wcell {w : World} (h : Sy C w0 D0 l H R w) (j : Nat) (v : Value) (hv : (u64s l)[j]? = some v) : w.cell? ((⟨C.g, 0, none⟩ : Addr).add j) = some v := by
  rw [addr_add, Nat.zero_add]
  have hj : j < l.length := by
    have := (List.getElem?_eq_some_iff.1 hv).1
    simpa [u64s] using this
  rw [(h.mem.cell j hj).1]
  simp [u64s, List.getElem?_eq_getElem hj] at hv
  rw [← hv]
  simp [List.getD, List.getElem?_eq_getElem hj]
theorem xldS {t : Nat} (ho : ops[i]? = some ⟨d, .load t x, ty, ps, af, gd⟩) (hef0 : (ef i, wantedE ops ⟨d, .load t x, ty, ps, af, gd⟩ e) = (false, true)) (hx : evo e x = some (.pointer (some ⟨C.s, 0, none⟩))) (h1 : one t = true)
    (h : X Tryz.prog ops lo ef K rr (Sy C w0 D0 l H R) (bif lo i then (i, slv C.g l.length C.c) :: U else U) (pute d (slv C.g l.length C.c) e)) : X Tryz.prog ops lo ef K (i :: rr) (Sy C w0 D0 l H R) U e := have ⟨hef, hw⟩ := tri2 hef0;
  x_val ho hef hw (fun w hS => exv (m := Instr.loadAt t (ev e x)) rfl (by rw [ev_of hx]; exact run_loadVar_one h1 hS.scell)) h
theorem xcpS {a : Array Operand} {t et b c c2 : Nat} {old : List Value} (ho : ops[i]? = some ⟨d, .call ⟨.builtin .copy, a, #[t, t]⟩, ty, ps, af, none⟩) (hef : ef i = true) (ha : evos e a.toList = some [slv b l.length c, slv C.g l.length c2]) (ht : slcB t et 1 = true) (hl : old.length = l.length)
    (hp : Pend ops i U (Sy C w0 D0 l (⟨b, et, u64s l⟩ :: H) R) e) (h : X Tryz.prog ops lo ef K rr (Sy C w0 D0 l (⟨b, et, u64s l⟩ :: H) R) U (pute d (.int .i64 l.length) e)) : X Tryz.prog ops lo ef K (i :: rr) (Sy C w0 D0 l (⟨b, et, old⟩ :: H) R) U e :=
  x_eff (K' := fun v w' => v = .int .i64 l.length ∧ Sy C w0 D0 l (⟨b, et, u64s l⟩ :: H) R w') ho hef rfl (fun w hS => by
    obtain ⟨inf, z, hu, hin, hz, hs, hb, hzs⟩ := slcB_of ht
    have hul : (u64s l).length = l.length := by simp [u64s]
    obtain ⟨w', g1, g2⟩ := hS.sets (u64s l) 0 (H' := ⟨b, et, setcs old 0 (u64s l)⟩ :: H) (cs := old) .z .z (by omega) (fun v hm => by
      obtain ⟨k, -, rfl⟩ := List.mem_map.1 hm
      rfl)
    rw [show setcs old 0 (u64s l) = u64s l by have := setcs_app (u64s l) [] old (by omega); rw [List.nil_append, List.nil_append, List.drop_eq_nil_of_le (by omega), List.append_nil] at this; exact this] at g2
    have hld := run_loadCells_list (P := Tryz.prog) (w := w) ⟨C.g, 0, none⟩ (u64s l) hS.wcell
    have hr := run_builtin (d := d) (ps := ps) (af := af) (gd := none) (b := .copy) (ty := ty) (tys := #[t, t]) ha (v := .int .i64 l.length) (w := w) (w' := w') (by
      rw [hul] at hld
      simp [builtin, Builtin.copy_, run_underlying hu, Builtin.lenOf, Builtin.firstCells, sizeOf, typeInfo, hin, hs, hld, g1, slv, goInt])
    exact eff_val hr ⟨rfl, g2⟩) (fun v w' ⟨h1, h2⟩ => ⟨_, h2, hp, by rw [h1]; exact h⟩)
end
theorem Ce.sepB {α : Type} {C : Cx} {f : Nat} {args : List Value} {l l' : Wds} {H H2 : List Bk} {F : Asr} {v : α → Value} {P : α → Prop} {B : α → List Bk} (h : Ce C f args l (blks H emp) v l' P (fun a => blks (B a) emp)) (hF : Loc F) : Ce C f args l (blks (H ++ H2) F) v l' P (fun a => blks (B a ++ H2) F) := by
  have := Ce.sepF h (F := blks H2 F) (loc_blks hF H2)
  simp only [blks_sep, emp_sep, ← blks_app] at this
  exact this
theorem f113_0 : fld 113 0 0 = true := by kernel_rfl
theorem f80_0 : fld 80 0 0 = true := by kernel_rfl
theorem g38 : fnB 38 = true := by kernel_rfl
theorem g48 : fnB 48 = true := by kernel_rfl
theorem u73_dPtr : undIs 73 (dPtr) = true := by kernel_rfl
set_option maxHeartbeats 1000000 in
theorem ct_MapW {C : Cx} {l : Wds} {p : Nat} {W : Wo}  : Cv C 10 [ptr p] l (WoR C p W) (ptr C.m) l (WoR C p W) := by
 refine Ct.of (vs := [ptr p]) Tryz.func10 rfl Tryz.ntmps10 (by simp) loc_WoR ?_
 intro w0 D0
 refine T.ex (fun _ => loc_and (loc_blks (loc_sep loc_MksR (loc_sep loc_MusR loc_DeR)) _)) ?_
 rintro ⟨qs, us, mb, rm, cm, ub, ru, cu, db, lv, LB⟩
 refine T.and (fun _ => loc_blks (loc_sep loc_MksR (loc_sep loc_MusR loc_DeR)) _) ?_
 intro ha
 obtain ⟨F, hF⟩ : ∃ F, F = blks (mkB mb qs rm :: muB ub us ru :: LB) (sep (MksR C qs W.markers) (sep (MusR C us W.mutators) (DeR C db W.det))) := ⟨_, rfl⟩
 have hl : Loc F := by rw [hF]; exact loc_blks (loc_sep loc_MksR (loc_sep loc_MusR loc_DeR)) _
 refine T.conv (fun w h => Sy.opens (H2 := [woB C p mb qs.length cm ub us.length cu db lv]) (R := F) (by rw [hF]; exact h) hl) <| T.seq <| tx [0] nf Z Z <| xas Z Z Z <| X.nil <| T.seq <| T.seq <| tx [0,1] nf Z Z <| xmv Z Z Z <| xnp Z Z Z Z u29_dPtr ?_
 refine X.nil <| T.no Z <| T.skip <| T.seq <| tx [0,1,2,3,4] nf Z Z <| xmv Z Z Z <| xnc Z Z Z <| xfa Z Z Z f80_0 <| xld Z Z Z o39 .z Z <| xas Z Z Z <| X.nil <| T.ret1 Z (fun W_ D h => ?_)
 subst hF
 exact ⟨D, ⟨rfl, rfl, ⟨⟨qs, us, mb, rm, cm, ub, ru, cu, db, _, _⟩, ha, h⟩⟩, fun _ hk => hk⟩
set_option maxHeartbeats 1000000 in
theorem ct_ActorsW {C : Cx} {l : Wds} {p : Nat} {W : Wo} (h4 : W.markers.length ≤ 4 ∧ W.mutators.length ≤ 4) : Cv C 9 [ptr p] l (WoR C p W) (.int .i64 ((W.actors : Nat) : Int)) l (WoR C p W) := by
 refine Ct.of (vs := [ptr p]) Tryz.func9 rfl Tryz.ntmps9 (by simp) loc_WoR ?_
 intro w0 D0
 refine T.ex (fun _ => loc_and (loc_blks (loc_sep loc_MksR (loc_sep loc_MusR loc_DeR)) _)) ?_
 rintro ⟨qs, us, mb, rm, cm, ub, ru, cu, db, lv, LB⟩
 refine T.and (fun _ => loc_blks (loc_sep loc_MksR (loc_sep loc_MusR loc_DeR)) _) ?_
 intro ha
 have hq0 : qs.length = W.markers.length := ha.q
 have hu0 : us.length = W.mutators.length := ha.u
 obtain ⟨F, hF⟩ : ∃ F, F = blks (mkB mb qs rm :: muB ub us ru :: LB) (sep (MksR C qs W.markers) (sep (MusR C us W.mutators) (DeR C db W.det))) := ⟨_, rfl⟩
 have hl : Loc F := by rw [hF]; exact loc_blks (loc_sep loc_MksR (loc_sep loc_MusR loc_DeR)) _
 refine T.conv (fun w h => Sy.opens (H2 := [woB C p mb qs.length cm ub us.length cu db lv]) (R := F) (by rw [hF]; exact h) hl) <| T.seq <| tx [0] nf Z Z <| xas Z Z Z <| X.nil <| T.seq <| T.seq <| tx [0,1] nf Z Z <| xmv Z Z Z <| xnp Z Z Z Z u29_dPtr ?_
 refine X.nil <| T.no Z <| T.skip <| T.seq <| T.any (ord := [0, 1, 2, 3, 4, 5, 6, 7, 8, 9, 10, 11, 12]) (lo := (fun _ => false)) (ef := (fun _ => false)) (by kernel_rfl) (fun _ h => h.drew) <| xmv Z Z Z <| xnc Z Z Z <| xfa Z Z Z f80_2 <| xld Z Z Z o77 .z Z ?_
 refine xlen Z Z Z u77_dSlice <| xmv Z Z Z <| xnc Z Z Z <| xfa Z Z Z f80_3 <| xld Z Z Z o78 .z Z <| xlen Z Z Z u78_dSlice ?_
 refine xarc (c := ((qs.length : Int) + us.length)) Z Z Z Z Z (wrap64i (show -9223372036854775808 ≤ ((qs.length : Int) + us.length) ∧ ((qs.length : Int) + us.length) ≤ 9223372036854775807 by omega)) ?_
 refine xarc (c := ((qs.length : Int) + us.length + 1)) Z Z Z Z Z (wrap64i (show -9223372036854775808 ≤ ((qs.length : Int) + us.length + 1) ∧ ((qs.length : Int) + us.length + 1) ≤ 9223372036854775807 by omega)) <| xas Z Z Z <| X.nil ?_
 refine T.ret1 Z (fun W_ D h => ?_)
 subst hF
 exact ⟨D, ⟨by rw [show ((W.actors : Nat) : Int) = ((qs.length : Int) + us.length + 1) by unfold Wo.actors; omega]; rfl, rfl, ⟨⟨qs, us, mb, rm, cm, ub, ru, cu, db, _, _⟩, ha, h⟩⟩, fun _ hk => hk⟩
set_option maxHeartbeats 1000000 in
theorem ct_All {C : Cx} {l : Wds} {R : Asr} (hl : Loc R) (hn : l.length ≤ 1000000) : Ce (α := Nat) C 38 [ptr C.s] l R (fun b => slv b l.length l.length) l (fun _ => True) (fun b => blks [⟨b, 90, u64s l⟩] R) := by
 refine Ct.of (vs := [ptr C.s]) Tryz.func38 rfl Tryz.ntmps38 (by simp) hl ?_
 intro w0 D0
 refine T.seq <| tx [0] nf Z Z <| xas Z Z Z <| X.nil <| T.seq <| T.seq <| tx [0,1] nf Z Z <| xmv Z Z Z <| xnp Z Z Z Z u73_dPtr <| X.nil <| T.no Z <| T.skip <| T.seq <| tx [0,1,2,3,4,5,6] (ct [5]) Z Z <| xmv Z Z Z <| xnc Z Z Z <| xfa Z Z Z f113_0 ?_
 refine xldS Z Z Z o43 <| xlen Z Z Z u43_dSlice <| xms (n := l.length) hn Z Z Z Z Z s43 z90 (fun _ => pend0) (fun nb => ?_)
 refine xas Z Z Z <| X.nil <| T.seq <| tx [0,1,2,3,4,5] (ct [5]) Z Z <| xmv Z Z Z <| xmv Z Z Z <| xnc Z Z Z <| xfa Z Z Z f113_0 <| xldS Z Z Z o43 <| xcpS Z Z Z s43 (by simp) pend0 <| X.nil <| T.seq <| tx [0,1] nf Z Z <| xmv Z Z Z <| xas Z Z Z <| X.nil ?_
 refine T.ret1 Z (fun W D h => ?_)
 exact ⟨D, ⟨_, rfl, trivial, rfl, h⟩, fun _ hk => hk⟩
set_option maxHeartbeats 1000000 in
theorem ct_Memory {C : Cx} {l : Wds} {p : Nat} {W : Wo} (hn : l.length ≤ 1000000) : Ce (α := Nat) C 13 [ptr p] l (WoR C p W) (fun b => slv b l.length l.length) l (fun _ => True) (fun b => blks [⟨b, 90, u64s l⟩] (WoR C p W)) := by
 refine Ct.of (vs := [ptr p]) Tryz.func13 rfl Tryz.ntmps13 (by simp) loc_WoR ?_
 intro w0 D0
 refine T.ex (fun _ => loc_and (loc_blks (loc_sep loc_MksR (loc_sep loc_MusR loc_DeR)) _)) ?_
 rintro ⟨qs, us, mb, rm, cm, ub, ru, cu, db, lv, LB⟩
 refine T.and (fun _ => loc_blks (loc_sep loc_MksR (loc_sep loc_MusR loc_DeR)) _) ?_
 intro ha
 obtain ⟨F, hF⟩ : ∃ F, F = blks (mkB mb qs rm :: muB ub us ru :: LB) (sep (MksR C qs W.markers) (sep (MusR C us W.mutators) (DeR C db W.det))) := ⟨_, rfl⟩
 have hl : Loc F := by rw [hF]; exact loc_blks (loc_sep loc_MksR (loc_sep loc_MusR loc_DeR)) _
 refine T.conv (fun w h => Sy.opens (H2 := [woB C p mb qs.length cm ub us.length cu db lv]) (R := F) (by rw [hF]; exact h) hl) <| T.seq <| tx [0] nf Z Z <| xas Z Z Z <| X.nil <| T.seq <| T.seq <| tx [0,1] nf Z Z <| xmv Z Z Z <| xnp Z Z Z Z u29_dPtr ?_
 refine X.nil <| T.no Z <| T.skip <| T.seq <| tx [0,1,2,3,4,5] (ct [4]) Z Z <| xmv Z Z Z <| xnc Z Z Z <| xfa Z Z Z f80_1 <| xld Z Z Z o73 .z Z ?_
 refine xcx (H1 := [_]) (H2 := []) (B := fun (a : Nat) => [⟨a, 90, u64s l⟩]) Z Z Z Z g38 Z (ct_All hl hn) (fun _ => hl) (fun a0 ha0 => pend0) (fun a0 ha0 => ?_)
 refine xas Z Z Z <| X.nil <| T.ret1 Z (fun W_ D h => ?_)
 obtain ⟨D1, h1, h2⟩ := Wk.pick [1, 0] (by decide) D W_ h
 obtain ⟨k1, D2, k2, k3, k4⟩ := h1
 exact ⟨D1, ⟨a0, rfl, trivial, rfl, ⟨k1, D2, ⟨⟨qs, us, mb, rm, cm, ub, ru, cu, db, _, _⟩, ha, by rw [hF] at k2; exact k2⟩, k3, k4⟩⟩, h2⟩
set_option maxHeartbeats 1000000 in
theorem ct_LogW {C : Cx} {l : Wds} {p : Nat} {W : Wo} (hlog : W.log ≠ []) (hll : W.log.length ≤ 1000000) : Ce (α := Nat × List Value × Nat) C 20 [ptr p] l (WoR C p W) (fun a => .slice (some ⟨a.1, 0, none⟩) W.log.length a.2.2) l (fun a => (W.log.length ≤ a.2.2 ∧ (evs W.log).length + a.2.1.length = a.2.2 * 5) ∧ a.2.2 ≤ maxLen) (fun a => blks [⟨a.1, 33, evs W.log ++ a.2.1⟩] (WoR C p W)) := by
 refine Ct.of (vs := [ptr p]) Tryz.func20 rfl Tryz.ntmps20 (by simp) loc_WoR ?_
 intro w0 D0
 refine T.ex (fun _ => loc_and (loc_blks (loc_sep loc_MksR (loc_sep loc_MusR loc_DeR)) _)) ?_
 rintro ⟨qs, us, mb, rm, cm, ub, ru, cu, db, lv, LB⟩
 refine T.and (fun _ => loc_blks (loc_sep loc_MksR (loc_sep loc_MusR loc_DeR)) _) ?_
 intro ha
 obtain ⟨lb, lrest, lc, rfl, hne, hlc, hlr, rfl⟩ := ha.log.resolve_left (fun h => hlog h.2.1)
 refine T.conv (fun w h => Sy.opens (H2 := [_, _, _, _]) h (loc_sep loc_MksR (loc_sep loc_MusR loc_DeR))) <| T.seq <| tx [0] nf Z Z <| xas Z Z Z <| X.nil <| T.seq <| T.seq <| tx [0,1] nf Z Z <| xmv Z Z Z <| xnp Z Z Z Z u29_dPtr <| X.nil <| T.no Z <| T.skip ?_
 refine T.seq <| tx [0,1,2,3,4,5] (ct [4]) Z Z <| xmv Z Z Z <| xnc Z Z Z <| xfa Z Z Z f80_5 <| xld Z Z Z o53 .z Z ?_
 refine xcx (H1 := [_, _, _]) (H2 := [_]) (B := fun (a : Nat × List Value × Nat) => [⟨a.1, 33, evs W.log ++ a.2.1⟩, ⟨lb, 33, evs W.log ++ lrest⟩]) Z Z Z Z g48 Z (Ce.sepB (H2 := []) (ct_clone48 (news := evs W.log) (rest := lrest) ⟨by have := List.length_pos_iff.2 hlog; omega, hll⟩ (evs_length _)) (loc_sep loc_MksR (loc_sep loc_MusR loc_DeR))) (fun _ => (loc_sep loc_MksR (loc_sep loc_MusR loc_DeR))) (fun a0 ha0 => pend0) (fun a0 ha0 => ?_)
 refine xas Z Z Z <| X.nil <| T.ret1 Z (fun W_ D h => ?_)
 obtain ⟨D1, h1, h2⟩ := Wk.pick [3, 0, 1, 2, 4] (by decide) D W_ h
 obtain ⟨k1, D2, k2, k3, k4⟩ := h1
 exact ⟨D1, ⟨a0, rfl, ha0, rfl, ⟨k1, D2, ⟨⟨qs, us, mb, rm, cm, ub, ru, cu, db, _, _⟩, ha, k2⟩, k3, k4⟩⟩, h2⟩
theorem Wo.steps_len {M : MapM} {W : Wo} {who : Nat} {dr : Int} : (W.steps M who dr).1.markers.length = W.markers.length ∧ (W.steps M who dr).1.mutators.length = W.mutators.length ∧ (W.steps M who dr).1.log = W.log := by
  unfold Wo.steps
  split
  · exact ⟨by simp only [List.length_set], rfl, rfl⟩
  · split
    · exact ⟨rfl, by simp only [List.length_set], rfl⟩
    · exact ⟨rfl, rfl, rfl⟩
theorem Wo.step_len {M : MapM} {W : Wo} {who : Nat} {dr : Int} : (W.step M who dr).1.markers.length = W.markers.length ∧ (W.step M who dr).1.mutators.length = W.mutators.length ∧ (W.step M who dr).1.log.length ≤ W.log.length + 1 := by
  obtain ⟨h1, h2, h3⟩ := Wo.steps_len (M := M) (W := W) (who := who) (dr := dr)
  unfold Wo.step
  split
  · exact ⟨h1, h2, by rw [h3]; omega⟩
  · exact ⟨h1, h2, by simp only [List.length_append, h3, List.length_cons, List.length_nil]; omega⟩
structure Wo.Go (M : MapM) (W : Wo) (A k : Nat) : Prop where
  ok : W.Ok M
  four : W.markers.length ≤ 4 ∧ W.mutators.length ≤ 4
  act : W.actors = A
  log : W.log.length ≤ k
theorem Wo.Go.step {M : MapM} {W : Wo} {A k : Nat} (h : W.Go M A k) (hM : M.Ok) (who : Nat) (dr : Int) : (W.step M who dr).1.Go M A (k + 1) := by
  obtain ⟨h1, h2, h3⟩ := Wo.step_len (M := M) (W := W) (who := who) (dr := dr)
  have := h.act
  refine ⟨Wo.step_ok hM h.ok who dr, by rw [h1, h2]; exact h.four, ?_, by have := h.log; omega⟩
  unfold Wo.actors at this ⊢
  rw [h1, h2]
  exact this
theorem Wo.Go.mono {M : MapM} {W : Wo} {A k k' : Nat} (h : W.Go M A k) (hk : k ≤ k') : W.Go M A k' := ⟨h.ok, h.four, h.act, Nat.le_trans h.log hk⟩
theorem rounds_idle {M : MapM} {d : Int} {n a : Nat} {W : Wo} {t : Wo × Bool} (h : roundsN M d n a W = t) (hn : 0 < n) (h7 : (W.step M a d).2.kind = 7) (h0 : (W.step M a d).2.a = 0) : t = ((W.step M a d).1, true) := by
  obtain ⟨m, rfl⟩ : ∃ m, n = m + 1 := ⟨n - 1, by omega⟩
  rw [← h]
  unfold roundsN
  rw [if_pos ⟨h7, h0⟩]
theorem rounds_on {M : MapM} {d : Int} {n a : Nat} {W : Wo} {t : Wo × Bool} (h : roundsN M d n a W = t) (hn : 0 < n) (h7 : ¬ ((W.step M a d).2.kind = 7 ∧ (W.step M a d).2.a = 0)) : roundsN M d (n - 1) (if a + 1 = W.actors then 0 else a + 1) (W.step M a d).1 = t := by
  obtain ⟨m, rfl⟩ : ∃ m, n = m + 1 := ⟨n - 1, by omega⟩
  rw [← h]
  conv => rhs; unfold roundsN
  rw [if_neg h7]
  rfl
theorem mul_left' {n i A : Nat} (hi : i < n) : (n - i) * A = (n - (i + 1)) * A + A := by
  obtain ⟨k, rfl⟩ : ∃ k, n = i + 1 + k := ⟨n - (i + 1), by omega⟩
  rw [show i + 1 + k - i = k + 1 by omega, show i + 1 + k - (i + 1) = k by omega, Nat.add_mul, Nat.one_mul]
theorem f33_2 : fld 33 2 2 = true := by kernel_rfl
theorem g8 : fnB 8 = true := by kernel_rfl
theorem l38 : layB 38 [(0, 1), (1, 1)] = true := by kernel_rfl
theorem z38 : zer 38 = some [.int .i64 0, .int .i64 0] := by kernel_rfl
end Go.Proofs.YtmpcfamcbaineaaGreat.Mo
namespace Go.Proofs.YtmpcfamcbaineaaGreat.Mo.Mp
open Go.RowKit Go.Proofs.YtmpcfamcbaineaaGreat.Mo
set_option linter.unusedVariables false
set_option linter.unusedSimpArgs false
set_option maxHeartbeats 4000000 in
theorem ct_rounds {C : Cx} {l : Wds} {K : Mo.Cx} {p n A L0 : Nat} {d : Int} {W : Wo} {tgt : Wo × Bool} (hM : K.M.Ok) (hp : 0 ≤ K.M.parts ∧ K.M.parts ≤ 100000) (hW : W.Go K.M A L0) (hA : 0 < A) (hn : L0 + n * A + A < 900000) (hnn : n ≤ 900000) (ht : roundsN K.M d (n * A) 0 W = tgt) :
  Cv C 19 [ptr p, .int .i64 (n : Int), .int .i64 d] l (wrap K W.l (WoR K p W)) (.bool tgt.2) l (wrap K tgt.1.l (WoR K p tgt.1)) := by
 refine Ct.of (vs := [ptr p, .int .i64 (n : Int), .int .i64 d]) Tryz.func19 rfl Tryz.ntmps19 (by simp) (loc_wrap loc_WoR) ?_
 intro w0 D0
 refine T.seq <| tx [0] nf Z Z <| xas Z Z Z <| X.nil <| T.seq <| tx [0] nf Z Z <| xas Z Z Z <| X.nil <| T.seq <| T.seq <| tx [0] nf Z Z <| xas Z Z Z <| X.nil <| T.block ?_
 refine T.loop (fun (x : Nat × Wo) w => ((x.1 ≤ n ∧ x.2.Go K.M A (L0 + x.1 * A)) ∧ roundsN K.M d ((n - x.1) * A) 0 x.2 = tgt) ∧ Sy C w0 D0 l [] (wrap K x.2.l (WoR K p x.2)) w) (fun x => [(8, .int .i64 ((x.1 : Nat) : Int)), (7, .bool false), (0, ptr p), (1, .int .i64 (n : Int)), (2, .int .i64 d)]) (fun x => n - x.1) (0, W) (fun w h => ⟨⟨⟨Nat.zero_le _, hW.mono (by omega)⟩, by show roundsN K.M d ((n - 0) * A) 0 W = tgt; exact ht⟩, h⟩) ⟨Z, Z, Z, Z, Z, trivial⟩ ?_
 rintro ⟨i, W1⟩ g
 refine T.pure ?_
 rintro ⟨⟨hi, hG1⟩, ht1⟩
 simp only at hi hG1 ht1
 refine T.seq <| T.seq <| tx [0,1,2] nf Z Z <| xmv Z Z Z <| xmv Z Z Z <| xcm Z Z Z Z Z Z <| X.nil <| T.cond Z ?_ ?_
 ·intro hb0
  have hin : i < n := by have : ((i : Nat) : Int) < (n : Int) := of_decide_eq_true hb0; omega
  have hiA : i * A ≤ n * A := Nat.mul_le_mul_right A (by omega)
  refine T.skip <| T.seq <| T.block <| T.seq <| tx [0] nf Z Z <| xas Z Z Z <| X.nil <| T.block ?_
  refine T.loop (fun (x : Nat × Wo) w => ((x.1 ≤ A ∧ x.2.Go K.M A (L0 + i * A + x.1)) ∧ roundsN K.M d ((n - i) * A - x.1) (if x.1 = A then 0 else x.1) x.2 = tgt) ∧ Sy C w0 D0 l [] (wrap K x.2.l (WoR K p x.2)) w) (fun x => [(9, .int .i64 ((x.1 : Nat) : Int)), (8, .int .i64 ((i : Nat) : Int)), (7, .bool false), (0, ptr p), (1, .int .i64 (n : Int)), (2, .int .i64 d)]) (fun x => A - x.1) (0, W1) (fun w h => ⟨⟨⟨Nat.zero_le _, hG1⟩, by show roundsN K.M d ((n - i) * A - 0) (if 0 = A then 0 else 0) W1 = tgt; rw [Nat.sub_zero, if_neg (by omega)]; exact ht1⟩, h⟩) ⟨Z, Z, Z, Z, Z, Z, trivial⟩ ?_
  rintro ⟨a, W2⟩ g2
  refine T.pure ?_
  rintro ⟨⟨ha, hG2⟩, ht2⟩
  simp only at ha hG2 ht2
  have h4 := hG2.four
  have hact := hG2.act
  have hlog := hG2.log
  refine T.seq <| T.seq <| tx [0,1,2,3] nf Z Z <| xmv Z Z Z <| xmv Z Z Z <| xcq Z Z Z Z g9 (lift_v (ct_ActorsW h4)) (loc_wrap loc_WoR) <| xcm Z Z Z Z Z Z <| X.nil <| T.cond Z ?_ ?_
  ·intro hb1
   have haA : a < A := by have : ((a : Nat) : Int) < ((W2.actors : Nat) : Int) := of_decide_eq_true hb1; omega
   rw [if_neg (by omega)] at ht2
   have hpos : a < (n - i) * A := by rw [mul_left' hin]; omega
   refine T.skip <| T.seq <| T.block <| T.seq <| tx [0,1,2,3,4,5,6] (ct [4,5,6]) Z Z <| xmv Z Z Z <| xmv Z Z Z <| xmv Z Z Z <| xbd Z Z Z l38 z38 Z ?_
   refine xce Z Z Z Z g8 (lift_v (ct_woStep (C := K) (W := W2) (who := a) (dr := d) (by omega) hM hp hG2.ok h4 (by omega))) (loc_wrap loc_WoR) pend0 <| xal Z Z z33 (fun _ => pend0) (fun b0 => ?_)
   refine xsta Z Z Z Z m33 Z Z .z (Nat.le_of_ble_eq_true Z) .z pend0 <| X.nil <| T.seq ?_
   by_cases h7 : (W2.step K.M a d).2.kind = 7
   ·skip
    refine tx [0,1,2,3,4,5,6,7] nf Z Z <| xfa Z Z Z f33_0 <| xld Z Z Z o3 .z Z <| xcm (c := true) Z Z Z Z Z (beq_iff_eq.2 h7) <| xmv Z Z Z <| xfa Z Z Z f33_2 <| xld Z Z Z o3 .z Z <| xcm Z Z Z Z Z Z <| xpkt Z Z Z Z <| X.nil <| T.cond Z ?_ ?_
    ·intro hb3
     refine T.seq <| tx [0] nf Z Z <| xas Z Z Z <| X.nil <| T.rets ?_
     refine TE.blk_ret ?_
     refine TE.lq_ret ?_
     refine TE.blk_ret ?_
     refine TE.blk_ret ?_
     refine TE.lq_ret ?_
     refine TE.blk_ret ?_
     refine TE.ret1 rfl (fun W_ D h => ?_)
     rw [rounds_idle ht2 (by omega) h7 (eq_of_beq hb3)]
     obtain ⟨D1, h1, h2⟩ := Wk.tail D W_ h
     exact ⟨D1, ⟨rfl, rfl, h1⟩, h2⟩
    ·intro hb3
     refine T.skip <| T.blk_end <| tx [0,1,2] nf Z Z <| xmv Z Z Z <| xarc (c := ((a + 1 : Nat) : Int)) Z Z Z Z Z (by simp only [ari]; rw [IntWalk.i64_in _ (by omega)]; omega) <| xas Z Z Z <| X.nil ?_
     exact T.lq_end (a + 1, (W2.step K.M a d).1) (by show A - (a + 1) < A - a; omega) (fun w h => ⟨⟨⟨by show a + 1 ≤ A; omega, hG2.step hM a d⟩, by have := rounds_on ht2 (by omega) (fun h => ne_of_beq_false hb3 h.2); rw [hact] at this; rw [Nat.sub_sub] at this; exact this⟩, Sy.reb h (loc_wrap loc_WoR) Wk.tail⟩) ⟨rfl, rfl, rfl, rfl, rfl, rfl, trivial⟩
   ·skip
    refine tx [0,1,2,3,4,5,6,7] nf Z Z <| xfa Z Z Z f33_0 <| xld Z Z Z o3 .z Z <| xcm (c := false) Z Z Z Z Z (beq_eq_false_iff_ne.2 h7) <| xmv Z Z Z <| x_skip Z Z Z <| x_skip Z Z Z <| x_skip Z Z Z <| xpkf Z Z Z Z <| X.nil <| T.no Z <| T.skip ?_
    refine T.blk_end <| tx [0,1,2] nf Z Z <| xmv Z Z Z <| xarc (c := ((a + 1 : Nat) : Int)) Z Z Z Z Z (by simp only [ari]; rw [IntWalk.i64_in _ (by omega)]; omega) <| xas Z Z Z <| X.nil ?_
    exact T.lq_end (a + 1, (W2.step K.M a d).1) (by show A - (a + 1) < A - a; omega) (fun w h => ⟨⟨⟨by show a + 1 ≤ A; omega, hG2.step hM a d⟩, by have := rounds_on ht2 (by omega) (fun h => h7 h.1); rw [hact] at this; rw [Nat.sub_sub] at this; exact this⟩, Sy.reb h (loc_wrap loc_WoR) Wk.tail⟩) ⟨rfl, rfl, rfl, rfl, rfl, rfl, trivial⟩
  ·intro hb1
   have haA : a = A := by have : ¬ ((a : Nat) : Int) < ((W2.actors : Nat) : Int) := of_decide_eq_false hb1; omega
   refine T.exit ?_
   refine TE.lq_exit ?_
   refine TE.blk_exit ?_
   refine T.blk_end <| tx [0,1,2] nf Z Z <| xmv Z Z Z <| xarc (c := ((i + 1 : Nat) : Int)) Z Z Z Z Z (by simp only [ari]; rw [IntWalk.i64_in _ (by omega)]; omega) <| xas Z Z Z <| X.nil ?_
   exact T.lq_end (i + 1, W2) (by show n - (i + 1) < n - i; omega) (fun w h => ⟨⟨⟨by show i + 1 ≤ n; omega, hG2.mono (by show _ ≤ L0 + (i + 1) * A; rw [Nat.add_mul]; omega)⟩, by show roundsN K.M d ((n - (i + 1)) * A) 0 W2 = tgt; rw [← ht2, if_pos haA, haA, mul_left' hin, Nat.add_sub_cancel]⟩, h⟩) ⟨rfl, rfl, rfl, rfl, rfl, trivial⟩
 ·intro hb0
  refine T.exit ?_
  refine TE.lq_exit ?_
  refine TE.blk_exit ?_
  refine T.seq <| tx [0,1] nf Z Z <| xmv Z Z Z <| xas Z Z Z <| X.nil <| T.ret1 Z (fun W_ D h => ?_)
  have hin : i = n := by have : ¬ ((i : Nat) : Int) < (n : Int) := of_decide_eq_false hb0; omega
  rw [hin, Nat.sub_self, Nat.zero_mul] at ht1
  subst ht1
  exact ⟨D, ⟨rfl, rfl, h⟩, fun _ hk => hk⟩
end Go.Proofs.YtmpcfamcbaineaaGreat.Mo.Mp
namespace Go.Proofs.YtmpcfamcbaineaaGreat.Mo.Mp
open Go.RowKit Go.Proofs.YtmpcfamcbaineaaGreat.Mo
set_option linter.unusedVariables false
set_option linter.unusedSimpArgs false
theorem wrap_out1 {C : Mo.Cx} {l : Wds} {R : Asr} {x : Bk} : Wk (wrap C l (Mo.blk x R)) (Mo.blk x (wrap C l R)) := fun D w ⟨Dw, ⟨h1, D1, h2, h3, h4⟩, g2, g3, g4, g5⟩ => by
  have hx : Dw x.b := (h4 _).2 (.inl rfl)
  have ns : x.b ≠ C.s := fun e => g4.ns (e ▸ hx)
  have ng : x.b ≠ C.g := fun e => g4.ng (e ▸ hx)
  have nm : x.b ≠ C.m := fun e => g4.nm.1 (e ▸ hx)
  have na : x.b ≠ C.ga := fun e => g4.na.1 (e ▸ hx)
  have nr : x.b ≠ C.gr := fun e => g4.nr.1 (e ▸ hx)
  refine ⟨D, ⟨h1, fun k => D1 k ∨ k = C.s ∨ k = C.g ∨ k = C.m ∨ k = C.ga ∨ k = C.gr, ⟨D1, h2, g2, g3, g4.sub fun k hk => (h4 k).2 (.inr hk), fun k => Iff.rfl⟩, ?_, fun k => ?_⟩, fun _ h => h⟩
  · rintro (h | h | h | h | h | h)
    · exact h3 h
    · exact ns h
    · exact ng h
    · exact nm h
    · exact na h
    · exact nr h
  · rw [g5, h4, or_assoc]
theorem wrap_out {C : Mo.Cx} {l : Wds} {R : Asr} : ∀ (H : List Bk), Wk (wrap C l (Mo.blks H R)) (Mo.blks H (wrap C l R))
  | [] => Wk.refl _
  | x :: H => wrap_out1.trans (Wk.blk (wrap_out H))
theorem lift_eb {α : Type} {C : Mo.Cx} {C0 : Cx} {f : Nat} {args : List Value} {l l' l0 : Wds} {R R' : Asr} {v : α → Value} {P : α → Prop} {B : α → List Bk} (h : Mo.Ce C f args l R v l' P (fun a => Mo.blks (B a) R')) : Ce C0 f args l0 (wrap C l R) v l0 P (fun a => Mo.blks (B a) (wrap C l' R')) :=
  Ce.wk (lift_e h) (Wk.refl _) fun a => wrap_out (B a)
def hits (L : List Ev) : Nat := (L.filter fun e => decide (e.kind = 5 ∧ e.a = 1 ∧ e.who = 0)).length
theorem hits_drop {L : List Ev} {i : Nat} (hi : i < L.length) : hits (L.drop i) = (if (L.getD i ev0).kind = 5 ∧ (L.getD i ev0).a = 1 ∧ (L.getD i ev0).who = 0 then 1 else 0) + hits (L.drop (i + 1)) := by
  rw [List.drop_eq_getElem_cons hi, List.getD_eq_getElem?_getD, List.getElem?_eq_getElem hi, Option.getD_some]
  unfold hits
  rw [List.filter_cons]
  split
  · rename_i h
    rw [if_pos (of_decide_eq_true h)]
    simp only [List.length_cons]
    omega
  · rename_i h
    rw [if_neg fun g => h (decide_eq_true g)]
    omega
theorem ev_cases (e : Ev) : ¬ e.kind = 5 ∨ (e.kind = 5 ∧ ¬ e.a = 1) ∨ (e.kind = 5 ∧ e.a = 1 ∧ ¬ e.who = 0) ∨ (e.kind = 5 ∧ e.a = 1 ∧ e.who = 0) := by
  by_cases h1 : e.kind = 5
  · by_cases h2 : e.a = 1
    · by_cases h3 : e.who = 0
      · exact .inr (.inr (.inr ⟨h1, h2, h3⟩))
      · exact .inr (.inr (.inl ⟨h1, h2, h3⟩))
    · exact .inr (.inl ⟨h1, h2⟩)
  · exact .inl h1
theorem evs_at {rest : List Value} : ∀ (L : List Ev) (i k : Nat), i < L.length → k < 5 → nth (evs L ++ rest) (i * 5 + k) = (L.getD i ev0).cells[k]?
  | [], i, k, hi, _ => by simp at hi
  | e :: L, 0, k, _, hk => by
    rw [nth_eq, Nat.zero_mul, Nat.zero_add]
    show (e.cells ++ evs L ++ rest)[k]? = _
    rw [List.append_assoc, List.getElem?_append_left (by simpa [Ev.cells] using hk)]
    rfl
  | e :: L, i + 1, k, hi, hk => by
    have := evs_at (rest := rest) L i k (by simpa using hi) hk
    rw [nth_eq] at this ⊢
    show (e.cells ++ evs L ++ rest)[(i + 1) * 5 + k]? = _
    have e5 : e.cells.length = 5 := rfl
    rw [List.append_assoc, List.getElem?_append_right (by omega), show (i + 1) * 5 + k - e.cells.length = i * 5 + k by omega, this]
    rfl
theorem evs_kind {rest : List Value} {L : List Ev} {i : Nat} (hi : i < L.length) : nth (evs L ++ rest) (0 + ((i : Nat) : Int).toNat * 5 + 0) = some (.int .i64 (L.getD i ev0).kind) := by
  rw [Int.toNat_natCast, Nat.zero_add]
  exact evs_at L i 0 hi (by decide)
theorem evs_who {rest : List Value} {L : List Ev} {i : Nat} (hi : i < L.length) : nth (evs L ++ rest) (0 + ((i : Nat) : Int).toNat * 5 + 1) = some (.int .i64 (L.getD i ev0).who) := by
  rw [Int.toNat_natCast, Nat.zero_add]
  exact evs_at L i 1 hi (by decide)
theorem evs_a {rest : List Value} {L : List Ev} {i : Nat} (hi : i < L.length) : nth (evs L ++ rest) (0 + ((i : Nat) : Int).toNat * 5 + 2) = some (.int .i64 (L.getD i ev0).a) := by
  rw [Int.toNat_natCast, Nat.zero_add]
  exact evs_at L i 2 hi (by decide)
end Go.Proofs.YtmpcfamcbaineaaGreat.Mo.Mp
namespace Go.Proofs.YtmpcfamcbaineaaGreat.Mo
open Go.RowKit Go.Proofs.YtmpcfamcbaineaaGreat.Mo
set_option linter.unusedVariables false
set_option linter.unusedSimpArgs false
theorem g19 : fnB 19 = true := by kernel_rfl
theorem g20 : fnB 20 = true := by kernel_rfl
theorem g7 : fnB 7 = true := by kernel_rfl
theorem l24 : layB 24 [(0, 5), (5, 1), (6, 1), (7, 1), (8, 1), (9, 1), (10, 1), (11, 1)] = true := by kernel_rfl
theorem l65 : layB 65 [(0, 1), (1, 1), (2, 1), (3, 1)] = true := by kernel_rfl
theorem z22 : zer 22 = some [.int .i64 0, .int .i64 0, .int .i64 0, .int .i64 0, .int .i64 0] := by kernel_rfl
theorem z66 : zer 66 = some [.slice none 0 0] := by kernel_rfl
end Go.Proofs.YtmpcfamcbaineaaGreat.Mo
namespace Go.Proofs.YtmpcfamcbaineaaGreat.Mo.Mp
open Go.RowKit Go.Proofs.YtmpcfamcbaineaaGreat.Mo
set_option linter.unusedVariables false
set_option linter.unusedSimpArgs false
set_option maxRecDepth 20000 in
set_option maxHeartbeats 4000000 in
theorem ct_awake {C : Cx} {l : Wds} {Mw : MapM} {W0 W1 W2 : Wo} (hMw : Mw = awakeC.map) (hW0 : W0 = Wo.new awakeC.map [[⟨0, 1, 0, 0⟩, ⟨3, 0, 0, 0⟩]]) (hMo : Mw.Ok) (hpo : 0 ≤ Mw.parts ∧ Mw.parts ≤ 100000) (hG0 : W0.Go Mw 3 0) (hW1 : runN Mw 1 0 12 W0 = W1) (hR : roundsN Mw 1 (200 * 3) 0 W1 = (W2, true)) (hne : W2.log ≠ []) (hll : W2.log.length ≤ 1000000) (hH : hits W2.log = 1) :
  Cv C 5 [] l emp (.bool true) l emp := by
 have hops : ∀ o ∈ ([⟨0, 1, 0, 0⟩, ⟨3, 0, 0, 0⟩] : List MOp), o.kind = 0 ∨ o.kind = 3 := by decide
 refine Ct.of (vs := []) Tryz.func5 rfl Tryz.ntmps5 (by simp) loc_emp ?_
 intro w0 D0
 refine T.seq <| tx [0] nf Z Z <| xas Z Z Z <| X.nil <| T.seq <| tx [0,1,2,3,4,5,6,7,8,9,10,11] (ct [4,5,6]) Z Z <| xbda Z Z Z a22 o3 z22 Z <| xbd Z Z Z l24 z24 Z <| xbd Z Z Z l65 z65 Z <| xbd Z Z Z l65 z65 Z ?_
 refine xbs Z Z Z s66 z65 (by decide) Z Z Z (fun _ => pend0) (fun b0 => ?_)
 refine xbs Z Z Z s46 z66 (by decide) Z Z Z (fun _ => pend0) (fun b1 => ?_)
 refine xcx (H1 := []) (H2 := [_, _]) (B := fun (_ : Mo.Cx × Nat) => []) Z Z Z Z g7 Z (ct_woNew1 (c := awakeC) (ops := [⟨0, 1, 0, 0⟩, ⟨3, 0, 0, 0⟩]) (oc := 2) (orest := []) Z Z (by simp) (by decide) (Nat.le_refl _) hops) (fun _ => loc_wrap loc_WoR) (fun a2 ha2 => pend0) (fun a2 ha2 => ?_)
 refine xmv Z Z Z <| xex Z Z Z Z <| xex Z Z Z Z <| xas Z Z Z <| xas Z Z Z <| X.nil <| T.seq <| T.seq ?_
 obtain ⟨⟨ks, kg, kc, km, ga, gr, ca, cr, M⟩, p⟩ := a2
 have hKM : M = awakeC.map := ha2
 obtain ⟨K, hK⟩ : ∃ K : Mo.Cx, K = ⟨ks, kg, kc, km, ga, gr, ca, cr, M⟩ := ⟨_, rfl⟩
 have hKm : K.M = Mw := by rw [hK, hMw]; exact hKM
 have hM : K.M.Ok := by rw [hKm]; exact hMo
 have hp : 0 ≤ K.M.parts ∧ K.M.parts ≤ 100000 := by rw [hKm]; exact hpo
 rw [← hKm] at hG0 hW1 hR
 refine T.rebL (H' := []) (R' := wrap K W0.l (WoR K p W0)) (loc_wrap loc_WoR) (WkL.of (Wk.of fun D w h => by rw [hK, hW0]; exact h)) ?_
 have h40 := hG0.four
 refine tx [0,1,2,3,4,5,6] nf Z Z <| xmv Z Z Z <| xcm (c := false) Z Z Z Z Z (Z) <| xmv Z Z Z <| xmv Z Z Z <| xcq Z Z Z Z g9 (lift_v (ct_ActorsW h40)) (loc_wrap loc_WoR) <| xcm (c := false) Z Z Z Z Z (by rw [hG0.act]; rfl) <| xpkf Z Z Z Z <| X.nil ?_
 refine T.no Z <| T.skip <| T.seq <| T.seq <| tx [0] nf Z Z <| xas Z Z Z <| X.nil <| T.block ?_
 refine T.loop (fun (x : Nat × Wo) w => ((x.1 ≤ 12 ∧ x.2.Go K.M 3 x.1) ∧ runN K.M 1 0 (12 - x.1) x.2 = W1) ∧ Sy C w0 D0 l [] (wrap K x.2.l (WoR K p x.2)) w) (fun x => [(3, .int .i64 ((x.1 : Nat) : Int)), (1, ptr p)]) (fun x => 12 - x.1) (0, W0) (fun w h => ⟨⟨⟨Nat.zero_le _, hG0⟩, hW1⟩, h⟩) ⟨Z, Z, trivial⟩ ?_
 rintro ⟨i, W3⟩ g
 refine T.pure ?_
 rintro ⟨⟨hi, hG3⟩, ht1⟩
 simp only at hi hG3 ht1
 have h4 := hG3.four
 have hact := hG3.act
 have hlog := hG3.log
 refine T.seq <| T.seq <| tx [0,1] nf Z Z <| xmv Z Z Z <| xcm Z Z Z Z Z Z <| X.nil <| T.cond Z ?_ ?_
 ·intro hb0
  have hi12 : i < 12 := by have : ((i : Nat) : Int) < 12 := of_decide_eq_true hb0; omega
  have hst0 := hG3.step hM 1 0
  have hr0 : runN K.M 1 0 (12 - (i + 1)) (W3.step K.M 1 0).1 = W1 := by rw [← ht1, show 12 - i = 12 - (i + 1) + 1 by omega]; rfl
  have hst1 : Cv C 8 [ptr p, .agg #[.int .i64 ((1 : Nat) : Int), .int .i64 0]] l (wrap K W3.l (WoR K p W3)) (.agg (W3.step K.M 1 0).2.cells.toArray) l (wrap K (W3.step K.M 1 0).1.l (WoR K p (W3.step K.M 1 0).1)) := lift_v (ct_woStep (C := K) (W := W3) (who := 1) (dr := 0) (by omega) hM hp hG3.ok h4 (by omega))
  generalize (W3.step K.M 1 0).2.cells.toArray = E at hst1
  generalize (W3.step K.M 1 0).1 = W4 at hst0 hr0 hst1
  have hst : Cv C 8 [ptr p, .agg #[.int .i64 1, .int .i64 0]] l (wrap K W3.l (WoR K p W3)) (.agg E) l (wrap K W4.l (WoR K p W4)) := hst1
  refine T.skip <| T.seq <| T.block <| tx [0,1,2] (ct [2]) Z Z <| xmv Z Z Z <| xbd Z Z Z l38 z38 Z <| xce Z Z Z Z g8 (hst) (loc_wrap loc_WoR) pend0 <| X.nil <| T.blk_end <| tx [0,1,2] nf Z Z <| xmv Z Z Z ?_
  refine xarc (c := ((i + 1 : Nat) : Int)) Z Z Z Z Z (by simp only [ari]; rw [IntWalk.i64_in _ (by omega)]; omega) <| xas Z Z Z <| X.nil ?_
  exact T.lq_end (i + 1, W4) (by show 12 - (i + 1) < 12 - i; omega) (fun w h => ⟨⟨⟨by show i + 1 ≤ 12; omega, hst0⟩, hr0⟩, h⟩) ⟨rfl, rfl, trivial⟩
 ·intro hb0
  have hi12 : i = 12 := by have : ¬ ((i : Nat) : Int) < 12 := of_decide_eq_false hb0; omega
  subst hi12
  obtain rfl : W3 = W1 := ht1
  have hG1 : W3.Go K.M 3 12 := hG3
  refine T.exit ?_
  refine TE.lq_exit ?_
  refine TE.blk_exit ?_
  refine T.seq <| tx [0,1,2] (ct [1]) Z Z <| xmv Z Z Z <| xce Z Z Z Z g19 (ct_rounds (C := C) (l := l) (K := K) (n := 200) (A := 3) (L0 := 12) (tgt := (W2, true)) hM hp hG1 (by decide) (by decide) (by decide) hR) (loc_wrap loc_WoR) pend0 <| xas Z Z Z ?_
  refine X.nil <| T.seq <| tx [0,1,2] (ct [1]) Z Z <| xmv Z Z Z ?_
  refine xcx (H1 := []) (H2 := []) (B := fun (a : Nat × List Value × Nat) => [⟨a.1, 33, evs W2.log ++ a.2.1⟩]) Z Z Z Z g20 Z (lift_eb (ct_LogW hne hll)) (fun _ => loc_wrap loc_WoR) (fun a3 ha3 => pend0) (fun a3 ha3 => ?_)
  refine xas Z Z Z <| X.nil <| T.seq ?_
  obtain ⟨nb, nr, nm⟩ := a3
  refine tx [0] nf Z Z <| xas Z Z Z <| X.nil <| T.seq <| T.seq <| tx [0] nf Z Z <| xas Z Z Z <| X.nil <| T.block ?_
  refine T.loop (fun (x : Nat × Nat) w => ((x.1 ≤ W2.log.length ∧ x.2 ≤ x.1) ∧ x.2 + hits (W2.log.drop x.1) = 1) ∧ Sy C w0 D0 l [⟨nb, 33, evs W2.log ++ nr⟩] (wrap K W2.l (WoR K p W2)) w) (fun x => [(7, .int .i64 ((x.1 : Nat) : Int)), (6, .int .i64 ((x.2 : Nat) : Int)), (5, slv nb W2.log.length nm), (4, .bool true)]) (fun x => W2.log.length - x.1) (0, 0) (fun w h => ⟨⟨⟨Nat.zero_le _, Nat.zero_le _⟩, by show 0 + hits (W2.log.drop 0) = 1; rw [List.drop_zero, hH]⟩, h⟩) ⟨Z, Z, Z, Z, trivial⟩ ?_
  rintro ⟨j, k⟩ g2
  refine T.pure ?_
  rintro ⟨⟨hj, hkj⟩, hh⟩
  simp only at hj hkj hh
  refine T.seq <| T.seq <| tx [0,1,2,3] nf Z Z <| xmv Z Z Z <| xmv Z Z Z <| xlen Z Z Z u53_dSlice <| xcm Z Z Z Z Z Z <| X.nil <| T.cond Z ?_ ?_
  ·intro hb1
   have hjm : j < W2.log.length := by have : ((j : Nat) : Int) < ((W2.log.length : Nat) : Int) := of_decide_eq_true hb1; omega
   refine T.skip <| T.seq <| T.block <| T.seq ?_
   rcases ev_cases (W2.log.getD j ev0) with h5 | ⟨h5, h6⟩ | ⟨h5, h6, h7⟩ | ⟨h5, h6, h7⟩
   ·skip
    refine tx [0,1,2,3,4,5,6,7,8,9,10,11,12,13,14,15,16,17,18,19,20,21] nf Z Z <| xmv Z Z Z <| xmv Z Z Z <| xix Z Z Z Z s53 ⟨Int.natCast_nonneg _, Int.ofNat_lt.2 hjm⟩ <| xfa Z Z Z f33_0 <| xld Z Z Z o3 .z (evs_kind hjm) ?_
    refine xcm (c := false) Z Z Z Z Z (beq_eq_false_iff_ne.2 h5) <| xmv Z Z Z <| x_skip Z Z Z <| x_skip Z Z Z <| x_skip Z Z Z <| x_skip Z Z Z <| x_skip Z Z Z <| x_skip Z Z Z <| xpkf Z Z Z Z <| xmv Z Z Z <| x_skip Z Z Z <| x_skip Z Z Z <| x_skip Z Z Z ?_
    refine x_skip Z Z Z <| x_skip Z Z Z <| x_skip Z Z Z <| xpkf Z Z Z Z <| X.nil <| T.no Z <| T.skip <| T.blk_end <| tx [0,1,2] nf Z Z <| xmv Z Z Z ?_
    refine xarc (c := ((j + 1 : Nat) : Int)) Z Z Z Z Z (by simp only [ari]; rw [IntWalk.i64_in _ (by omega)]; omega) <| xas Z Z Z <| X.nil ?_
    exact T.lq_end (j + 1, k) (by show W2.log.length - (j + 1) < W2.log.length - j; omega) (fun w h => ⟨⟨⟨by show j + 1 ≤ _; omega, by show k ≤ j + 1; omega⟩, by show k + hits (W2.log.drop (j + 1)) = 1; rw [hits_drop hjm, if_neg (fun g => h5 g.1)] at hh; omega⟩, h⟩) ⟨rfl, rfl, rfl, rfl, trivial⟩
   ·skip
    refine tx [0,1,2,3,4,5,6,7,8,9,10,11,12,13,14,15,16,17,18,19,20,21] nf Z Z <| xmv Z Z Z <| xmv Z Z Z <| xix Z Z Z Z s53 ⟨Int.natCast_nonneg _, Int.ofNat_lt.2 hjm⟩ <| xfa Z Z Z f33_0 <| xld Z Z Z o3 .z (evs_kind hjm) ?_
    refine xcm (c := true) Z Z Z Z Z (beq_iff_eq.2 h5) <| xmv Z Z Z <| xmv Z Z Z <| xmv Z Z Z <| xix Z Z Z Z s53 ⟨Int.natCast_nonneg _, Int.ofNat_lt.2 hjm⟩ <| xfa Z Z Z f33_2 <| xld Z Z Z o3 .z (evs_a hjm) ?_
    refine xcm (c := false) Z Z Z Z Z (beq_eq_false_iff_ne.2 h6) <| xpkt Z Z Z Z <| xmv Z Z Z <| x_skip Z Z Z <| x_skip Z Z Z <| x_skip Z Z Z <| x_skip Z Z Z <| x_skip Z Z Z <| x_skip Z Z Z <| xpkf Z Z Z Z <| X.nil <| T.no Z <| T.skip <| T.blk_end ?_
    refine tx [0,1,2] nf Z Z <| xmv Z Z Z <| xarc (c := ((j + 1 : Nat) : Int)) Z Z Z Z Z (by simp only [ari]; rw [IntWalk.i64_in _ (by omega)]; omega) <| xas Z Z Z <| X.nil ?_
    exact T.lq_end (j + 1, k) (by show W2.log.length - (j + 1) < W2.log.length - j; omega) (fun w h => ⟨⟨⟨by show j + 1 ≤ _; omega, by show k ≤ j + 1; omega⟩, by show k + hits (W2.log.drop (j + 1)) = 1; rw [hits_drop hjm, if_neg (fun g => h6 g.2.1)] at hh; omega⟩, h⟩) ⟨rfl, rfl, rfl, rfl, trivial⟩
   ·skip
    refine tx [0,1,2,3,4,5,6,7,8,9,10,11,12,13,14,15,16,17,18,19,20,21] nf Z Z <| xmv Z Z Z <| xmv Z Z Z <| xix Z Z Z Z s53 ⟨Int.natCast_nonneg _, Int.ofNat_lt.2 hjm⟩ <| xfa Z Z Z f33_0 <| xld Z Z Z o3 .z (evs_kind hjm) ?_
    refine xcm (c := true) Z Z Z Z Z (beq_iff_eq.2 h5) <| xmv Z Z Z <| xmv Z Z Z <| xmv Z Z Z <| xix Z Z Z Z s53 ⟨Int.natCast_nonneg _, Int.ofNat_lt.2 hjm⟩ <| xfa Z Z Z f33_2 <| xld Z Z Z o3 .z (evs_a hjm) <| xcm (c := true) Z Z Z Z Z (beq_iff_eq.2 h6) ?_
    refine xpkt Z Z Z Z <| xmv Z Z Z <| xmv Z Z Z <| xmv Z Z Z <| xix Z Z Z Z s53 ⟨Int.natCast_nonneg _, Int.ofNat_lt.2 hjm⟩ <| xfa Z Z Z f33_1 <| xld Z Z Z o3 .z (evs_who hjm) <| xcm (c := false) Z Z Z Z Z (beq_eq_false_iff_ne.2 h7) <| xpkt Z Z Z Z ?_
    refine X.nil <| T.no Z <| T.skip <| T.blk_end <| tx [0,1,2] nf Z Z <| xmv Z Z Z <| xarc (c := ((j + 1 : Nat) : Int)) Z Z Z Z Z (by simp only [ari]; rw [IntWalk.i64_in _ (by omega)]; omega) <| xas Z Z Z <| X.nil ?_
    exact T.lq_end (j + 1, k) (by show W2.log.length - (j + 1) < W2.log.length - j; omega) (fun w h => ⟨⟨⟨by show j + 1 ≤ _; omega, by show k ≤ j + 1; omega⟩, by show k + hits (W2.log.drop (j + 1)) = 1; rw [hits_drop hjm, if_neg (fun g => h7 g.2.2)] at hh; omega⟩, h⟩) ⟨rfl, rfl, rfl, rfl, trivial⟩
   ·skip
    refine tx [0,1,2,3,4,5,6,7,8,9,10,11,12,13,14,15,16,17,18,19,20,21] nf Z Z <| xmv Z Z Z <| xmv Z Z Z <| xix Z Z Z Z s53 ⟨Int.natCast_nonneg _, Int.ofNat_lt.2 hjm⟩ <| xfa Z Z Z f33_0 <| xld Z Z Z o3 .z (evs_kind hjm) ?_
    refine xcm (c := true) Z Z Z Z Z (beq_iff_eq.2 h5) <| xmv Z Z Z <| xmv Z Z Z <| xmv Z Z Z <| xix Z Z Z Z s53 ⟨Int.natCast_nonneg _, Int.ofNat_lt.2 hjm⟩ <| xfa Z Z Z f33_2 <| xld Z Z Z o3 .z (evs_a hjm) <| xcm (c := true) Z Z Z Z Z (beq_iff_eq.2 h6) ?_
    refine xpkt Z Z Z Z <| xmv Z Z Z <| xmv Z Z Z <| xmv Z Z Z <| xix Z Z Z Z s53 ⟨Int.natCast_nonneg _, Int.ofNat_lt.2 hjm⟩ <| xfa Z Z Z f33_1 <| xld Z Z Z o3 .z (evs_who hjm) <| xcm (c := true) Z Z Z Z Z (beq_iff_eq.2 h7) <| xpkt Z Z Z Z <| X.nil ?_
    refine T.yes Z <| tx [0,1,2] nf Z Z <| xmv Z Z Z <| xarc (c := ((k + 1 : Nat) : Int)) Z Z Z Z Z (by simp only [ari]; rw [IntWalk.i64_in _ (by omega)]; omega) <| xas Z Z Z <| X.nil <| T.blk_end <| tx [0,1,2] nf Z Z <| xmv Z Z Z ?_
    refine xarc (c := ((j + 1 : Nat) : Int)) Z Z Z Z Z (by simp only [ari]; rw [IntWalk.i64_in _ (by omega)]; omega) <| xas Z Z Z <| X.nil ?_
    exact T.lq_end (j + 1, k + 1) (by show W2.log.length - (j + 1) < W2.log.length - j; omega) (fun w h => ⟨⟨⟨by show j + 1 ≤ _; omega, by show k + 1 ≤ j + 1; omega⟩, by show k + 1 + hits (W2.log.drop (j + 1)) = 1; rw [hits_drop hjm, if_pos ⟨h5, h6, h7⟩] at hh; omega⟩, h⟩) ⟨rfl, rfl, rfl, rfl, trivial⟩
  ·intro hb1
   have hjm : j = W2.log.length := by have : ¬ ((j : Nat) : Int) < ((W2.log.length : Nat) : Int) := of_decide_eq_false hb1; omega
   subst hjm
   rw [List.drop_length] at hh
   have hk1 : k = 1 := hh
   refine T.exit ?_
   refine TE.lq_exit ?_
   refine TE.blk_exit ?_
   refine T.seq <| tx [0,1,2,3,4,5] nf Z Z <| xmv Z Z Z <| xmv Z Z Z <| xmv Z Z Z <| xcm (c := true) Z Z Z Z Z (show (((k : Nat) : Int) == 1) = true from beq_iff_eq.2 (by omega)) <| xpkt Z Z Z Z <| xas Z Z Z <| X.nil <| T.ret1 Z (fun W_ D h => ?_)
   obtain ⟨D1, h1, h2⟩ := Wk.emp _ D W_ h
   exact ⟨D1, ⟨rfl, rfl, h1⟩, h2⟩
end Go.Proofs.YtmpcfamcbaineaaGreat.Mo.Mp
namespace Go.Proofs.YtmpcfamcbaineaaGreat.Mo
open Go.RowKit Go.Proofs.YtmpcfamcbaineaaGreat.Mo
set_option linter.unusedVariables false
set_option linter.unusedSimpArgs false
theorem Mu.new_ok {c : Cfg} (h : c.Ok) {i : Int} {ops : List MOp} (ho : ∀ o ∈ ops, o.kind = 0 ∨ o.kind = 3) : (Mu.new c.map i ops).Ok c.map := by
  have hn := h.nodes
  have hb := h.buffer
  have z : u64R 0 := by unfold u64R; omega
  refine Mu.begin_ok (Cfg.map_ok h) ⟨fun v hv => ?_, by simp, fun o ho' => ho o (List.mem_of_mem_take ho'), ⟨z, z, z, z⟩, fun t ht => by simp at ht, by show ((0 : Nat) : Int) < c.buffer; omega⟩
  obtain rfl : v = c.map.nodes := by simpa using hv
  show u32R c.nodes
  unfold u32R
  omega
theorem Wo.new_ok {c : Cfg} (h : c.Ok) {ps : List (List MOp)} (ho : ∀ ops ∈ ps, ∀ o ∈ ops, o.kind = 0 ∨ o.kind = 3) : (Wo.new c.map ps).Ok c.map := by
  have hM := Cfg.map_ok h
  refine ⟨first_rng h, fun m hm => ?_, fun m hm => ?_, De.new_ok⟩
  · obtain ⟨i, hi, rfl⟩ := List.mem_map.1 hm
    have := List.mem_range.1 hi
    exact Mk.new_ok hM ⟨by omega, by omega⟩
  · obtain ⟨i, hi, rfl⟩ := List.mem_map.1 hm
    refine Mu.new_ok h fun o hoo => ?_
    rw [List.getD_eq_getElem?_getD] at hoo
    cases hg : ps[i]? with
    | none => simp [hg] at hoo
    | some ops => exact ho ops (List.mem_of_getElem? hg) o (by simpa [hg] using hoo)
theorem Wo.new_go {c : Cfg} (h : c.Ok) {ps : List (List MOp)} (ho : ∀ ops ∈ ps, ∀ o ∈ ops, o.kind = 0 ∨ o.kind = 3) : (Wo.new c.map ps).Go c.map (c.markers.toNat + c.mutators.toNat + 1) 0 := by
  have h1 := h.markers
  have h2 := h.mutators
  have e1 : (Wo.new c.map ps).markers.length = c.markers.toNat := by
    show ((List.range c.markers.toNat).map _).length = _
    simp
  have e2 : (Wo.new c.map ps).mutators.length = c.mutators.toNat := by
    show ((List.range c.mutators.toNat).map _).length = _
    simp
  exact ⟨Wo.new_ok h ho, by omega, by unfold Wo.actors; omega, Nat.le_refl _⟩
def awakeR : Wo × Bool := roundsN awakeM 1 600 0 (runN awakeM 1 0 12 awakeW)
theorem awake_ends : awakeR.2 = true ∧ awakeR.1.log ≠ [] ∧ awakeR.1.log.length ≤ 1000000 ∧ Mp.hits awakeR.1.log = 1 := by decide +kernel
end Go.Proofs.YtmpcfamcbaineaaGreat.Mo
namespace Go.Proofs.YtmpcfamcbaineaaGreat.Mo.Mp
open Go.RowKit Go.Proofs.YtmpcfamcbaineaaGreat.Mo
set_option linter.unusedVariables false
set_option linter.unusedSimpArgs false
theorem ct_awake0 {C : Cx} {l : Wds} : Cv C 5 [] l emp (.bool true) l emp := by
  have hc : awakeC.Ok := Cfg.Ok.of rfl
  obtain ⟨h1, h2, h3, h4⟩ := awake_ends
  have hops : ∀ o ∈ ([⟨0, 1, 0, 0⟩, ⟨3, 0, 0, 0⟩] : List MOp), o.kind = 0 ∨ o.kind = 3 := by decide
  have hgo : awakeW.Go awakeM 3 0 := Wo.new_go hc (ps := [[⟨0, 1, 0, 0⟩, ⟨3, 0, 0, 0⟩]]) (fun ops h => by
    rw [List.mem_singleton] at h
    subst h
    exact hops)
  have hp : 0 ≤ awakeM.parts ∧ awakeM.parts ≤ 100000 := by decide +kernel
  have hM : awakeM.Ok := Cfg.map_ok hc
  have hR : roundsN awakeM 1 600 0 (runN awakeM 1 0 12 awakeW) = awakeR := by unfold awakeR; rfl
  have e1 : awakeM = awakeC.map := rfl
  have e2 : awakeW = Wo.new awakeC.map [[⟨0, 1, 0, 0⟩, ⟨3, 0, 0, 0⟩]] := rfl
  generalize awakeR = r at h1 h2 h3 h4 hR
  obtain ⟨W2, b⟩ := r
  obtain rfl : b = true := h1
  generalize awakeM = Mw at *
  generalize awakeW = W0 at *
  generalize hW1 : runN Mw 1 0 12 W0 = W1 at hR
  exact ct_awake e1 e2 hM hp hgo hW1 hR h2 h3 h4
end Go.Proofs.YtmpcfamcbaineaaGreat.Mo.Mp
namespace Go.Proofs.YtmpcfamcbaineaaGreat.Mo.Mp
open Go.RowKit Go.Proofs.YtmpcfamcbaineaaGreat.Mo
set_option linter.unusedVariables false
set_option linter.unusedSimpArgs false
theorem least {p : Nat → Prop} (h : ∃ k, p k) : ∃ k, p k ∧ ∀ j, p j → k ≤ j := by
  obtain ⟨k, hk⟩ := h
  induction k using Nat.strongRecOn with
  | _ k ih =>
    by_cases hl : ∃ j, j < k ∧ p j
    · obtain ⟨j, h1, h2⟩ := hl
      exact ih j h1 h2
    · exact ⟨k, hk, fun j hj => Nat.le_of_not_lt fun hlt => hl ⟨j, hlt, hj⟩⟩
def GJ {σ : Type} (n : Nat) (S : σ → World → Prop) (Kn : σ → Env) (μ : σ → Nat) (m : Nat) (a : Act) (w : World) : Prop := ∃ x g, μ x < m ∧ S x w ∧ Fits a n (Kn x ++ g)
def GA {σ : Type} (n : Nat) (S : σ → World → Prop) (Kn : σ → Env) (a : Act) (w : World) : Prop := ∃ x g, S x w ∧ Fits a n (Kn x ++ g)
def GQ (lb : Nat) (J : Act → World → Prop) (Q : Exit → Act → World → Prop) (r : List Code) : Exit → Act → World → Prop := Exit.jump lb J (Exit.then (wps Q r) Q)
section
variable {Q : Exit → Act → World → Prop} {n lb : Nat} {r rr : List Code} {S : World → Prop} {e : Env} {c B : Code} {J : Act → World → Prop}
variable {σ : Type} {S' : σ → World → Prop} {Kn : σ → Env} {μ : σ → Nat} {m : Nat}
theorem TE.gq_ret (h : TE Q n .ret S e) : TE (GQ lb J Q r) n .ret S e := h
theorem T.gend (y : σ) (hm : μ y < m) (hS : ∀ w, S w → S' y w) (he : subE e (Kn y)) : T (GQ lb (GJ n S' Kn μ m) Q r) n (.goto lb :: rr) S e := fun w a hw hF => wp_goto ⟨rfl, y, e, hm, hS w hw, fits_sub hF he⟩
theorem T.glab (pass : ∀ x g, T (GQ lb (GJ n S' Kn μ (μ x)) Q r) n [B] (S' x) (Kn x ++ g)) (x0 : σ) (h0 : ∀ w, S w → S' x0 w) (he : subE e (Kn x0)) : T (GQ lb (GA n S' Kn) Q r) n [.label lb, B] S e := fun w a hS hF => by
  refine wp_label ?_
  refine wp_mono (pass x0 e w a (h0 w hS) (fits_sub hF he)) ?_
  intro ex a' w' hq
  cases ex with
  | goto l => exact ⟨hq.1, let ⟨x, g, _, h2, h3⟩ := hq.2; ⟨x, g, h2, h3⟩⟩
  | _ => exact hq
theorem T.scope (lb : Nat) (S' : σ → World → Prop) (Kn : σ → Env) (μ : σ → Nat) (hf : findLabel c lb = some (.seq .skip B)) (pass : ∀ x g, T (GQ lb (GJ n S' Kn μ (μ x)) Q r) n [B] (S' x) (Kn x ++ g))
    (first : (∀ x g, T (GQ lb (GJ n S' Kn μ (μ x)) Q r) n [B] (S' x) (Kn x ++ g)) → T (GQ lb (GA n S' Kn) Q r) n [c] S e) : T Q n (.scope c :: r) S e := fun w a hS hF => by
  classical
  have hm : ∀ a w, GA n S' Kn a w → ∃ k, (∃ x g, μ x = k ∧ S' x w ∧ Fits a n (Kn x ++ g)) ∧ ∀ j, (∃ x g, μ x = j ∧ S' x w ∧ Fits a n (Kn x ++ g)) → k ≤ j := fun a w ⟨x, g, h1, h2⟩ => least ⟨μ x, x, g, rfl, h1, h2⟩
  refine wp_scope_jumps lb (GA n S' Kn) (fun a w => if h : GA n S' Kn a w then Classical.choose (hm a w h) else 0) hf ?_ ?_
  · refine wp_mono (first pass w a hS hF) ?_
    intro ex a' w' hq
    cases ex <;> exact hq
  · intro a w hJ
    obtain ⟨⟨x, g, h1, h2, h3⟩, h4⟩ := Classical.choose_spec (hm a w hJ)
    refine wp_seq (wp_skip ?_)
    refine wp_mono (pass x g w a h2 h3) ?_
    intro ex a' w' hq
    cases ex with
    | goto l =>
      obtain ⟨rfl, y, g', k1, k2, k3⟩ := hq
      have hy : GA n S' Kn a' w' := ⟨y, g', k2, k3⟩
      refine ⟨rfl, hy, ?_⟩
      simp only [dif_pos hJ, dif_pos hy]
      have := (Classical.choose_spec (hm a' w' hy)).2 (μ y) ⟨y, g', rfl, k2, k3⟩
      omega
    | _ => exact hq
end
theorem walkN_no {M : MapM} {l : Wds} {n : Nat} {a : Int} (h : ¬ (0 ≤ a ∧ a < l.length)) : walkN M l n a = [] := by
  cases n with
  | zero => rfl
  | succ n => exact if_neg fun g => h ⟨g.1, g.2.1⟩
theorem walkN_end {M : MapM} {l : Wds} {n : Nat} {a : Int} (h : w32 (l.getD a.toNat 0) = 0) : walkN M l n a = [] := by
  cases n with
  | zero => rfl
  | succ n => exact if_neg fun g => g.2.2 h
theorem walkN_on {M : MapM} {l : Wds} {n : Nat} {a : Int} (h : 0 ≤ a ∧ a < l.length) (h0 : w32 (l.getD a.toNat 0) ≠ 0) : walkN M l (n + 1) a = w32 (l.getD a.toNat 0) :: walkN M l n (M.Next (w32 (l.getD a.toNat 0))) := if_pos ⟨h.1, h.2, h0⟩
theorem nth_i64i {ts : List Int} {a : Int} (h : 0 ≤ a ∧ a < ts.length) : nth (i64s ts) (0 + a.toNat * 1) = some (.int .i64 (ts.getD a.toNat 0)) := by
  rw [nth_eq]
  unfold i64s
  have : a.toNat < ts.length := by omega
  rw [show 0 + a.toNat * 1 = a.toNat by omega]
  simp [this]
theorem setc_i64 {ts : List Int} {a : Nat} {v : Int} : setc (i64s ts) (0 + a * 1) (.int .i64 v) = i64s (ts.set a v) := by
  rw [setc_eq, show 0 + a * 1 = a by omega]
  simp [i64s, List.map_set]
theorem i64s_app (a : List Int) (v : Int) : i64s a ++ [.int .i64 v] = i64s (a ++ [v]) := by simp [i64s]
theorem i64s_rep {n : Nat} : List.replicate n (Value.int .i64 0) = i64s (List.replicate n 0) := by simp [i64s]
end Go.Proofs.YtmpcfamcbaineaaGreat.Mo.Mp
namespace Go.Proofs.YtmpcfamcbaineaaGreat.Mo
open Go.RowKit Go.Proofs.YtmpcfamcbaineaaGreat.Mo
set_option linter.unusedVariables false
set_option linter.unusedSimpArgs false
end Go.Proofs.YtmpcfamcbaineaaGreat.Mo
namespace Go.Proofs.YtmpcfamcbaineaaGreat.Mo.Mp
open Go.RowKit Go.Proofs.YtmpcfamcbaineaaGreat.Mo
set_option linter.unusedVariables false
set_option linter.unusedSimpArgs false
theorem ne_of_bne {a b : Int} (h : (a != b) = true) : ¬ a = b := by simpa using h
set_option maxHeartbeats 1000000 in
theorem ct_mark {C : Cx} {l : Wds} {R : Asr} (hl : Loc R) {v s : Int} {bx ob n : Nat} {o : List Int} (hn : o.length = n) : Cv C 31 [.int .i64 v, .int .i64 s, ptr bx] l (blks [⟨bx, 41, [slv ob n n]⟩, ⟨ob, 3, i64s o⟩] R) (.tuple #[]) l (blks [⟨bx, 41, [slv ob n n]⟩, ⟨ob, 3, i64s (markL o v s)⟩] R) := by
 refine Ct.of (vs := [.int .i64 v, .int .i64 s, ptr bx]) Tryz.func31 rfl Tryz.ntmps31 (by simp) (loc_blks hl _) ?_
 intro w0 D0
 refine T.conv (fun w h => Sy.opens (H2 := [_, _]) h hl) <| T.seq <| T.seq ?_
 by_cases hq : v < 1
 ·skip
  refine tx [0,1,2,3,4,5,6,7] nf Z Z <| xmv Z Z Z <| xcm (c := true) Z Z Z Z Z (decide_eq_true hq) <| xmv Z Z Z <| x_skip Z Z Z <| x_skip Z Z Z <| x_skip Z Z Z <| x_skip Z Z Z <| xpkt Z Z Z Z <| X.nil <| T.yes Z <| T.ret0 Z (fun W D h => ?_)
  rw [show markL o v s = o from if_pos (.inl hq)]
  exact ⟨D, ⟨rfl, rfl, h⟩, fun _ hk => hk⟩
 ·skip
  refine tx [0,1,2,3,4,5,6,7] nf Z Z <| xmv Z Z Z <| xcm (c := false) Z Z Z Z Z (decide_eq_false hq) <| xmv Z Z Z <| xmv Z Z Z <| xld Z Z Z o41 .z Z <| xlen Z Z Z u41_dSlice <| xcm Z Z Z Z Z Z <| xpkf Z Z Z Z <| X.nil <| T.cond Z ?_ ?_
  ·intro hb1
   have hge : v ≥ o.length := by have : v ≥ ((n : Nat) : Int) := of_decide_eq_true hb1; omega
   refine T.ret0 Z (fun W D h => ?_)
   rw [show markL o v s = o from if_pos (.inr hge)]
   exact ⟨D, ⟨rfl, rfl, h⟩, fun _ hk => hk⟩
  ·intro hb1
   have hlt : ¬ v ≥ ((n : Nat) : Int) := of_decide_eq_false hb1
   refine T.skip <| T.seq <| T.seq <| tx [0,1,2,3,4] nf Z Z <| xld Z Z Z o41 .z Z <| xmv Z Z Z <| xix Z Z Z Z s41 (show 0 ≤ v ∧ v < ((n : Nat) : Int) by omega) <| xld Z Z Z o3 (.s .z) (nth_i64i (by omega)) <| xcm Z Z Z Z Z Z <| X.nil <| T.cond Z ?_ ?_
   ·intro hb2
    have hz : ¬ o.getD v.toNat 0 = 0 := ne_of_bne hb2
    refine tx [0] nf Z Z <| xas Z Z Z <| X.nil <| tx [0,1,2,3,4] (ct [4]) Z Z <| xld Z Z Z o41 .z Z <| xmv Z Z Z <| xmv Z Z Z <| xix Z Z Z Z s41 (show 0 ≤ v ∧ v < ((n : Nat) : Int) by omega) ?_
    refine xst Z Z Z Z o3 Z (.s .z) (nth_i64i (by omega)) (.s .z) pend0 ?_
    rw [setc_i64]
    refine X.nil <| T.end0 Z (fun W D h => ?_)
    rw [show markL o v s = o.set v.toNat 4 from by unfold markL; rw [if_neg (by omega), if_neg hz]]
    exact ⟨D, ⟨rfl, rfl, h⟩, fun _ hk => hk⟩
   ·intro hb2
    have hz : o.getD v.toNat 0 = 0 := by have : (o.getD v.toNat 0 != 0) = false := hb2; simpa using this
    refine T.skip <| tx [0,1,2,3,4] (ct [4]) Z Z <| xld Z Z Z o41 .z Z <| xmv Z Z Z <| xmv Z Z Z <| xix Z Z Z Z s41 (show 0 ≤ v ∧ v < ((n : Nat) : Int) by omega) <| xst Z Z Z Z o3 Z (.s .z) (nth_i64i (by omega)) (.s .z) pend0 ?_
    rw [setc_i64]
    refine X.nil <| T.end0 Z (fun W D h => ?_)
    rw [show markL o v s = o.set v.toNat s from by unfold markL; rw [if_neg (by omega), if_pos hz]]
    exact ⟨D, ⟨rfl, rfl, h⟩, fun _ hk => hk⟩
theorem w32_rng (x : Int) : 0 ≤ w32 x ∧ w32 x < 4294967296 := by unfold w32; omega
set_option maxHeartbeats 4000000 in
theorem ct_Walk {C : Cx} {l : Wds} {K : Mo.Cx} {ws : Wds} {nb nc lim : Nat} {at0 : Int} {tgt : List Int} (hlim : lim ≤ 1000) (hlen : ws.length ≤ 1000000) (ht : walkN K.M ws lim at0 = tgt) :
  Ce (α := Value × List Bk) C 34 [slv nb ws.length nc, .int .i64 at0, .func (.func 36) #[ptr K.m] #[], .int .i64 ((lim : Nat) : Int)] l (blks [⟨nb, 90, u64s ws⟩] (wrap K ws emp)) (fun a => a.1) l (fun a => SlV 3 1 a.1 tgt.length (i64s tgt) a.2) (fun a => blks (⟨nb, 90, u64s ws⟩ :: a.2) (wrap K ws emp)) := by
 refine Ct.of (vs := [slv nb ws.length nc, .int .i64 at0, .func (.func 36) #[ptr K.m] #[], .int .i64 ((lim : Nat) : Int)]) Tryz.func34 rfl Tryz.ntmps34 (by simp) (loc_blks (loc_wrap loc_emp) _) ?_
 intro w0 D0
 refine T.conv (fun w h => Sy.opens (H2 := [_]) h (loc_wrap loc_emp)) <| T.seq <| tx [0] nf Z Z <| xas Z Z Z <| X.nil ?_
 refine T.scope 0 (fun (x : Int × Value × List Bk × List Int) w => ((SlV 3 1 x.2.1 x.2.2.2.length (i64s x.2.2.2) x.2.2.1 ∧ x.2.2.2.length ≤ lim) ∧ x.2.2.2 ++ walkN K.M ws (lim - x.2.2.2.length) x.1 = tgt) ∧ Sy C w0 D0 l (⟨nb, 90, u64s ws⟩ :: x.2.2.1) (wrap K ws emp) w) (fun x => [(10, .int .i64 x.1), (9, x.2.1), (0, slv nb ws.length nc), (2, .func (.func 36) #[ptr K.m] #[]), (3, .int .i64 ((lim : Nat) : Int))]) (fun x => lim - x.2.2.2.length) Z ?_ ?_
 ·rintro ⟨a, ov, OB, o⟩ g
  refine T.pure ?_
  rintro ⟨⟨hS, ho⟩, hw⟩
  simp only at hS ho hw
  refine T.seq <| T.seq ?_
  rcases (show a < 0 ∨ (0 ≤ a ∧ ¬ a < ws.length) ∨ ((0 ≤ a ∧ a < ws.length) ∧ ¬ o.length < lim) ∨ ((0 ≤ a ∧ a < ws.length) ∧ o.length < lim) by omega) with q1 | ⟨q1, q2⟩ | ⟨q1, q2⟩ | ⟨q1, q2⟩
  ·skip
   refine tx [0,1,2,3,4,5,6,7,8,9,10,11,12,13] nf Z Z <| xmv Z Z Z <| xcm (c := false) Z Z Z Z Z (decide_eq_false (show ¬ a ≥ 0 by omega)) <| xmv Z Z Z <| x_skip Z Z Z <| x_skip Z Z Z <| x_skip Z Z Z <| x_skip Z Z Z <| xpkf Z Z Z Z <| xmv Z Z Z ?_
   refine x_skip Z Z Z <| x_skip Z Z Z <| x_skip Z Z Z <| x_skip Z Z Z <| xpkf Z Z Z Z <| X.nil <| T.no Z <| T.skip <| T.seq <| tx [0,1] nf Z Z <| xmv Z Z Z <| xas Z Z Z <| X.nil <| T.rets ?_
   refine TE.gq_ret ?_
   refine TE.ret1 rfl (fun W D h => ?_)
   rw [walkN_no (by omega), List.append_nil] at hw
   subst hw
   exact ⟨D, ⟨(ov, OB), rfl, hS, rfl, h⟩, fun _ hk => hk⟩
  ·skip
   refine tx [0,1,2,3,4,5,6,7,8,9,10,11,12,13] nf Z Z <| xmv Z Z Z <| xcm (c := true) Z Z Z Z Z (decide_eq_true (show a ≥ 0 by omega)) <| xmv Z Z Z <| xmv Z Z Z <| xmv Z Z Z <| xlen Z Z Z u43_dSlice ?_
   refine xcm (c := false) Z Z Z Z Z (decide_eq_false (show ¬ a < ((ws.length : Nat) : Int) by omega)) <| xpkt Z Z Z Z <| xmv Z Z Z <| x_skip Z Z Z <| x_skip Z Z Z <| x_skip Z Z Z <| x_skip Z Z Z <| xpkf Z Z Z Z <| X.nil <| T.no Z <| T.skip <| T.seq ?_
   refine tx [0,1] nf Z Z <| xmv Z Z Z <| xas Z Z Z <| X.nil <| T.rets ?_
   refine TE.gq_ret ?_
   refine TE.ret1 rfl (fun W D h => ?_)
   rw [walkN_no (by omega), List.append_nil] at hw
   subst hw
   exact ⟨D, ⟨(ov, OB), rfl, hS, rfl, h⟩, fun _ hk => hk⟩
  ·skip
   refine tx [0,1,2,3,4,5,6,7,8,9,10,11,12,13] nf Z Z <| xmv Z Z Z <| xcm (c := true) Z Z Z Z Z (decide_eq_true (show a ≥ 0 by omega)) <| xmv Z Z Z <| xmv Z Z Z <| xmv Z Z Z <| xlen Z Z Z u43_dSlice ?_
   refine xcm (c := true) Z Z Z Z Z (decide_eq_true (show a < ((ws.length : Nat) : Int) by omega)) <| xpkt Z Z Z Z <| xmv Z Z Z <| xmv Z Z Z <| xlenv hS Z Z Z u41_dSlice <| xmv Z Z Z ?_
   refine xcm (c := false) Z Z Z Z Z (decide_eq_false (show ¬ ((o.length : Nat) : Int) < ((lim : Nat) : Int) by omega)) <| xpkt Z Z Z Z <| X.nil <| T.no Z <| T.skip <| T.seq <| tx [0,1] nf Z Z <| xmv Z Z Z <| xas Z Z Z <| X.nil <| T.rets ?_
   refine TE.gq_ret ?_
   refine TE.ret1 rfl (fun W D h => ?_)
   rw [show lim - o.length = 0 by omega] at hw
   rw [show walkN K.M ws 0 a = [] from rfl, List.append_nil] at hw
   subst hw
   exact ⟨D, ⟨(ov, OB), rfl, hS, rfl, h⟩, fun _ hk => hk⟩
  ·skip
   refine tx [0,1,2,3,4,5,6,7,8,9,10,11,12,13] nf Z Z <| xmv Z Z Z <| xcm (c := true) Z Z Z Z Z (decide_eq_true (show a ≥ 0 by omega)) <| xmv Z Z Z <| xmv Z Z Z <| xmv Z Z Z <| xlen Z Z Z u43_dSlice ?_
   refine xcm (c := true) Z Z Z Z Z (decide_eq_true (show a < ((ws.length : Nat) : Int) by omega)) <| xpkt Z Z Z Z <| xmv Z Z Z <| xmv Z Z Z <| xlenv hS Z Z Z u41_dSlice <| xmv Z Z Z ?_
   refine xcm (c := true) Z Z Z Z Z (decide_eq_true (show ((o.length : Nat) : Int) < ((lim : Nat) : Int) by omega)) <| xpkt Z Z Z Z <| X.nil <| T.yes Z <| T.seq <| tx [0,1,2,3,4,5,6] nf Z Z <| xmv Z Z Z <| xmv Z Z Z <| xix Z Z Z Z s43 ⟨q1.1, by omega⟩ ?_
   refine xld Z Z Z o90 .z (nth_u64' (a := a) (by omega)) <| xcvc Z Z Z u115_dIntu32 u90_fun_true (wrap32u _) <| xcvc Z Z Z u3_dInti64 u115_fun_true (IntWalk.i64_in _ (by have := w32_rng (ws.getD a.toNat 0); omega)) <| xas Z Z Z <| X.nil <| T.seq ?_
   refine tx [0,1] nf Z Z <| xmv Z Z Z <| xcm Z Z Z Z Z Z <| X.nil <| T.cond Z ?_ ?_
   ·intro hb1
    have hz : ¬ w32 (ws.getD a.toNat 0) = 0 := ne_of_bne hb1
    have hnext : (o ++ [w32 (ws.getD a.toNat 0)]) ++ walkN K.M ws (lim - (o ++ [w32 (ws.getD a.toNat 0)]).length) (K.M.Next (w32 (ws.getD a.toNat 0))) = tgt := by
     rw [← hw, show lim - o.length = lim - (o.length + 1) + 1 by omega, walkN_on ⟨q1.1, q1.2⟩ hz, List.length_append, List.append_assoc]
     rfl
    refine T.seq <| tx [0,1,2,3,4] (ct [2,3]) Z Z <| xmv Z Z Z <| xmv Z Z Z <| xbs Z Z Z s41 z3 (by decide) Z Z Z (fun _ => pend0) (fun b0 => ?_)
    refine xapv (n := 1) (news := [.int .i64 (w32 (ws.getD a.toNat 0))]) (rest2 := []) (Hr := [_, _]) (cn := i64s (o ++ [w32 (ws.getD a.toNat 0)])) (kn := o.length + 1) hS Z Z Z s41 Z .z Z (by simp [isCell]) ⟨by omega, by omega, by omega, by omega⟩ (i64s_app _ _) Z (fun _ => pend0) (fun v' B' hS' => ?_)
    refine xas Z Z Z <| X.nil <| T.seq <| tx [0,1,2,3] nf Z Z <| xmv Z Z Z <| xmv Z Z Z <| xcq Z Z Z Z g36 (lift_v Mo.ct_Next) (loc_wrap loc_emp) <| xas Z Z Z <| X.nil ?_
    exact T.gend (K.M.Next (w32 (ws.getD a.toNat 0)), v', B', o ++ [w32 (ws.getD a.toNat 0)]) (by show lim - (o ++ [_]).length < lim - o.length; rw [List.length_append]; show lim - (o.length + 1) < _; omega) (fun w h => ⟨⟨⟨by rw [show (o ++ [w32 (ws.getD a.toNat 0)]).length = o.length + 1 by simp]; exact hS', by show (o ++ [_]).length ≤ lim; rw [List.length_append]; show o.length + 1 ≤ lim; omega⟩, hnext⟩, h.reb (loc_wrap loc_emp) (Wk.tail)⟩) ⟨rfl, rfl, rfl, rfl, rfl, trivial⟩
   ·intro hb1
    have hz : w32 (ws.getD a.toNat 0) = 0 := by have h0 : (w32 (ws.getD a.toNat 0) != 0) = false := hb1; simpa using h0
    refine T.skip <| T.seq <| tx [0,1] nf Z Z <| xmv Z Z Z <| xas Z Z Z <| X.nil <| T.rets ?_
    refine TE.gq_ret ?_
    refine TE.ret1 rfl (fun W D h => ?_)
    rw [walkN_end hz, List.append_nil] at hw
    subst hw
    exact ⟨D, ⟨(ov, OB), rfl, hS, rfl, h⟩, fun _ hk => hk⟩
 ·intro pass
  refine T.seq <| tx [0] nf Z Z <| xas Z Z Z <| X.nil <| T.seq <| tx [0,1] nf Z Z <| xmv Z Z Z <| xas Z Z Z <| X.nil <| T.seq ?_
  exact T.glab pass (at0, .slice none 0 0, [], []) (fun w h => ⟨⟨⟨SlV.nil, Nat.zero_le _⟩, by show [] ++ walkN K.M ws (lim - 0) at0 = tgt; rw [List.nil_append, Nat.sub_zero]; exact ht⟩, h⟩) ⟨rfl, rfl, rfl, rfl, rfl, trivial⟩
end Go.Proofs.YtmpcfamcbaineaaGreat.Mo.Mp
