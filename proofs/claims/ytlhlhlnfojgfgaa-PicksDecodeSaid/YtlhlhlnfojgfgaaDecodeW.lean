/- The walk of the law PicksDecode: under what its callees answer it returns true, and nothing that was there has turned. -/
import Derived.Test.YtlhlhlnfojgfgaaLem2
import Derived.Deep.RegionWith
namespace Go.Proofs.Ytlhlhlnfojgfgaa.P
open Go.RowKit Go.Proofs.YtlhlhlnfojgfgaaW.PrintWords Go.Proofs.YtlhlhlnfojgfgaaW.PrintLast Go.Proofs.YtlhlhlnfojgfgaaW.PrintMore
attribute [local go_sem] max2_int min2_int max_two min_two max_three min_three max_four min_four
set_option linter.unusedVariables false
set_option linter.unusedSimpArgs false

theorem conv_at (W : World) (A : Option Addr) (n c : Nat) (xs : List Int) (h : (Kd.int .u8).C W A n xs) : (convert 22 9 (.slice A n c)).run Try.prog W = .ok (.string (strOfNums xs)) W :=
  Kd.C_string Try.underlying22 Try.underlying5 Try.underlying9 h
theorem drawn_below {w w' : World} (h : Drawn0 w w') : Below w.heap.size w w' := by
  obtain ⟨n, rfl⟩ := h
  exact pw_below_drewN (Below.refl _ _) n

set_option maxHeartbeats 4000000 in
set_option maxRecDepth 100000 in
theorem decode_walk (ka ks ke km kr : Nat) (A0 : Option Addr) (c0 : Nat) (l0 : List Int) (a1 : Int) (A2 : Option Addr) (c2 : Nat) (l2 : List S34) (d0 : List S34) (q0 p0 : List S47) (e0 : List Int) (w : World)
    (hr0 : Kd.C (Kd.int .u8) w A0 l0.length l0) (hc0 : l0.length ≤ c0) (hr2 : Kd.C k34 w A2 l2.length l2) (hc2 : l2.length ≤ c2) (h0 : l0.length ≤ 400) (h2 : l2.length ≤ 200)
    (fa : dustmanlaw04_awake.f ka = some true) (fd : picks_Decode.f l0 a1 = some d0) (fr : dustmanref04_Decode.f (strOfNums l0) a1 = some q0) (fs : dustmanlaw04_same.f ks d0 q0 = some true)
    (fe : picks_Encode.f ke l2 = some e0) (fm : dustmanlaw04_model.f km l2 = some p0) (fx : dustmanref04_Encode.f kr p0 = some (strOfNums e0)) :
    Calls Try.prog 3 #[.slice A0 l0.length c0, .int .i64 a1, .slice A2 l2.length c2] w fun e w' => e = .returned (.bool true) ∧ Below w.heap.size w w' := by
  have C0 := Aside0.mk hr0
  have C2 := Aside0.mk hr2
  have FA := Aside0.mk fa
  have FD := Aside0.mk fd
  have FR := Aside0.mk fr
  have FS := Aside0.mk fs
  have FE := Aside0.mk fe
  have FM := Aside0.mk fm
  have FX := Aside0.mk fx
  clear fa fd fr fs fe fm fx hr0 hr2
  have hb0 : decide ((400 : Int) < (l0.length : Int)) = false := by simp; omega
  have hb2 : decide ((200 : Int) < (l2.length : Int)) = false := by simp; omega
  go_enter Try.func3, Try.ntmps3
  go_wp2_with fail
  refine (dustmanlaw04_awake.calls ka true _ FA.out).mono ?_
  rintro e w1 ⟨rfl, hb⟩
  have HB := Aside0.mk hb
  clear hb
  go_wp2_with fail
  have hcA : (convert 22 9 (.slice A0 l0.length c0)).run Try.prog w1.drew = .ok (.string (strOfNums l0)) w1.drew := conv_at _ _ _ _ _ (Kd.C_below C0.out HB.out.drew)
  go_region_with (first
    | (go_at_call 11; refine (picks_Decode.calls _ _ l0 a1 d0 _ ?sA (by omega) FD.out).mono ?_; (case sA => exact Kd.C_below C0.out HB.out.drew); rintro e w2 ⟨v2, rfl, hR, hb⟩; obtain ⟨B2, m2, rfl⟩ := Kd.R_slice hR; have HB2 := Aside0.mk (HB.out.drew.trans (hb.mono HB.out.drew.size)); have HR2 := Aside0.mk hR; have hcB : (convert 22 9 (.slice A0 l0.length c0)).run Try.prog w2 = .ok (.string (strOfNums l0)) w2 := conv_at _ _ _ _ _ (Kd.C_below C0.out HB2.out); clear hR hb)
    | (go_at_call 12; refine (dustmanref04_Decode.calls _ a1 q0 _ FR.out).mono ?_; rintro e w3 ⟨v3, rfl, hR, hb⟩; obtain ⟨B3, m3, rfl⟩ := Kd.R_slice hR; have HB3 := Aside0.mk (HB2.out.trans (hb.mono HB2.out.size)); have HR3 := Aside0.mk (Kd.R_below HR2.out hb); have HQ3 := Aside0.mk hR; clear hR hb)
    | (go_at_call 10; refine (dustmanlaw04_same.calls ks _ _ d0 _ _ q0 true _ ?sB ?sC ?sD ?sE FS.out).mono ?_; (case sB => exact (Kd.R_reads' HR3.out).2.2); (case sC => exact (Kd.R_reads' HR3.out).2.1); (case sD => exact (Kd.R_reads' HQ3.out).2.2); (case sE => exact (Kd.R_reads' HQ3.out).2.1); rintro e w4 ⟨rfl, hdr⟩; have HB4 := Aside0.mk (HB3.out.trans ((drawn_below hdr).mono HB3.out.size)); clear hdr)
    | (go_at_call 13; refine (picks_Encode.calls ke _ _ l2 e0 _ ?sF (by omega) FE.out).mono ?_; (case sF => exact Kd.C_below C2.out HB4.out); rintro e w5 ⟨v5, rfl, hR, hb⟩; obtain ⟨B5, m5, rfl⟩ := Kd.R_slice hR; have HB5 := Aside0.mk (HB4.out.trans (hb.mono HB4.out.size)); have HR5 := Aside0.mk hR; have hcC : (convert 22 9 (.slice B5 e0.length m5)).run Try.prog w5 = .ok (.string (strOfNums e0)) w5 := conv_at _ _ _ _ _ (Kd.R_reads' HR5.out).2.2; clear hR hb)
    | (go_at_call 15; refine (dustmanlaw04_model.calls km _ _ l2 p0 _ ?sG (by omega) FM.out).mono ?_; (case sG => exact Kd.C_below C2.out HB5.out); rintro e w6 ⟨v6, rfl, hR, hb⟩; obtain ⟨B6, m6, rfl⟩ := Kd.R_slice hR; have HB6 := Aside0.mk (HB5.out.trans (hb.mono HB5.out.size)); have HR6 := Aside0.mk hR; have HE6 := Aside0.mk (Kd.R_below HR5.out hb); have hcD : (convert 22 9 (.slice B5 e0.length m5)).run Try.prog w6 = .ok (.string (strOfNums e0)) w6 := conv_at _ _ _ _ _ (Kd.R_reads' HE6.out).2.2; clear hR hb)
    | (go_at_call 14; refine (dustmanref04_Encode.calls kr _ _ p0 (strOfNums e0) _ ?sH ?sI FX.out).mono ?_; (case sH => exact (Kd.R_reads' HR6.out).2.2); (case sI => exact (Kd.R_reads' HR6.out).2.1); rintro e w7 ⟨rfl, hb⟩; have HB7 := Aside0.mk (HB6.out.trans (hb.mono HB6.out.size)); have HE7 := Aside0.mk (Kd.R_below HE6.out hb); have hcE : (convert 22 9 (.slice B5 e0.length m5)).run Try.prog w7 = .ok (.string (strOfNums e0)) w7 := conv_at _ _ _ _ _ (Kd.R_reads' HE7.out).2.2; clear hb))
  all_goals (clear hcA hcB hcC hcD hcE)
  all_goals go_wp2
  all_goals go_ret
  all_goals exact ⟨by first | rfl | simp, HB7.out⟩

/-- Where one of the two is long. -/
theorem decode_long (ka : Nat) (A0 : Option Addr) (c0 n0 : Nat) (a1 : Int) (A2 : Option Addr) (c2 n2 : Nat) (w : World) (fa : dustmanlaw04_awake.f ka = some true) (h : 400 < n0 ∨ 200 < n2) :
    Calls Try.prog 3 #[.slice A0 n0 c0, .int .i64 a1, .slice A2 n2 c2] w fun e w' => e = .returned (.bool true) ∧ Below w.heap.size w w' := by
  have FA := Aside0.mk fa
  clear fa
  by_cases h0 : 400 < n0
  · clear h
    have hb0 : decide ((400 : Int) < (n0 : Int)) = true := by simp; omega
    go_enter Try.func3, Try.ntmps3
    go_wp2_with fail
    refine (dustmanlaw04_awake.calls ka true _ FA.out).mono ?_
    rintro e w1 ⟨rfl, hb⟩
    have HB := Aside0.mk hb
    clear hb
    go_wp2
    go_ret
    exact ⟨rfl, HB.out⟩
  · have h2 : 200 < n2 := by omega
    clear h
    have hb0 : decide ((400 : Int) < (n0 : Int)) = false := by simp; omega
    have hb2 : decide ((200 : Int) < (n2 : Int)) = true := by simp; omega
    go_enter Try.func3, Try.ntmps3
    go_wp2_with fail
    refine (dustmanlaw04_awake.calls ka true _ FA.out).mono ?_
    rintro e w1 ⟨rfl, hb⟩
    have HB := Aside0.mk hb
    clear hb
    go_wp2
    go_ret
    exact ⟨rfl, HB.out⟩

end Go.Proofs.Ytlhlhlnfojgfgaa.P
