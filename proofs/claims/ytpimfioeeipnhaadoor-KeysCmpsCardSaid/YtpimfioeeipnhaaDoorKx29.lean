/- Contracts of the functions that a law reaches, written by a program (a changed copy of the kit's print, over contracts of our own). No condition. -/
import Derived.Test.YtpimfioeeipnhaaDoorKx0
import Derived.Test.YtpimfioeeipnhaaDoorFx
import Derived.Test.YtpimfioeeipnhaaDoorKx8
import Derived.Test.YtpimfioeeipnhaaDoorKx14
import Derived.Test.YtpimfioeeipnhaaDoorKx16
import Derived.Test.YtpimfioeeipnhaaDoorKx17
import Derived.Test.YtpimfioeeipnhaaDoorKx25
import Derived.Test.YtpimfioeeipnhaaDoorKx28
namespace Go.Proofs.YtpimfioeeipnhaaDoor.K
open Go.Proofs.YtpimfioeeipnhaaDoor.Hand
open Go.RowKit Go.Proofs.YtpimfioeeipnhaaDoorW.PrintWords Go.Proofs.YtpimfioeeipnhaaDoorW.PrintLast Go.Proofs.YtpimfioeeipnhaaDoorW.PrintMore
attribute [local go_sem] max2_int min2_int max_two min_two max_three min_three max_four min_four   -- for this text's walks alone
set_option linter.unusedVariables false
set_option linter.unusedSimpArgs false

/-! ### rhizomelaw03_KeysCmps: function 5 -/
mutual
def rhizomelaw03_KeysCmps.j0 : Nat → List (S34) → List (S34) → Bool → Option (Bool)
  | 0, _, _, _ => none
  | k + 1, x0, x1, x32 => if x32 = true then (some false) else ((rhizomeref03_Check.f k x0).bind fun t282 => (if t282 = 0 then ((rhizomeref03_Check.f k x1).bind fun t283 => (rhizomelaw03_KeysCmps.j1 k x0 x1 (t283 != 0))) else (rhizomelaw03_KeysCmps.j1 k x0 x1 true)))
def rhizomelaw03_KeysCmps.j1 : Nat → List (S34) → List (S34) → Bool → Option (Bool)
  | 0, _, _, _ => none
  | k + 1, x0, x1, x40 => if x40 = true then (some true) else ((keys_Cmp.f k x0 x1).bind fun t284 => ((rhizomeref03_Cmp.f k x0 x1).bind fun t285 => (if t284 = t285 then ((keys_Cmp.f k x1 x0).bind fun t286 => ((rhizomeref03_Cmp.f k x0 x1).bind fun t287 => (some (t286 == (wrap64 (-t287)))))) else (some false))))
end
def rhizomelaw03_KeysCmps.f (k : Nat) (l0 : List (S34)) (l1 : List (S34)) (a2 : ByteArray) : Option (Bool) := (keys_After.f k a2).bind fun bt277 => ((rhizomeref03_After.f k a2).bind fun bt279 => ((rhizomelaw03_fixed.f k).bind fun t281 => (if t281 = true then (if bt277.1.toList = bt279.1.toList then (rhizomelaw03_KeysCmps.j0 k l0 l1 (bt277.2 != bt279.2)) else (rhizomelaw03_KeysCmps.j0 k l0 l1 true)) else (rhizomelaw03_KeysCmps.j0 k l0 l1 true))))
theorem rhizomelaw03_KeysCmps.mono_l : ∀ k, (∀ y0 y1 y2, LeO (rhizomelaw03_KeysCmps.j0 k y0 y1 y2) (rhizomelaw03_KeysCmps.j0 (k + 1) y0 y1 y2)) ∧ (∀ y0 y1 y2, LeO (rhizomelaw03_KeysCmps.j1 k y0 y1 y2) (rhizomelaw03_KeysCmps.j1 (k + 1) y0 y1 y2))
  | 0 => ⟨fun _ _ _ r h => by simp [rhizomelaw03_KeysCmps.j0] at h, fun _ _ _ r h => by simp [rhizomelaw03_KeysCmps.j1] at h⟩
  | k + 1 => by
    obtain ⟨ih0, ih1⟩ := rhizomelaw03_KeysCmps.mono_l k
    refine ⟨?_, ?_⟩
    · intro y0 y1 y2
      unfold rhizomelaw03_KeysCmps.j0
      repeat' first
      | (with_reducible exact ih0 _ _ _)
      | (with_reducible exact ih1 _ _ _)
      | (with_reducible exact keys_After.mono _ _)
      | (with_reducible exact keys_Cmp.mono _ _ _)
      | (with_reducible exact rhizomelaw03_fixed.mono _)
      | (with_reducible exact rhizomeref03_After.mono _ _)
      | (with_reducible exact rhizomeref03_Check.mono _ _)
      | (with_reducible exact rhizomeref03_Cmp.mono _ _ _)
      | (with_reducible exact LeO.refl _)
      | (with_reducible exact LeO.none _)
      | (with_reducible refine LeO.ite ?_ ?_)
      | (with_reducible refine LeO.bind ?_ (fun _ => ?_))
      | exact ih0 _ _ _
      | exact ih1 _ _ _
      | exact keys_After.mono _ _
      | exact keys_Cmp.mono _ _ _
      | exact rhizomelaw03_fixed.mono _
      | exact rhizomeref03_After.mono _ _
      | exact rhizomeref03_Check.mono _ _
      | exact rhizomeref03_Cmp.mono _ _ _
      | exact LeO.none _
      | refine LeO.ite ?_ ?_
      | refine LeO.bind ?_ (fun _ => ?_)
    · intro y0 y1 y2
      unfold rhizomelaw03_KeysCmps.j1
      repeat' first
      | (with_reducible exact ih0 _ _ _)
      | (with_reducible exact ih1 _ _ _)
      | (with_reducible exact keys_After.mono _ _)
      | (with_reducible exact keys_Cmp.mono _ _ _)
      | (with_reducible exact rhizomelaw03_fixed.mono _)
      | (with_reducible exact rhizomeref03_After.mono _ _)
      | (with_reducible exact rhizomeref03_Check.mono _ _)
      | (with_reducible exact rhizomeref03_Cmp.mono _ _ _)
      | (with_reducible exact LeO.refl _)
      | (with_reducible exact LeO.none _)
      | (with_reducible refine LeO.ite ?_ ?_)
      | (with_reducible refine LeO.bind ?_ (fun _ => ?_))
      | exact ih0 _ _ _
      | exact ih1 _ _ _
      | exact keys_After.mono _ _
      | exact keys_Cmp.mono _ _ _
      | exact rhizomelaw03_fixed.mono _
      | exact rhizomeref03_After.mono _ _
      | exact rhizomeref03_Check.mono _ _
      | exact rhizomeref03_Cmp.mono _ _ _
      | exact LeO.none _
      | refine LeO.ite ?_ ?_
      | refine LeO.bind ?_ (fun _ => ?_)
theorem rhizomelaw03_KeysCmps.mono : ∀ a0 a1 a2 k, LeO (rhizomelaw03_KeysCmps.f k a0 a1 a2) (rhizomelaw03_KeysCmps.f (k + 1) a0 a1 a2) := by
  intro a0 a1 a2 k
  obtain ⟨ih0, ih1⟩ := rhizomelaw03_KeysCmps.mono_l k
  unfold rhizomelaw03_KeysCmps.f
  repeat' first
      | (with_reducible exact ih0 _ _ _)
      | (with_reducible exact ih1 _ _ _)
      | (with_reducible exact keys_After.mono _ _)
      | (with_reducible exact keys_Cmp.mono _ _ _)
      | (with_reducible exact rhizomelaw03_fixed.mono _)
      | (with_reducible exact rhizomeref03_After.mono _ _)
      | (with_reducible exact rhizomeref03_Check.mono _ _)
      | (with_reducible exact rhizomeref03_Cmp.mono _ _ _)
      | (with_reducible exact LeO.refl _)
      | (with_reducible exact LeO.none _)
      | (with_reducible refine LeO.ite ?_ ?_)
      | (with_reducible refine LeO.bind ?_ (fun _ => ?_))
      | exact ih0 _ _ _
      | exact ih1 _ _ _
      | exact keys_After.mono _ _
      | exact keys_Cmp.mono _ _ _
      | exact rhizomelaw03_fixed.mono _
      | exact rhizomeref03_After.mono _ _
      | exact rhizomeref03_Check.mono _ _
      | exact rhizomeref03_Cmp.mono _ _ _
      | exact LeO.none _
      | refine LeO.ite ?_ ?_
      | refine LeO.bind ?_ (fun _ => ?_)
set_option maxHeartbeats 8000000 in
set_option maxRecDepth 100000 in
theorem rhizomelaw03_KeysCmps.calls (k : Nat) (A0 : Option Addr) (c0 : Nat) (l0 : List (S34)) (A1 : Option Addr) (c1 : Nat) (l1 : List (S34)) (a2 : ByteArray) (r : Bool) (w : World) (hr0 : Kd.C k34 w A0 l0.length l0) (hc0 : l0.length ≤ c0) (hr1 : Kd.C k34 w A1 l1.length l1) (hc1 : l1.length ≤ c1) (h : rhizomelaw03_KeysCmps.f k l0 l1 a2 = some r) (hr : r = true := by rfl) :
    Calls Tryd.prog 5 #[.slice A0 l0.length c0, .slice A1 l1.length c1, .string a2] w fun e w' => e = .returned (.bool r) ∧ Below w.heap.size w w' := by
  subst hr
  have HR0 := Aside0.mk hr0
  have HC0 := Aside0.mk hc0
  clear hr0 hc0
  have HR1 := Aside0.mk hr1
  have HC1 := Aside0.mk hc1
  clear hr1 hc1
  have HB := Aside0.mk (Below.refl w.heap.size w)
  have H : ((keys_After.f k a2).bind fun bt277 => ((rhizomeref03_After.f k a2).bind fun bt279 => ((rhizomelaw03_fixed.f k).bind fun t281 => (if t281 = true then (if bt277.1.toList = bt279.1.toList then (rhizomelaw03_KeysCmps.j0 k l0 l1 (bt277.2 != bt279.2)) else (rhizomelaw03_KeysCmps.j0 k l0 l1 true)) else (rhizomelaw03_KeysCmps.j0 k l0 l1 true))))) = some true := h
  clear h
  replace H := Option.bind_eq_some_iff.mp H
  obtain ⟨⟨t277, t278⟩, A40, H⟩ := H
  replace H : ((rhizomeref03_After.f k a2).bind fun bt279 => ((rhizomelaw03_fixed.f k).bind fun t281 => (if t281 = true then (if t277.toList = bt279.1.toList then (rhizomelaw03_KeysCmps.j0 k l0 l1 (t278 != bt279.2)) else (rhizomelaw03_KeysCmps.j0 k l0 l1 true)) else (rhizomelaw03_KeysCmps.j0 k l0 l1 true)))) = some true := H
  have A4 := Aside0.mk A40
  clear A40
  replace H := Option.bind_eq_some_iff.mp H
  obtain ⟨⟨t279, t280⟩, A50, H⟩ := H
  replace H : ((rhizomelaw03_fixed.f k).bind fun t281 => (if t281 = true then (if t277.toList = t279.toList then (rhizomelaw03_KeysCmps.j0 k l0 l1 (t278 != t280)) else (rhizomelaw03_KeysCmps.j0 k l0 l1 true)) else (rhizomelaw03_KeysCmps.j0 k l0 l1 true))) = some true := H
  have A5 := Aside0.mk A50
  clear A50
  have HC6 := Aside0.mk H
  clear H
  go_enter Tryd.func5, Tryd.ntmps5
  go_upto_region 3 with (first | ((with_reducible refine gate_callee (f := 18) rfl ?_); refine goesL_ (some 13) rfl rfl Tryd.func18 (by kernel_rfl) rfl #[.string a2] rfl (by (try simp only [List.map_toArray, List.map_cons, List.map_nil]); first | done | rfl | (simp only [List.length_drop, List.length_take]; rfl)) ?_; (with_reducible refine (keys_After.calls k a2 t277 t278 _ A4.out).mono ?_); rintro e w7 ⟨rfl, hb⟩; refine ⟨_, rfl, ?_⟩; have n0_ := Aside0.mk (below_step (by repeat (first | (with_reducible first | exact HB.out | apply below_alloc | apply pw_below_drewN | apply below_drew1) | exact HB.out)) hb); clear HB; have HB := n0_; clear n0_; (try clear hb); (try clear hb2); (try clear hk); (try clear hi)) | ((with_reducible refine gate_callee (f := 19) rfl ?_); refine goesL_ (some 18) rfl rfl Tryd.func19 (by kernel_rfl) rfl #[.string a2] rfl (by (try simp only [List.map_toArray, List.map_cons, List.map_nil]); first | done | rfl | (simp only [List.length_drop, List.length_take]; rfl)) ?_; (with_reducible refine (rhizomeref03_After.calls k a2 t279 t280 _ A5.out).mono ?_); rintro e w8 ⟨rfl, hb⟩; refine ⟨_, rfl, ?_⟩; have n0_ := Aside0.mk (below_step (by repeat (first | (with_reducible first | exact HB.out | apply below_alloc | apply pw_below_drewN | apply below_drew1) | exact HB.out)) hb); clear HB; have HB := n0_; clear n0_; (try clear hb); (try clear hb2); (try clear hk); (try clear hi)))
  (try simp only [Act.put, List.setIfInBounds_toArray, List.set_cons_zero, List.set_cons_succ])
  go_cut [32] (fun v32 wc => ∃ (kq : Nat) (x32_5 : Bool), v32 = .bool x32_5 ∧ Aside0 (rhizomelaw03_KeysCmps.j0 kq l0 l1 x32_5 = some true) ∧ Aside0 (kq ≤ k) ∧ Aside0 (Below w.heap.size w wc))
  case first =>
    have H := HC6.out
    clear HC6
    replace H := Option.bind_eq_some_iff.mp H
    obtain ⟨t281, A90, H⟩ := H
    replace H : (if t281 = true then (if t277.toList = t279.toList then (rhizomelaw03_KeysCmps.j0 k l0 l1 (t278 != t280)) else (rhizomelaw03_KeysCmps.j0 k l0 l1 true)) else (rhizomelaw03_KeysCmps.j0 k l0 l1 true)) = some true := H
    have A9 := Aside0.mk A90
    clear A90
    by_cases c10 : t281 = true
    · subst c10
      have H1 : (if t277.toList = t279.toList then (rhizomelaw03_KeysCmps.j0 k l0 l1 (t278 != t280)) else (rhizomelaw03_KeysCmps.j0 k l0 l1 true)) = some true := by rw [if_pos rfl] at H; exact H
      clear H
      have H := H1
      clear H1
      by_cases c11 : t277.toList = t279.toList
      · rw [if_pos c11] at H
        have c11b0 : (t277.toList == t279.toList) = true := beq_iff_eq.mpr c11
        have c11b1 : (t277.toList != t279.toList) = false := bne_eq_false_iff_eq.mpr c11
        clear c11
        (first | rw [c11b0] | (simp only [i64_w, i32_w]; rw [c11b0]) | skip)
        have H' := Aside0.mk H
        clear H
        go_wp2_with (first | ((with_reducible refine gate_callee (f := 13) rfl ?_); refine goesL_ (some 21) rfl rfl Tryd.func13 (by kernel_rfl) rfl #[] rfl (by (try simp only [List.map_toArray, List.map_cons, List.map_nil]); first | done | rfl | (simp only [List.length_drop, List.length_take]; rfl)) ?_; (with_reducible refine (rhizomelaw03_fixed.calls k  true _ A9.out).mono ?_); rintro e w12 ⟨rfl, hb⟩; refine ⟨_, rfl, ?_⟩; have n0_ := Aside0.mk (below_step (by repeat (first | (with_reducible first | exact HB.out | apply below_alloc | apply pw_below_drewN | apply below_drew1) | exact HB.out)) hb); clear HB; have HB := n0_; clear n0_; (try clear hb); (try clear hb2); (try clear hk); (try clear hi)))
        go_meet
        case rel => exact ⟨_, ((t278 != t280)), (by first | rfl | (simp; done) | (simp [*]; done)), H', ⟨by first | omega | exact Nat.le_refl _⟩, ⟨by repeat (first | (with_reducible first | exact HB.out | apply below_alloc | apply pw_below_drewN | apply below_drew1) | exact HB.out)⟩⟩
      · rw [if_neg c11] at H
        have c11b0 : (t277.toList == t279.toList) = false := beq_eq_false_iff_ne.mpr c11
        have c11b1 : (t277.toList != t279.toList) = true := bne_iff_ne.mpr c11
        (first | rw [c11b0] | (simp only [i64_w, i32_w]; rw [c11b0]) | skip)
        have H' := Aside0.mk H
        clear H
        go_wp2_with (first | ((with_reducible refine gate_callee (f := 13) rfl ?_); refine goesL_ (some 21) rfl rfl Tryd.func13 (by kernel_rfl) rfl #[] rfl (by (try simp only [List.map_toArray, List.map_cons, List.map_nil]); first | done | rfl | (simp only [List.length_drop, List.length_take]; rfl)) ?_; (with_reducible refine (rhizomelaw03_fixed.calls k  true _ A9.out).mono ?_); rintro e w13 ⟨rfl, hb⟩; refine ⟨_, rfl, ?_⟩; have n0_ := Aside0.mk (below_step (by repeat (first | (with_reducible first | exact HB.out | apply below_alloc | apply pw_below_drewN | apply below_drew1) | exact HB.out)) hb); clear HB; have HB := n0_; clear n0_; (try clear hb); (try clear hb2); (try clear hk); (try clear hi)))
        go_meet
        case rel => exact ⟨_, (true), (by first | rfl | (simp; done) | (simp [*]; done)), H', ⟨by first | omega | exact Nat.le_refl _⟩, ⟨by repeat (first | (with_reducible first | exact HB.out | apply below_alloc | apply pw_below_drewN | apply below_drew1) | exact HB.out)⟩⟩
    · exact absurd (fixed_true A9.out) c10
  case rest =>
    clear HC6
    try clear c1
    try clear p2
    try clear c5
    try clear c10
    try clear c11
    try clear c11b0
    try clear c11b1
    try clear c13
    obtain ⟨kq, x32_5, rfl, HA, HJ5, HB⟩ := hcut
    cases kq with
    | zero => exact absurd HA.out (by simp [rhizomelaw03_KeysCmps.j0])
    | succ kj5 =>
      have H := HA.out
      clear HA
      simp only [rhizomelaw03_KeysCmps.j0] at H
      by_cases c15 : x32_5 = true
      · subst c15
        have H1 : (some false) = some true := by rw [if_pos rfl] at H; exact H
        clear H
        have H := H1
        clear H1
        exact absurd H (by simp)
      · replace c15 := Bool.eq_false_iff.mpr c15
        subst c15
        have H1 : ((rhizomeref03_Check.f kj5 l0).bind fun t282 => (if t282 = 0 then ((rhizomeref03_Check.f kj5 l1).bind fun t283 => (rhizomelaw03_KeysCmps.j1 kj5 l0 l1 (t283 != 0))) else (rhizomelaw03_KeysCmps.j1 kj5 l0 l1 true))) = some true := by rw [if_neg (show ¬ (false = true) by decide)] at H; exact H
        clear H
        have H := H1
        clear H1
        have HC16 := Aside0.mk H
        clear H
        go_upto_region 5 with (fail)
        go_cut [40] (fun v40 wc => ∃ (kq : Nat) (x40_15 : Bool), v40 = .bool x40_15 ∧ Aside0 (rhizomelaw03_KeysCmps.j1 kq l0 l1 x40_15 = some true) ∧ Aside0 (kq ≤ kj5) ∧ Aside0 (Below w.heap.size w wc))
        case first =>
          have H := HC16.out
          clear HC16
          replace H := Option.bind_eq_some_iff.mp H
          obtain ⟨t282, A170, H⟩ := H
          replace H : (if t282 = 0 then ((rhizomeref03_Check.f kj5 l1).bind fun t283 => (rhizomelaw03_KeysCmps.j1 kj5 l0 l1 (t283 != 0))) else (rhizomelaw03_KeysCmps.j1 kj5 l0 l1 true)) = some true := H
          have A17 := Aside0.mk A170
          clear A170
          by_cases c18 : t282 = 0
          · rw [if_pos c18] at H
            have c18b0 : (t282 == 0) = true := beq_iff_eq.mpr c18
            have c18b1 : (t282 != 0) = false := bne_eq_false_iff_eq.mpr c18
            clear c18
            (first | rw [c18b0] | (simp only [i64_w, i32_w]; rw [c18b0]) | skip)
            replace H := Option.bind_eq_some_iff.mp H
            obtain ⟨t283, A190, H⟩ := H
            replace H : (rhizomelaw03_KeysCmps.j1 kj5 l0 l1 (t283 != 0)) = some true := H
            have A19 := Aside0.mk A190
            clear A190
            have H' := Aside0.mk H
            clear H
            go_wp2_with (first | ((with_reducible refine gate_callee (f := 20) rfl ?_); refine goesL_ (some 34) rfl rfl Tryd.func20 (by kernel_rfl) rfl #[.slice A0 l0.length c0] rfl (by (try simp only [List.map_toArray, List.map_cons, List.map_nil]); first | done | rfl | (simp only [List.length_drop, List.length_take]; rfl)) ?_; (with_reducible refine (rhizomeref03_Check.calls kj5 _ _ l0 t282 _ ?side1 ?side2 A17.out).mono ?_); (case side1 => repeat (first | exact (Kd.C_below HR0.out HB.out) | (with_reducible refine Kd.C_alloc ?_ _) | (with_reducible refine Kd.C_drewN ?_ _) | (with_reducible refine Kd.C_drew ?_))); (case side2 => exact HC0.out); rintro e w20 ⟨rfl, hb⟩; refine ⟨_, rfl, ?_⟩; have n0_ := Aside0.mk (below_step (by repeat (first | (with_reducible first | exact HB.out | apply below_alloc | apply pw_below_drewN | apply below_drew1) | exact HB.out)) hb); clear HB; have HB := n0_; clear n0_; (try clear hb); (try clear hb2); (try clear hk); (try clear hi)) | (go_at_call 20; (with_reducible refine (rhizomeref03_Check.calls kj5 _ _ l1 t283 _ ?side1 ?side2 A19.out).mono ?_); (case side1 => repeat (first | exact (Kd.C_below HR1.out HB.out) | (with_reducible refine Kd.C_alloc ?_ _) | (with_reducible refine Kd.C_drewN ?_ _) | (with_reducible refine Kd.C_drew ?_))); (case side2 => exact HC1.out); rintro e w21 ⟨rfl, hb⟩; have n0_ := Aside0.mk (below_step (by repeat (first | (with_reducible first | exact HB.out | apply below_alloc | apply pw_below_drewN | apply below_drew1) | exact HB.out)) hb); clear HB; have HB := n0_; clear n0_; (try clear hb); (try clear hb2); (try clear hk); (try clear hi)))
            go_meet
            case rel => exact ⟨_, ((t283 != 0)), (by first | rfl | (simp; done) | (simp [*]; done)), H', ⟨by have := HJ5.out; first | omega | exact Nat.le_refl _⟩, ⟨by repeat (first | (with_reducible first | exact HB.out | apply below_alloc | apply pw_below_drewN | apply below_drew1) | exact HB.out)⟩⟩
          · rw [if_neg c18] at H
            have c18b0 : (t282 == 0) = false := beq_eq_false_iff_ne.mpr c18
            have c18b1 : (t282 != 0) = true := bne_iff_ne.mpr c18
            (first | rw [c18b0] | (simp only [i64_w, i32_w]; rw [c18b0]) | skip)
            have H' := Aside0.mk H
            clear H
            go_wp2_with (first | ((with_reducible refine gate_callee (f := 20) rfl ?_); refine goesL_ (some 34) rfl rfl Tryd.func20 (by kernel_rfl) rfl #[.slice A0 l0.length c0] rfl (by (try simp only [List.map_toArray, List.map_cons, List.map_nil]); first | done | rfl | (simp only [List.length_drop, List.length_take]; rfl)) ?_; (with_reducible refine (rhizomeref03_Check.calls kj5 _ _ l0 t282 _ ?side1 ?side2 A17.out).mono ?_); (case side1 => repeat (first | exact (Kd.C_below HR0.out HB.out) | (with_reducible refine Kd.C_alloc ?_ _) | (with_reducible refine Kd.C_drewN ?_ _) | (with_reducible refine Kd.C_drew ?_))); (case side2 => exact HC0.out); rintro e w22 ⟨rfl, hb⟩; refine ⟨_, rfl, ?_⟩; have n0_ := Aside0.mk (below_step (by repeat (first | (with_reducible first | exact HB.out | apply below_alloc | apply pw_below_drewN | apply below_drew1) | exact HB.out)) hb); clear HB; have HB := n0_; clear n0_; (try clear hb); (try clear hb2); (try clear hk); (try clear hi)))
            go_meet
            case rel => exact ⟨_, (true), (by first | rfl | (simp; done) | (simp [*]; done)), H', ⟨by have := HJ5.out; first | omega | exact Nat.le_refl _⟩, ⟨by repeat (first | (with_reducible first | exact HB.out | apply below_alloc | apply pw_below_drewN | apply below_drew1) | exact HB.out)⟩⟩
        case rest =>
          clear HC16
          try clear c1
          try clear c2
          try clear p2
          try clear c5
          try clear c10
          try clear c11
          try clear c11b0
          try clear c11b1
          try clear c13
          try clear c15
          try clear c18
          try clear c18b0
          try clear c18b1
          try clear c19
          try clear c20
          try clear p2
          obtain ⟨kq, x40_15, rfl, HA, HJ15, HB⟩ := hcut
          cases kq with
          | zero => exact absurd HA.out (by simp [rhizomelaw03_KeysCmps.j1])
          | succ kj15 =>
            have H := HA.out
            clear HA
            simp only [rhizomelaw03_KeysCmps.j1] at H
            by_cases c23 : x40_15 = true
            · subst c23
              have H1 : (some true) = some true := rfl
              clear H
              have H := H1
              clear H1
              first | (obtain rfl := Option.some.inj H) | (have HR_ := Option.some.inj H)
              go_wp2
              go_ret
              exact ⟨by first | rfl | (simp [errW_none, errW_some] <;> rfl) | (simp [*, errW_none, errW_some] <;> rfl), by repeat (first | (with_reducible first | exact HB.out | apply below_alloc | apply pw_below_drewN | apply below_drew1) | exact HB.out)⟩
            · replace c23 := Bool.eq_false_iff.mpr c23
              subst c23
              have H1 : ((keys_Cmp.f kj15 l0 l1).bind fun t284 => ((rhizomeref03_Cmp.f kj15 l0 l1).bind fun t285 => (if t284 = t285 then ((keys_Cmp.f kj15 l1 l0).bind fun t286 => ((rhizomeref03_Cmp.f kj15 l0 l1).bind fun t287 => (some (t286 == (wrap64 (-t287)))))) else (some false)))) = some true := by rw [if_neg (show ¬ (false = true) by decide)] at H; exact H
              clear H
              have H := H1
              clear H1
              replace H := Option.bind_eq_some_iff.mp H
              obtain ⟨t284, A240, H⟩ := H
              replace H : ((rhizomeref03_Cmp.f kj15 l0 l1).bind fun t285 => (if t284 = t285 then ((keys_Cmp.f kj15 l1 l0).bind fun t286 => ((rhizomeref03_Cmp.f kj15 l0 l1).bind fun t287 => (some (t286 == (wrap64 (-t287)))))) else (some false))) = some true := H
              have A24 := Aside0.mk A240
              clear A240
              replace H := Option.bind_eq_some_iff.mp H
              obtain ⟨t285, A250, H⟩ := H
              replace H : (if t284 = t285 then ((keys_Cmp.f kj15 l1 l0).bind fun t286 => ((rhizomeref03_Cmp.f kj15 l0 l1).bind fun t287 => (some (t286 == (wrap64 (-t287)))))) else (some false)) = some true := H
              have A25 := Aside0.mk A250
              clear A250
              by_cases c26 : t284 = t285
              · rw [if_pos c26] at H
                have c26b0 : (t284 == t285) = true := beq_iff_eq.mpr c26
                have c26b1 : (t284 != t285) = false := bne_eq_false_iff_eq.mpr c26
                clear c26
                replace H := Option.bind_eq_some_iff.mp H
                obtain ⟨t286, A270, H⟩ := H
                replace H : ((rhizomeref03_Cmp.f kj15 l0 l1).bind fun t287 => (some (t286 == (wrap64 (-t287))))) = some true := H
                have A27 := Aside0.mk A270
                clear A270
                replace H := Option.bind_eq_some_iff.mp H
                obtain ⟨t287, A280, H⟩ := H
                replace H : (some (t286 == (wrap64 (-t287)))) = some true := H
                have A28 := Aside0.mk A280
                clear A280
                first | (obtain rfl := Option.some.inj H) | (have HR_ := Option.some.inj H)
                go_wp2_with (first | ((with_reducible refine gate_callee (f := 21) rfl ?_); refine goesL_ (some 43) rfl rfl Tryd.func21 (by kernel_rfl) rfl #[.slice A0 l0.length c0, .slice A1 l1.length c1] rfl (by (try simp only [List.map_toArray, List.map_cons, List.map_nil]); first | done | rfl | (simp only [List.length_drop, List.length_take]; rfl)) ?_; (with_reducible refine (keys_Cmp.calls kj15 _ _ l0 _ _ l1 t284 _ ?side1 ?side2 ?side3 ?side4 A24.out).mono ?_); (case side1 => repeat (first | exact (Kd.C_below HR0.out HB.out) | (with_reducible refine Kd.C_alloc ?_ _) | (with_reducible refine Kd.C_drewN ?_ _) | (with_reducible refine Kd.C_drew ?_))); (case side2 => exact HC0.out); (case side3 => repeat (first | exact (Kd.C_below HR1.out HB.out) | (with_reducible refine Kd.C_alloc ?_ _) | (with_reducible refine Kd.C_drewN ?_ _) | (with_reducible refine Kd.C_drew ?_))); (case side4 => exact HC1.out); rintro e w29 ⟨rfl, hb⟩; refine ⟨_, rfl, ?_⟩; have n0_ := Aside0.mk (below_step (by repeat (first | (with_reducible first | exact HB.out | apply below_alloc | apply pw_below_drewN | apply below_drew1) | exact HB.out)) hb); clear HB; have HB := n0_; clear n0_; (try clear hb); (try clear hb2); (try clear hk); (try clear hi)) | ((with_reducible refine gate_callee (f := 22) rfl ?_); refine goesL_ (some 46) rfl rfl Tryd.func22 (by kernel_rfl) rfl #[.slice A0 l0.length c0, .slice A1 l1.length c1] rfl (by (try simp only [List.map_toArray, List.map_cons, List.map_nil]); first | done | rfl | (simp only [List.length_drop, List.length_take]; rfl)) ?_; (with_reducible refine (rhizomeref03_Cmp.calls kj15 _ _ l0 _ _ l1 t285 _ ?side1 ?side2 ?side3 ?side4 A25.out).mono ?_); (case side1 => repeat (first | exact (Kd.C_below HR0.out HB.out) | (with_reducible refine Kd.C_alloc ?_ _) | (with_reducible refine Kd.C_drewN ?_ _) | (with_reducible refine Kd.C_drew ?_))); (case side2 => exact HC0.out); (case side3 => repeat (first | exact (Kd.C_below HR1.out HB.out) | (with_reducible refine Kd.C_alloc ?_ _) | (with_reducible refine Kd.C_drewN ?_ _) | (with_reducible refine Kd.C_drew ?_))); (case side4 => exact HC1.out); rintro e w30 ⟨rfl, hb⟩; refine ⟨_, rfl, ?_⟩; have n0_ := Aside0.mk (below_step (by repeat (first | (with_reducible first | exact HB.out | apply below_alloc | apply pw_below_drewN | apply below_drew1) | exact HB.out)) hb); clear HB; have HB := n0_; clear n0_; (try clear hb); (try clear hb2); (try clear hk); (try clear hi)) | (go_at_call 21; (with_reducible refine (keys_Cmp.calls kj15 _ _ l1 _ _ l0 t286 _ ?side1 ?side2 ?side3 ?side4 A27.out).mono ?_); (case side1 => repeat (first | exact (Kd.C_below HR1.out HB.out) | (with_reducible refine Kd.C_alloc ?_ _) | (with_reducible refine Kd.C_drewN ?_ _) | (with_reducible refine Kd.C_drew ?_))); (case side2 => exact HC1.out); (case side3 => repeat (first | exact (Kd.C_below HR0.out HB.out) | (with_reducible refine Kd.C_alloc ?_ _) | (with_reducible refine Kd.C_drewN ?_ _) | (with_reducible refine Kd.C_drew ?_))); (case side4 => exact HC0.out); rintro e w31 ⟨rfl, hb⟩; have n0_ := Aside0.mk (below_step (by repeat (first | (with_reducible first | exact HB.out | apply below_alloc | apply pw_below_drewN | apply below_drew1) | exact HB.out)) hb); clear HB; have HB := n0_; clear n0_; (try clear hb); (try clear hb2); (try clear hk); (try clear hi)) | (go_at_call 22; (with_reducible refine (rhizomeref03_Cmp.calls kj15 _ _ l0 _ _ l1 t287 _ ?side1 ?side2 ?side3 ?side4 A28.out).mono ?_); (case side1 => repeat (first | exact (Kd.C_below HR0.out HB.out) | (with_reducible refine Kd.C_alloc ?_ _) | (with_reducible refine Kd.C_drewN ?_ _) | (with_reducible refine Kd.C_drew ?_))); (case side2 => exact HC0.out); (case side3 => repeat (first | exact (Kd.C_below HR1.out HB.out) | (with_reducible refine Kd.C_alloc ?_ _) | (with_reducible refine Kd.C_drewN ?_ _) | (with_reducible refine Kd.C_drew ?_))); (case side4 => exact HC1.out); rintro e w32 ⟨rfl, hb⟩; have n0_ := Aside0.mk (below_step (by repeat (first | (with_reducible first | exact HB.out | apply below_alloc | apply pw_below_drewN | apply below_drew1) | exact HB.out)) hb); clear HB; have HB := n0_; clear n0_; (try clear hb); (try clear hb2); (try clear hk); (try clear hi)))
                go_ret
                exact ⟨by first | rfl | (simp [errW_none, errW_some] <;> rfl) | (simp [*, errW_none, errW_some] <;> rfl), by repeat (first | (with_reducible first | exact HB.out | apply below_alloc | apply pw_below_drewN | apply below_drew1) | exact HB.out)⟩
              · rw [if_neg c26] at H
                have c26b0 : (t284 == t285) = false := beq_eq_false_iff_ne.mpr c26
                have c26b1 : (t284 != t285) = true := bne_iff_ne.mpr c26
                exact absurd H (by simp)

end Go.Proofs.YtpimfioeeipnhaaDoor.K
