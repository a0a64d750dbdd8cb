/- Contracts of the functions that a law reaches, written by a program (a changed copy of the kit's print, over contracts of our own). No condition. -/
import Derived.Test.YtpimfioeeipnhaaDoorKx0
import Derived.Test.YtpimfioeeipnhaaDoorFx
import Derived.Test.YtpimfioeeipnhaaDoorKx4
import Derived.Test.YtpimfioeeipnhaaDoorKx7
import Derived.Test.YtpimfioeeipnhaaDoorKx12
import Derived.Test.YtpimfioeeipnhaaDoorKx17
namespace Go.Proofs.YtpimfioeeipnhaaDoor.K
open Go.Proofs.YtpimfioeeipnhaaDoor.Hand
open Go.RowKit Go.Proofs.YtpimfioeeipnhaaDoorW.PrintWords Go.Proofs.YtpimfioeeipnhaaDoorW.PrintLast Go.Proofs.YtpimfioeeipnhaaDoorW.PrintMore
attribute [local go_sem] max2_int min2_int max_two min_two max_three min_three max_four min_four   -- for this text's walks alone
set_option linter.unusedVariables false
set_option linter.unusedSimpArgs false

/-! ### rhizomelaw03_KeysLays: function 3 -/
def rhizomelaw03_KeysLays.f (k : Nat) (l0 : List (S34)) : Option (Bool) := (keys_Encode.f k l0).bind fun bt213 => ((rhizomeref03_Encode.f k l0).bind fun bt215 => ((rhizomelaw03_fixed.f k).bind fun t217 => (if t217 = true then (if bt213.1.toList = bt215.1.toList then (if bt213.2 = bt215.2 then ((keys_Check.f k l0).bind fun t218 => (some (t218 == bt215.2))) else (some false)) else (some false)) else (some false))))
theorem rhizomelaw03_KeysLays.mono : ∀ a0 k, LeO (rhizomelaw03_KeysLays.f k a0) (rhizomelaw03_KeysLays.f (k + 1) a0) := by
  intro a0 k
  unfold rhizomelaw03_KeysLays.f
  repeat' first
      | (with_reducible exact keys_Check.mono _ _)
      | (with_reducible exact keys_Encode.mono _ _)
      | (with_reducible exact rhizomelaw03_fixed.mono _)
      | (with_reducible exact rhizomeref03_Encode.mono _ _)
      | (with_reducible exact LeO.refl _)
      | (with_reducible exact LeO.none _)
      | (with_reducible refine LeO.ite ?_ ?_)
      | (with_reducible refine LeO.bind ?_ (fun _ => ?_))
      | exact keys_Check.mono _ _
      | exact keys_Encode.mono _ _
      | exact rhizomelaw03_fixed.mono _
      | exact rhizomeref03_Encode.mono _ _
      | exact LeO.none _
      | refine LeO.ite ?_ ?_
      | refine LeO.bind ?_ (fun _ => ?_)
set_option maxHeartbeats 8000000 in
set_option maxRecDepth 100000 in
theorem rhizomelaw03_KeysLays.calls (k : Nat) (A0 : Option Addr) (c0 : Nat) (l0 : List (S34)) (r : Bool) (w : World) (hr0 : Kd.C k34 w A0 l0.length l0) (hc0 : l0.length ≤ c0) (h : rhizomelaw03_KeysLays.f k l0 = some r) (hr : r = true := by rfl) :
    Calls Tryd.prog 3 #[.slice A0 l0.length c0] w fun e w' => e = .returned (.bool r) ∧ Below w.heap.size w w' := by
  subst hr
  have HR0 := Aside0.mk hr0
  have HC0 := Aside0.mk hc0
  clear hr0 hc0
  have HB := Aside0.mk (Below.refl w.heap.size w)
  have H : ((keys_Encode.f k l0).bind fun bt213 => ((rhizomeref03_Encode.f k l0).bind fun bt215 => ((rhizomelaw03_fixed.f k).bind fun t217 => (if t217 = true then (if bt213.1.toList = bt215.1.toList then (if bt213.2 = bt215.2 then ((keys_Check.f k l0).bind fun t218 => (some (t218 == bt215.2))) else (some false)) else (some false)) else (some false))))) = some true := h
  clear h
  replace H := Option.bind_eq_some_iff.mp H
  obtain ⟨⟨t213, t214⟩, A20, H⟩ := H
  replace H : ((rhizomeref03_Encode.f k l0).bind fun bt215 => ((rhizomelaw03_fixed.f k).bind fun t217 => (if t217 = true then (if t213.toList = bt215.1.toList then (if t214 = bt215.2 then ((keys_Check.f k l0).bind fun t218 => (some (t218 == bt215.2))) else (some false)) else (some false)) else (some false)))) = some true := H
  have A2 := Aside0.mk A20
  clear A20
  replace H := Option.bind_eq_some_iff.mp H
  obtain ⟨⟨t215, t216⟩, A30, H⟩ := H
  replace H : ((rhizomelaw03_fixed.f k).bind fun t217 => (if t217 = true then (if t213.toList = t215.toList then (if t214 = t216 then ((keys_Check.f k l0).bind fun t218 => (some (t218 == t216))) else (some false)) else (some false)) else (some false))) = some true := H
  have A3 := Aside0.mk A30
  clear A30
  replace H := Option.bind_eq_some_iff.mp H
  obtain ⟨t217, A40, H⟩ := H
  replace H : (if t217 = true then (if t213.toList = t215.toList then (if t214 = t216 then ((keys_Check.f k l0).bind fun t218 => (some (t218 == t216))) else (some false)) else (some false)) else (some false)) = some true := H
  have A4 := Aside0.mk A40
  clear A40
  by_cases c5 : t217 = true
  · subst c5
    have H1 : (if t213.toList = t215.toList then (if t214 = t216 then ((keys_Check.f k l0).bind fun t218 => (some (t218 == t216))) else (some false)) else (some false)) = some true := by rw [if_pos rfl] at H; exact H
    clear H
    have H := H1
    clear H1
    by_cases c6 : t213.toList = t215.toList
    · rw [if_pos c6] at H
      have c6b0 : (t213.toList == t215.toList) = true := beq_iff_eq.mpr c6
      have c6b1 : (t213.toList != t215.toList) = false := bne_eq_false_iff_eq.mpr c6
      clear c6
      by_cases c7 : t214 = t216
      · rw [if_pos c7] at H
        have c7b0 : (t214 == t216) = true := beq_iff_eq.mpr c7
        have c7b1 : (t214 != t216) = false := bne_eq_false_iff_eq.mpr c7
        clear c7
        replace H := Option.bind_eq_some_iff.mp H
        obtain ⟨t218, A80, H⟩ := H
        replace H : (some (t218 == t216)) = some true := H
        have A8 := Aside0.mk A80
        clear A80
        first | (obtain rfl := Option.some.inj H) | (have HR_ := Option.some.inj H)
        go_enter Tryd.func3, Tryd.ntmps3
        go_wp2_with (first | ((with_reducible refine gate_callee (f := 11) rfl ?_); refine goesL_ (some 9) rfl rfl Tryd.func11 (by kernel_rfl) rfl #[.slice A0 l0.length c0] rfl (by (try simp only [List.map_toArray, List.map_cons, List.map_nil]); first | done | rfl | (simp only [List.length_drop, List.length_take]; rfl)) ?_; (with_reducible refine (keys_Encode.calls k _ _ l0 t213 t214 _ ?side1 ?side2 A2.out).mono ?_); (case side1 => repeat (first | exact HR0.out | (with_reducible refine Kd.C_alloc ?_ _) | (with_reducible refine Kd.C_drewN ?_ _) | (with_reducible refine Kd.C_drew ?_))); (case side2 => exact HC0.out); rintro e w9 ⟨rfl, hb⟩; refine ⟨_, rfl, ?_⟩; have n0_ := Aside0.mk (below_step (by repeat (first | (with_reducible first | exact HB.out | apply below_alloc | apply pw_below_drewN | apply below_drew1) | exact HB.out)) hb); clear HB; have HB := n0_; clear n0_; (try clear hb); (try clear hb2); (try clear hk); (try clear hi)) | ((with_reducible refine gate_callee (f := 12) rfl ?_); refine goesL_ (some 14) rfl rfl Tryd.func12 (by kernel_rfl) rfl #[.slice A0 l0.length c0] rfl (by (try simp only [List.map_toArray, List.map_cons, List.map_nil]); first | done | rfl | (simp only [List.length_drop, List.length_take]; rfl)) ?_; (with_reducible refine (rhizomeref03_Encode.calls k _ _ l0 t215 t216 _ ?side1 ?side2 A3.out).mono ?_); (case side1 => repeat (first | exact (Kd.C_below HR0.out HB.out) | (with_reducible refine Kd.C_alloc ?_ _) | (with_reducible refine Kd.C_drewN ?_ _) | (with_reducible refine Kd.C_drew ?_))); (case side2 => exact HC0.out); rintro e w10 ⟨rfl, hb⟩; refine ⟨_, rfl, ?_⟩; have n0_ := Aside0.mk (below_step (by repeat (first | (with_reducible first | exact HB.out | apply below_alloc | apply pw_below_drewN | apply below_drew1) | exact HB.out)) hb); clear HB; have HB := n0_; clear n0_; (try clear hb); (try clear hb2); (try clear hk); (try clear hi)) | ((with_reducible refine gate_callee (f := 13) rfl ?_); refine goesL_ (some 17) rfl rfl Tryd.func13 (by kernel_rfl) rfl #[] rfl (by (try simp only [List.map_toArray, List.map_cons, List.map_nil]); first | done | rfl | (simp only [List.length_drop, List.length_take]; rfl)) ?_; (with_reducible refine (rhizomelaw03_fixed.calls k  true _ A4.out).mono ?_); rintro e w11 ⟨rfl, hb⟩; refine ⟨_, rfl, ?_⟩; have n0_ := Aside0.mk (below_step (by repeat (first | (with_reducible first | exact HB.out | apply below_alloc | apply pw_below_drewN | apply below_drew1) | exact HB.out)) hb); clear HB; have HB := n0_; clear n0_; (try clear hb); (try clear hb2); (try clear hk); (try clear hi)) | (go_at_call 14; (with_reducible refine (keys_Check.calls k _ _ l0 t218 _ ?side1 ?side2 A8.out).mono ?_); (case side1 => repeat (first | exact (Kd.C_below HR0.out HB.out) | (with_reducible refine Kd.C_alloc ?_ _) | (with_reducible refine Kd.C_drewN ?_ _) | (with_reducible refine Kd.C_drew ?_))); (case side2 => exact HC0.out); rintro e w12 ⟨rfl, hb⟩; have n0_ := Aside0.mk (below_step (by repeat (first | (with_reducible first | exact HB.out | apply below_alloc | apply pw_below_drewN | apply below_drew1) | exact HB.out)) hb); clear HB; have HB := n0_; clear n0_; (try clear hb); (try clear hb2); (try clear hk); (try clear hi)))
        go_ret
        exact ⟨by first | rfl | (simp [errW_none, errW_some] <;> rfl) | (simp [*, errW_none, errW_some] <;> rfl), by repeat (first | (with_reducible first | exact HB.out | apply below_alloc | apply pw_below_drewN | apply below_drew1) | exact HB.out)⟩
      · rw [if_neg c7] at H
        have c7b0 : (t214 == t216) = false := beq_eq_false_iff_ne.mpr c7
        have c7b1 : (t214 != t216) = true := bne_iff_ne.mpr c7
        exact absurd H (by simp)
    · rw [if_neg c6] at H
      have c6b0 : (t213.toList == t215.toList) = false := beq_eq_false_iff_ne.mpr c6
      have c6b1 : (t213.toList != t215.toList) = true := bne_iff_ne.mpr c6
      exact absurd H (by simp)
  · exact absurd (fixed_true A4.out) c5

end Go.Proofs.YtpimfioeeipnhaaDoor.K
