/- Contracts of the functions that a law reaches, written by a program (a changed copy of the kit's print, over contracts of our own). No condition. -/
import Derived.Test.YtpimfioeeipnhaaDoorKx0
import Derived.Test.YtpimfioeeipnhaaDoorFx
import Derived.Test.YtpimfioeeipnhaaDoorKx7
import Derived.Test.YtpimfioeeipnhaaDoorKx13
import Derived.Test.YtpimfioeeipnhaaDoorKx17
import Derived.Test.YtpimfioeeipnhaaDoorKx23
namespace Go.Proofs.YtpimfioeeipnhaaDoor.K
open Go.Proofs.YtpimfioeeipnhaaDoor.Hand
open Go.RowKit Go.Proofs.YtpimfioeeipnhaaDoorW.PrintWords Go.Proofs.YtpimfioeeipnhaaDoorW.PrintLast Go.Proofs.YtpimfioeeipnhaaDoorW.PrintMore
attribute [local go_sem] max2_int min2_int max_two min_two max_three min_three max_four min_four   -- for this text's walks alone
set_option linter.unusedVariables false
set_option linter.unusedSimpArgs false

/-! ### rhizomelaw03_KeysBack: function 7 -/
def rhizomelaw03_KeysBack.j0 : Nat → ByteArray → Option (Bool)
  | 0, _ => none
  | k + 1, x1 => (keys_Decode.f k x1).bind fun bt303 => (if bt303.2 = 0 then ((keys_Encode.f k bt303.1).bind fun bt307 => (if bt307.1.toList = x1.toList then (some (bt307.2 == 0)) else (some false))) else (some ((bt303.1.length : Int) == 0)))
def rhizomelaw03_KeysBack.f (k : Nat) (l0 : List (S34)) (a1 : ByteArray) : Option (Bool) := (keys_Encode.f k l0).bind fun bt295 => ((rhizomelaw03_fixed.f k).bind fun t297 => (if t297 = true then (if bt295.2 = 0 then ((keys_Decode.f k bt295.1).bind fun bt298 => (if bt298.2 = 0 then ((rhizomeref03_Same.f k bt298.1 l0).bind fun t302 => (if t302 = true then (rhizomelaw03_KeysBack.j0 k a1) else (some false))) else (some false))) else (rhizomelaw03_KeysBack.j0 k a1)) else (some false)))
theorem rhizomelaw03_KeysBack.mono_l : ∀ k, (∀ y0, LeO (rhizomelaw03_KeysBack.j0 k y0) (rhizomelaw03_KeysBack.j0 (k + 1) y0))
  | 0 => fun _ r h => by simp [rhizomelaw03_KeysBack.j0] at h
  | k + 1 => by
    have ih0 := rhizomelaw03_KeysBack.mono_l k
    · intro y0
      unfold rhizomelaw03_KeysBack.j0
      repeat' first
      | (with_reducible exact ih0 _)
      | (with_reducible exact keys_Decode.mono _ _)
      | (with_reducible exact keys_Encode.mono _ _)
      | (with_reducible exact rhizomelaw03_fixed.mono _)
      | (with_reducible exact rhizomeref03_Same.mono _ _ _)
      | (with_reducible exact LeO.refl _)
      | (with_reducible exact LeO.none _)
      | (with_reducible refine LeO.ite ?_ ?_)
      | (with_reducible refine LeO.bind ?_ (fun _ => ?_))
      | exact ih0 _
      | exact keys_Decode.mono _ _
      | exact keys_Encode.mono _ _
      | exact rhizomelaw03_fixed.mono _
      | exact rhizomeref03_Same.mono _ _ _
      | exact LeO.none _
      | refine LeO.ite ?_ ?_
      | refine LeO.bind ?_ (fun _ => ?_)
theorem rhizomelaw03_KeysBack.mono : ∀ a0 a1 k, LeO (rhizomelaw03_KeysBack.f k a0 a1) (rhizomelaw03_KeysBack.f (k + 1) a0 a1) := by
  intro a0 a1 k
  have ih0 := rhizomelaw03_KeysBack.mono_l k
  unfold rhizomelaw03_KeysBack.f
  repeat' first
      | (with_reducible exact ih0 _)
      | (with_reducible exact keys_Decode.mono _ _)
      | (with_reducible exact keys_Encode.mono _ _)
      | (with_reducible exact rhizomelaw03_fixed.mono _)
      | (with_reducible exact rhizomeref03_Same.mono _ _ _)
      | (with_reducible exact LeO.refl _)
      | (with_reducible exact LeO.none _)
      | (with_reducible refine LeO.ite ?_ ?_)
      | (with_reducible refine LeO.bind ?_ (fun _ => ?_))
      | exact ih0 _
      | exact keys_Decode.mono _ _
      | exact keys_Encode.mono _ _
      | exact rhizomelaw03_fixed.mono _
      | exact rhizomeref03_Same.mono _ _ _
      | exact LeO.none _
      | refine LeO.ite ?_ ?_
      | refine LeO.bind ?_ (fun _ => ?_)
set_option maxHeartbeats 8000000 in
set_option maxRecDepth 100000 in
theorem rhizomelaw03_KeysBack.calls (k : Nat) (A0 : Option Addr) (c0 : Nat) (l0 : List (S34)) (a1 : ByteArray) (r : Bool) (w : World) (hr0 : Kd.C k34 w A0 l0.length l0) (hc0 : l0.length ≤ c0) (h : rhizomelaw03_KeysBack.f k l0 a1 = some r) (hr : r = true := by rfl) :
    Calls Tryd.prog 7 #[.slice A0 l0.length c0, .string a1] w fun e w' => e = .returned (.bool r) ∧ Below w.heap.size w w' := by
  subst hr
  have HR0 := Aside0.mk hr0
  have HC0 := Aside0.mk hc0
  clear hr0 hc0
  have HB := Aside0.mk (Below.refl w.heap.size w)
  have H : ((keys_Encode.f k l0).bind fun bt295 => ((rhizomelaw03_fixed.f k).bind fun t297 => (if t297 = true then (if bt295.2 = 0 then ((keys_Decode.f k bt295.1).bind fun bt298 => (if bt298.2 = 0 then ((rhizomeref03_Same.f k bt298.1 l0).bind fun t302 => (if t302 = true then (rhizomelaw03_KeysBack.j0 k a1) else (some false))) else (some false))) else (rhizomelaw03_KeysBack.j0 k a1)) else (some false)))) = some true := h
  clear h
  replace H := Option.bind_eq_some_iff.mp H
  obtain ⟨⟨t295, t296⟩, A30, H⟩ := H
  replace H : ((rhizomelaw03_fixed.f k).bind fun t297 => (if t297 = true then (if t296 = 0 then ((keys_Decode.f k t295).bind fun bt298 => (if bt298.2 = 0 then ((rhizomeref03_Same.f k bt298.1 l0).bind fun t302 => (if t302 = true then (rhizomelaw03_KeysBack.j0 k a1) else (some false))) else (some false))) else (rhizomelaw03_KeysBack.j0 k a1)) else (some false))) = some true := H
  have A3 := Aside0.mk A30
  clear A30
  replace H := Option.bind_eq_some_iff.mp H
  obtain ⟨t297, A40, H⟩ := H
  replace H : (if t297 = true then (if t296 = 0 then ((keys_Decode.f k t295).bind fun bt298 => (if bt298.2 = 0 then ((rhizomeref03_Same.f k bt298.1 l0).bind fun t302 => (if t302 = true then (rhizomelaw03_KeysBack.j0 k a1) else (some false))) else (some false))) else (rhizomelaw03_KeysBack.j0 k a1)) else (some false)) = some true := H
  have A4 := Aside0.mk A40
  clear A40
  by_cases c5 : t297 = true
  · subst c5
    have H1 : (if t296 = 0 then ((keys_Decode.f k t295).bind fun bt298 => (if bt298.2 = 0 then ((rhizomeref03_Same.f k bt298.1 l0).bind fun t302 => (if t302 = true then (rhizomelaw03_KeysBack.j0 k a1) else (some false))) else (some false))) else (rhizomelaw03_KeysBack.j0 k a1)) = some true := by rw [if_pos rfl] at H; exact H
    clear H
    have H := H1
    clear H1
    have HC6 := Aside0.mk H
    clear H
    go_enter Tryd.func7, Tryd.ntmps7
    go_upto_if 21 with (first | ((with_reducible refine gate_callee (f := 11) rfl ?_); refine goesL_ (some 15) rfl rfl Tryd.func11 (by kernel_rfl) rfl #[.slice A0 l0.length c0] rfl (by (try simp only [List.map_toArray, List.map_cons, List.map_nil]); first | done | rfl | (simp only [List.length_drop, List.length_take]; rfl)) ?_; (with_reducible refine (keys_Encode.calls k _ _ l0 t295 t296 _ ?side1 ?side2 A3.out).mono ?_); (case side1 => repeat (first | exact HR0.out | (with_reducible refine Kd.C_alloc ?_ _) | (with_reducible refine Kd.C_drewN ?_ _) | (with_reducible refine Kd.C_drew ?_))); (case side2 => exact HC0.out); rintro e w7 ⟨rfl, hb⟩; refine ⟨_, rfl, ?_⟩; have n0_ := Aside0.mk (below_step (by repeat (first | (with_reducible first | exact HB.out | apply below_alloc | apply pw_below_drewN | apply below_drew1) | exact HB.out)) hb); clear HB; have HB := n0_; clear n0_; (try clear hb); (try clear hb2); (try clear hk); (try clear hi)) | ((with_reducible refine gate_callee (f := 13) rfl ?_); refine goesL_ (some 18) rfl rfl Tryd.func13 (by kernel_rfl) rfl #[] rfl (by (try simp only [List.map_toArray, List.map_cons, List.map_nil]); first | done | rfl | (simp only [List.length_drop, List.length_take]; rfl)) ?_; (with_reducible refine (rhizomelaw03_fixed.calls k  true _ A4.out).mono ?_); rintro e w8 ⟨rfl, hb⟩; refine ⟨_, rfl, ?_⟩; have n0_ := Aside0.mk (below_step (by repeat (first | (with_reducible first | exact HB.out | apply below_alloc | apply pw_below_drewN | apply below_drew1) | exact HB.out)) hb); clear HB; have HB := n0_; clear n0_; (try clear hb); (try clear hb2); (try clear hk); (try clear hi)))
    (try simp only [Act.put, List.setIfInBounds_toArray, List.set_cons_zero, List.set_cons_succ])
    go_cut [] (fun wc => ∃ (kq : Nat), Aside0 (rhizomelaw03_KeysBack.j0 kq a1 = some true) ∧ Aside0 (kq ≤ k) ∧ Aside0 (Below w.heap.size w wc))
    case first =>
      have H := HC6.out
      clear HC6
      by_cases c9 : t296 = 0
      · rw [if_pos c9] at H
        have c9b0 : (t296 == 0) = true := beq_iff_eq.mpr c9
        have c9b1 : (t296 != 0) = false := bne_eq_false_iff_eq.mpr c9
        clear c9
        (first | rw [c9b0] | (simp only [i64_w, i32_w]; rw [c9b0]) | skip)
        replace H := Option.bind_eq_some_iff.mp H
        obtain ⟨⟨t298, t299⟩, A100, H⟩ := H
        replace H : (if t299 = 0 then ((rhizomeref03_Same.f k t298 l0).bind fun t302 => (if t302 = true then (rhizomelaw03_KeysBack.j0 k a1) else (some false))) else (some false)) = some true := H
        have A10 := Aside0.mk A100
        clear A100
        by_cases c11 : t299 = 0
        · rw [if_pos c11] at H
          have c11b0 : (t299 == 0) = true := beq_iff_eq.mpr c11
          have c11b1 : (t299 != 0) = false := bne_eq_false_iff_eq.mpr c11
          clear c11
          replace H := Option.bind_eq_some_iff.mp H
          obtain ⟨t302, A120, H⟩ := H
          replace H : (if t302 = true then (rhizomelaw03_KeysBack.j0 k a1) else (some false)) = some true := H
          have A12 := Aside0.mk A120
          clear A120
          by_cases c13 : t302 = true
          · subst c13
            have H1 : (rhizomelaw03_KeysBack.j0 k a1) = some true := by rw [if_pos rfl] at H; exact H
            clear H
            have H := H1
            clear H1
            have H' := Aside0.mk H
            clear H
            go_wp2_with (first | ((with_reducible refine gate_callee (f := 16) rfl ?_); refine goesL_ (some 24) rfl rfl Tryd.func16 (by kernel_rfl) rfl #[.string t295] rfl (by (try simp only [List.map_toArray, List.map_cons, List.map_nil]); first | done | rfl | (simp only [List.length_drop, List.length_take]; rfl)) ?_; (with_reducible refine (keys_Decode.calls k t295 t298 t299 _ A10.out).mono ?_); rintro e w14 ⟨v300, rfl, ho0, hb⟩; refine ⟨_, rfl, ?_⟩; have n0_ := Aside0.mk (Kd.R_lower ho0 (below_size (by repeat (first | (with_reducible first | exact HB.out | apply below_alloc | apply pw_below_drewN | apply below_drew1) | exact HB.out)))); have n1_ := Aside0.mk (below_step (by repeat (first | (with_reducible first | exact HB.out | apply below_alloc | apply pw_below_drewN | apply below_drew1) | exact HB.out)) hb); clear HB; have HO301 := n0_; have HB := n1_; clear n0_ n1_; (try clear hb); (try clear hb2); (try clear hk); (try clear hi); (try clear ho0); obtain ⟨Ao15, co15, eo15⟩ := Kd.R_slice HO301.out; subst eo15) | (go_at_call 17; (with_reducible refine (rhizomeref03_Same.calls k _ _ t298 _ _ l0 true _ ?side1 ?side2 ?side3 ?side4 A12.out).mono ?_); (case side1 => repeat (first | exact (Kd.R_reads' HO301.out).2.2 | (with_reducible refine Kd.C_alloc ?_ _) | (with_reducible refine Kd.C_drewN ?_ _) | (with_reducible refine Kd.C_drew ?_))); (case side2 => exact (Kd.R_reads' HO301.out).2.1); (case side3 => repeat (first | exact (Kd.C_below HR0.out HB.out) | (with_reducible refine Kd.C_alloc ?_ _) | (with_reducible refine Kd.C_drewN ?_ _) | (with_reducible refine Kd.C_drew ?_))); (case side4 => exact HC0.out); rintro e w' ⟨rfl, ⟨nd, rfl⟩⟩))
            go_meet
            case rel => exact ⟨_, H', ⟨by first | omega | exact Nat.le_refl _⟩, ⟨by repeat (first | (with_reducible first | exact HB.out | apply below_alloc | apply pw_below_drewN | apply below_drew1) | exact HB.out)⟩⟩
          · replace c13 := Bool.eq_false_iff.mpr c13
            subst c13
            have H1 : (some false) = some true := by rw [if_neg (show ¬ (false = true) by decide)] at H; exact H
            clear H
            have H := H1
            clear H1
            exact absurd H (by simp)
        · rw [if_neg c11] at H
          have c11b0 : (t299 == 0) = false := beq_eq_false_iff_ne.mpr c11
          have c11b1 : (t299 != 0) = true := bne_iff_ne.mpr c11
          exact absurd H (by simp)
      · rw [if_neg c9] at H
        have c9b0 : (t296 == 0) = false := beq_eq_false_iff_ne.mpr c9
        have c9b1 : (t296 != 0) = true := bne_iff_ne.mpr c9
        (first | rw [c9b0] | (simp only [i64_w, i32_w]; rw [c9b0]) | skip)
        have H' := Aside0.mk H
        clear H
        go_wp2
        go_meet
        case rel => exact ⟨_, H', ⟨by first | omega | exact Nat.le_refl _⟩, ⟨by repeat (first | (with_reducible first | exact HB.out | apply below_alloc | apply pw_below_drewN | apply below_drew1) | exact HB.out)⟩⟩
    case rest =>
      clear HC6
      try clear c1
      try clear p2
      try clear c5
      try clear c7
      try clear c9
      try clear c9b0
      try clear c9b1
      try clear c11
      try clear c11b0
      try clear c11b1
      try clear c13
      obtain ⟨kq, HA, HJ5, HB⟩ := hcut
      cases kq with
      | zero => exact absurd HA.out (by simp [rhizomelaw03_KeysBack.j0])
      | succ kj5 =>
        have H := HA.out
        clear HA
        simp only [rhizomelaw03_KeysBack.j0] at H
        replace H := Option.bind_eq_some_iff.mp H
        obtain ⟨⟨t303, t304⟩, A160, H⟩ := H
        replace H : (if t304 = 0 then ((keys_Encode.f kj5 t303).bind fun bt307 => (if bt307.1.toList = a1.toList then (some (bt307.2 == 0)) else (some false))) else (some ((t303.length : Int) == 0))) = some true := H
        have A16 := Aside0.mk A160
        clear A160
        by_cases c17 : t304 = 0
        · rw [if_pos c17] at H
          have c17b0 : (t304 == 0) = true := beq_iff_eq.mpr c17
          have c17b1 : (t304 != 0) = false := bne_eq_false_iff_eq.mpr c17
          clear c17
          replace H := Option.bind_eq_some_iff.mp H
          obtain ⟨⟨t307, t308⟩, A180, H⟩ := H
          replace H : (if t307.toList = a1.toList then (some (t308 == 0)) else (some false)) = some true := H
          have A18 := Aside0.mk A180
          clear A180
          by_cases c19 : t307.toList = a1.toList
          · rw [if_pos c19] at H
            have c19b0 : (t307.toList == a1.toList) = true := beq_iff_eq.mpr c19
            have c19b1 : (t307.toList != a1.toList) = false := bne_eq_false_iff_eq.mpr c19
            clear c19
            first | (obtain rfl := Option.some.inj H) | (have HR_ := Option.some.inj H)
            go_wp2_with (first | ((with_reducible refine gate_callee (f := 16) rfl ?_); refine goesL_ (some 37) rfl rfl Tryd.func16 (by kernel_rfl) rfl #[.string a1] rfl (by (try simp only [List.map_toArray, List.map_cons, List.map_nil]); first | done | rfl | (simp only [List.length_drop, List.length_take]; rfl)) ?_; (with_reducible refine (keys_Decode.calls kj5 a1 t303 t304 _ A16.out).mono ?_); rintro e w20 ⟨v305, rfl, ho0, hb⟩; refine ⟨_, rfl, ?_⟩; have n0_ := Aside0.mk (Kd.R_lower ho0 (below_size (by repeat (first | (with_reducible first | exact HB.out | apply below_alloc | apply pw_below_drewN | apply below_drew1) | exact HB.out)))); have n1_ := Aside0.mk (below_step (by repeat (first | (with_reducible first | exact HB.out | apply below_alloc | apply pw_below_drewN | apply below_drew1) | exact HB.out)) hb); clear HB; have HO306 := n0_; have HB := n1_; clear n0_ n1_; (try clear hb); (try clear hb2); (try clear hk); (try clear hi); (try clear ho0); obtain ⟨Ao21, co21, eo21⟩ := Kd.R_slice HO306.out; subst eo21) | ((with_reducible refine gate_callee (f := 11) rfl ?_); refine goesL_ (some 47) rfl rfl Tryd.func11 (by kernel_rfl) rfl #[.slice Ao21 t303.length co21] rfl (by (try simp only [List.map_toArray, List.map_cons, List.map_nil]); first | done | rfl | (simp only [List.length_drop, List.length_take]; rfl)) ?_; (with_reducible refine (keys_Encode.calls kj5 _ _ t303 t307 t308 _ ?side1 ?side2 A18.out).mono ?_); (case side1 => repeat (first | exact (Kd.R_reads' HO306.out).2.2 | (with_reducible refine Kd.C_alloc ?_ _) | (with_reducible refine Kd.C_drewN ?_ _) | (with_reducible refine Kd.C_drew ?_))); (case side2 => exact (Kd.R_reads' HO306.out).2.1); rintro e w22 ⟨rfl, hb⟩; refine ⟨_, rfl, ?_⟩; have n0_ := Aside0.mk (Kd.R_below (by (with_reducible repeat (first | apply Kd.R_alloc | apply Kd.R_drewN | apply Kd.R_drew)); exact HO306.out) hb); have n1_ := Aside0.mk (below_step (by repeat (first | (with_reducible first | exact HB.out | apply below_alloc | apply pw_below_drewN | apply below_drew1) | exact HB.out)) hb); clear HO306; clear HB; have HO306 := n0_; have HB := n1_; clear n0_ n1_; (try clear hb); (try clear hb2); (try clear hk); (try clear hi)))
            go_ret
            exact ⟨by first | rfl | (simp [errW_none, errW_some] <;> rfl) | (simp [*, errW_none, errW_some] <;> rfl), by repeat (first | (with_reducible first | exact HB.out | apply below_alloc | apply pw_below_drewN | apply below_drew1) | exact HB.out)⟩
          · rw [if_neg c19] at H
            have c19b0 : (t307.toList == a1.toList) = false := beq_eq_false_iff_ne.mpr c19
            have c19b1 : (t307.toList != a1.toList) = true := bne_iff_ne.mpr c19
            exact absurd H (by simp)
        · rw [if_neg c17] at H
          have c17b0 : (t304 == 0) = false := beq_eq_false_iff_ne.mpr c17
          have c17b1 : (t304 != 0) = true := bne_iff_ne.mpr c17
          first | (obtain rfl := Option.some.inj H) | (have HR_ := Option.some.inj H)
          go_wp2_with (first | ((with_reducible refine gate_callee (f := 16) rfl ?_); refine goesL_ (some 37) rfl rfl Tryd.func16 (by kernel_rfl) rfl #[.string a1] rfl (by (try simp only [List.map_toArray, List.map_cons, List.map_nil]); first | done | rfl | (simp only [List.length_drop, List.length_take]; rfl)) ?_; (with_reducible refine (keys_Decode.calls kj5 a1 t303 t304 _ A16.out).mono ?_); rintro e w23 ⟨v305, rfl, ho0, hb⟩; refine ⟨_, rfl, ?_⟩; have n0_ := Aside0.mk (Kd.R_lower ho0 (below_size (by repeat (first | (with_reducible first | exact HB.out | apply below_alloc | apply pw_below_drewN | apply below_drew1) | exact HB.out)))); have n1_ := Aside0.mk (below_step (by repeat (first | (with_reducible first | exact HB.out | apply below_alloc | apply pw_below_drewN | apply below_drew1) | exact HB.out)) hb); clear HB; have HO306 := n0_; have HB := n1_; clear n0_ n1_; (try clear hb); (try clear hb2); (try clear hk); (try clear hi); (try clear ho0); obtain ⟨Ao24, co24, eo24⟩ := Kd.R_slice HO306.out; subst eo24))
          go_ret
          exact ⟨by first | rfl | (simp [errW_none, errW_some] <;> rfl) | (simp [*, errW_none, errW_some] <;> rfl), by repeat (first | (with_reducible first | exact HB.out | apply below_alloc | apply pw_below_drewN | apply below_drew1) | exact HB.out)⟩
  · exact absurd (fixed_true A4.out) c5

end Go.Proofs.YtpimfioeeipnhaaDoor.K
