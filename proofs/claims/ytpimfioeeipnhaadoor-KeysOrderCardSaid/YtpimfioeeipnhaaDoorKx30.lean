/- Contracts of the functions that a law reaches, written by a program (a changed copy of the kit's print, over contracts of our own). No condition. -/
import Derived.Test.YtpimfioeeipnhaaDoorKx0
import Derived.Test.YtpimfioeeipnhaaDoorFx
import Derived.Test.YtpimfioeeipnhaaDoorKx7
import Derived.Test.YtpimfioeeipnhaaDoorKx16
import Derived.Test.YtpimfioeeipnhaaDoorKx17
import Derived.Test.YtpimfioeeipnhaaDoorKx23
namespace Go.Proofs.YtpimfioeeipnhaaDoor.K
open Go.Proofs.YtpimfioeeipnhaaDoor.Hand
open Go.RowKit Go.Proofs.YtpimfioeeipnhaaDoorW.PrintWords Go.Proofs.YtpimfioeeipnhaaDoorW.PrintLast Go.Proofs.YtpimfioeeipnhaaDoorW.PrintMore
attribute [local go_sem] max2_int min2_int max_two min_two max_three min_three max_four min_four   -- for this text's walks alone
set_option linter.unusedVariables false
set_option linter.unusedSimpArgs false

/-! ### rhizomelaw03_KeysOrder: function 6 -/
def rhizomelaw03_KeysOrder.j0 : Nat → List (S34) → List (S34) → ByteArray → Int → ByteArray → Int → Bool → Option (Bool)
  | 0, _, _, _, _, _, _, _ => none
  | k + 1, x0, x1, x5, x6, x7, x8, x27 => if x27 = true then (if x6 = 0 then (if x8 = 0 then (some true) else (some (x7.toList == ([] : List UInt8)))) else (if x5.toList = ([] : List UInt8) then (if x8 = 0 then (some true) else (some (x7.toList == ([] : List UInt8)))) else (some false))) else ((keys_Cmp.f k x0 x1).bind fun t293 => (if ((Op.bytesLess x5.toList x7.toList) == (t293 == (-1))) = true then (if ((Op.bytesLess x7.toList x5.toList) == (t293 == 1)) = true then ((rhizomeref03_Same.f k x0 x1).bind fun t294 => (some ((x5.toList == x7.toList) == t294))) else (some false)) else (some false)))
def rhizomelaw03_KeysOrder.f (k : Nat) (l0 : List (S34)) (l1 : List (S34)) : Option (Bool) := (keys_Encode.f k l0).bind fun bt288 => ((keys_Encode.f k l1).bind fun bt290 => ((rhizomelaw03_fixed.f k).bind fun t292 => (if t292 = true then (if bt288.2 = 0 then (rhizomelaw03_KeysOrder.j0 k l0 l1 bt288.1 bt288.2 bt290.1 bt290.2 (bt290.2 != 0)) else (rhizomelaw03_KeysOrder.j0 k l0 l1 bt288.1 bt288.2 bt290.1 bt290.2 true)) else (some false))))
theorem rhizomelaw03_KeysOrder.mono_l : ∀ k, (∀ y0 y1 y2 y3 y4 y5 y6, LeO (rhizomelaw03_KeysOrder.j0 k y0 y1 y2 y3 y4 y5 y6) (rhizomelaw03_KeysOrder.j0 (k + 1) y0 y1 y2 y3 y4 y5 y6))
  | 0 => fun _ _ _ _ _ _ _ r h => by simp [rhizomelaw03_KeysOrder.j0] at h
  | k + 1 => by
    have ih0 := rhizomelaw03_KeysOrder.mono_l k
    · intro y0 y1 y2 y3 y4 y5 y6
      unfold rhizomelaw03_KeysOrder.j0
      repeat' first
      | (with_reducible exact ih0 _ _ _ _ _ _ _)
      | (with_reducible exact keys_Cmp.mono _ _ _)
      | (with_reducible exact keys_Encode.mono _ _)
      | (with_reducible exact rhizomelaw03_fixed.mono _)
      | (with_reducible exact rhizomeref03_Same.mono _ _ _)
      | (with_reducible exact LeO.refl _)
      | (with_reducible exact LeO.none _)
      | (with_reducible refine LeO.ite ?_ ?_)
      | (with_reducible refine LeO.bind ?_ (fun _ => ?_))
      | exact ih0 _ _ _ _ _ _ _
      | exact keys_Cmp.mono _ _ _
      | exact keys_Encode.mono _ _
      | exact rhizomelaw03_fixed.mono _
      | exact rhizomeref03_Same.mono _ _ _
      | exact LeO.none _
      | refine LeO.ite ?_ ?_
      | refine LeO.bind ?_ (fun _ => ?_)
theorem rhizomelaw03_KeysOrder.mono : ∀ a0 a1 k, LeO (rhizomelaw03_KeysOrder.f k a0 a1) (rhizomelaw03_KeysOrder.f (k + 1) a0 a1) := by
  intro a0 a1 k
  have ih0 := rhizomelaw03_KeysOrder.mono_l k
  unfold rhizomelaw03_KeysOrder.f
  repeat' first
      | (with_reducible exact ih0 _ _ _ _ _ _ _)
      | (with_reducible exact keys_Cmp.mono _ _ _)
      | (with_reducible exact keys_Encode.mono _ _)
      | (with_reducible exact rhizomelaw03_fixed.mono _)
      | (with_reducible exact rhizomeref03_Same.mono _ _ _)
      | (with_reducible exact LeO.refl _)
      | (with_reducible exact LeO.none _)
      | (with_reducible refine LeO.ite ?_ ?_)
      | (with_reducible refine LeO.bind ?_ (fun _ => ?_))
      | exact ih0 _ _ _ _ _ _ _
      | exact keys_Cmp.mono _ _ _
      | exact keys_Encode.mono _ _
      | exact rhizomelaw03_fixed.mono _
      | exact rhizomeref03_Same.mono _ _ _
      | exact LeO.none _
      | refine LeO.ite ?_ ?_
      | refine LeO.bind ?_ (fun _ => ?_)
set_option maxHeartbeats 8000000 in
set_option maxRecDepth 100000 in
theorem rhizomelaw03_KeysOrder.calls (k : Nat) (A0 : Option Addr) (c0 : Nat) (l0 : List (S34)) (A1 : Option Addr) (c1 : Nat) (l1 : List (S34)) (r : Bool) (w : World) (hr0 : Kd.C k34 w A0 l0.length l0) (hc0 : l0.length ≤ c0) (hr1 : Kd.C k34 w A1 l1.length l1) (hc1 : l1.length ≤ c1) (h : rhizomelaw03_KeysOrder.f k l0 l1 = some r) (hr : r = true := by rfl) :
    Calls Tryd.prog 6 #[.slice A0 l0.length c0, .slice A1 l1.length c1] w fun e w' => e = .returned (.bool r) ∧ Below w.heap.size w w' := by
  subst hr
  have HR0 := Aside0.mk hr0
  have HC0 := Aside0.mk hc0
  clear hr0 hc0
  have HR1 := Aside0.mk hr1
  have HC1 := Aside0.mk hc1
  clear hr1 hc1
  have HB := Aside0.mk (Below.refl w.heap.size w)
  have H : ((keys_Encode.f k l0).bind fun bt288 => ((keys_Encode.f k l1).bind fun bt290 => ((rhizomelaw03_fixed.f k).bind fun t292 => (if t292 = true then (if bt288.2 = 0 then (rhizomelaw03_KeysOrder.j0 k l0 l1 bt288.1 bt288.2 bt290.1 bt290.2 (bt290.2 != 0)) else (rhizomelaw03_KeysOrder.j0 k l0 l1 bt288.1 bt288.2 bt290.1 bt290.2 true)) else (some false))))) = some true := h
  clear h
  replace H := Option.bind_eq_some_iff.mp H
  obtain ⟨⟨t288, t289⟩, A30, H⟩ := H
  replace H : ((keys_Encode.f k l1).bind fun bt290 => ((rhizomelaw03_fixed.f k).bind fun t292 => (if t292 = true then (if t289 = 0 then (rhizomelaw03_KeysOrder.j0 k l0 l1 t288 t289 bt290.1 bt290.2 (bt290.2 != 0)) else (rhizomelaw03_KeysOrder.j0 k l0 l1 t288 t289 bt290.1 bt290.2 true)) else (some false)))) = some true := H
  have A3 := Aside0.mk A30
  clear A30
  replace H := Option.bind_eq_some_iff.mp H
  obtain ⟨⟨t290, t291⟩, A40, H⟩ := H
  replace H : ((rhizomelaw03_fixed.f k).bind fun t292 => (if t292 = true then (if t289 = 0 then (rhizomelaw03_KeysOrder.j0 k l0 l1 t288 t289 t290 t291 (t291 != 0)) else (rhizomelaw03_KeysOrder.j0 k l0 l1 t288 t289 t290 t291 true)) else (some false))) = some true := H
  have A4 := Aside0.mk A40
  clear A40
  replace H := Option.bind_eq_some_iff.mp H
  obtain ⟨t292, A50, H⟩ := H
  replace H : (if t292 = true then (if t289 = 0 then (rhizomelaw03_KeysOrder.j0 k l0 l1 t288 t289 t290 t291 (t291 != 0)) else (rhizomelaw03_KeysOrder.j0 k l0 l1 t288 t289 t290 t291 true)) else (some false)) = some true := H
  have A5 := Aside0.mk A50
  clear A50
  by_cases c6 : t292 = true
  · subst c6
    have H1 : (if t289 = 0 then (rhizomelaw03_KeysOrder.j0 k l0 l1 t288 t289 t290 t291 (t291 != 0)) else (rhizomelaw03_KeysOrder.j0 k l0 l1 t288 t289 t290 t291 true)) = some true := by rw [if_pos rfl] at H; exact H
    clear H
    have H := H1
    clear H1
    have HC7 := Aside0.mk H
    clear H
    go_enter Tryd.func6, Tryd.ntmps6
    go_upto_region 5 with (first | ((with_reducible refine gate_callee (f := 11) rfl ?_); refine goesL_ (some 12) rfl rfl Tryd.func11 (by kernel_rfl) rfl #[.slice A0 l0.length c0] rfl (by (try simp only [List.map_toArray, List.map_cons, List.map_nil]); first | done | rfl | (simp only [List.length_drop, List.length_take]; rfl)) ?_; (with_reducible refine (keys_Encode.calls k _ _ l0 t288 t289 _ ?side1 ?side2 A3.out).mono ?_); (case side1 => repeat (first | exact HR0.out | (with_reducible refine Kd.C_alloc ?_ _) | (with_reducible refine Kd.C_drewN ?_ _) | (with_reducible refine Kd.C_drew ?_))); (case side2 => exact HC0.out); rintro e w8 ⟨rfl, hb⟩; refine ⟨_, rfl, ?_⟩; have n0_ := Aside0.mk (below_step (by repeat (first | (with_reducible first | exact HB.out | apply below_alloc | apply pw_below_drewN | apply below_drew1) | exact HB.out)) hb); clear HB; have HB := n0_; clear n0_; (try clear hb); (try clear hb2); (try clear hk); (try clear hi)) | ((with_reducible refine gate_callee (f := 11) rfl ?_); refine goesL_ (some 17) rfl rfl Tryd.func11 (by kernel_rfl) rfl #[.slice A1 l1.length c1] rfl (by (try simp only [List.map_toArray, List.map_cons, List.map_nil]); first | done | rfl | (simp only [List.length_drop, List.length_take]; rfl)) ?_; (with_reducible refine (keys_Encode.calls k _ _ l1 t290 t291 _ ?side1 ?side2 A4.out).mono ?_); (case side1 => repeat (first | exact (Kd.C_below HR1.out HB.out) | (with_reducible refine Kd.C_alloc ?_ _) | (with_reducible refine Kd.C_drewN ?_ _) | (with_reducible refine Kd.C_drew ?_))); (case side2 => exact HC1.out); rintro e w9 ⟨rfl, hb⟩; refine ⟨_, rfl, ?_⟩; have n0_ := Aside0.mk (below_step (by repeat (first | (with_reducible first | exact HB.out | apply below_alloc | apply pw_below_drewN | apply below_drew1) | exact HB.out)) hb); clear HB; have HB := n0_; clear n0_; (try clear hb); (try clear hb2); (try clear hk); (try clear hi)) | ((with_reducible refine gate_callee (f := 13) rfl ?_); refine goesL_ (some 20) rfl rfl Tryd.func13 (by kernel_rfl) rfl #[] rfl (by (try simp only [List.map_toArray, List.map_cons, List.map_nil]); first | done | rfl | (simp only [List.length_drop, List.length_take]; rfl)) ?_; (with_reducible refine (rhizomelaw03_fixed.calls k  true _ A5.out).mono ?_); rintro e w10 ⟨rfl, hb⟩; refine ⟨_, rfl, ?_⟩; have n0_ := Aside0.mk (below_step (by repeat (first | (with_reducible first | exact HB.out | apply below_alloc | apply pw_below_drewN | apply below_drew1) | exact HB.out)) hb); clear HB; have HB := n0_; clear n0_; (try clear hb); (try clear hb2); (try clear hk); (try clear hi)))
    (try simp only [Act.put, List.setIfInBounds_toArray, List.set_cons_zero, List.set_cons_succ])
    go_cut [27] (fun v27 wc => ∃ (kq : Nat) (x27_6 : Bool), v27 = .bool x27_6 ∧ Aside0 (rhizomelaw03_KeysOrder.j0 kq l0 l1 t288 t289 t290 t291 x27_6 = some true) ∧ Aside0 (kq ≤ k) ∧ Aside0 (Below w.heap.size w wc))
    case first =>
      have H := HC7.out
      clear HC7
      by_cases c11 : t289 = 0
      · rw [if_pos c11] at H
        have c11b0 : (t289 == 0) = true := beq_iff_eq.mpr c11
        have c11b1 : (t289 != 0) = false := bne_eq_false_iff_eq.mpr c11
        clear c11
        (first | rw [c11b0] | (simp only [i64_w, i32_w]; rw [c11b0]) | skip)
        have H' := Aside0.mk H
        clear H
        go_wp2
        go_meet
        case rel => exact ⟨_, ((t291 != 0)), (by first | rfl | (simp; done) | (simp [*]; done)), H', ⟨by first | omega | exact Nat.le_refl _⟩, ⟨by repeat (first | (with_reducible first | exact HB.out | apply below_alloc | apply pw_below_drewN | apply below_drew1) | exact HB.out)⟩⟩
      · rw [if_neg c11] at H
        have c11b0 : (t289 == 0) = false := beq_eq_false_iff_ne.mpr c11
        have c11b1 : (t289 != 0) = true := bne_iff_ne.mpr c11
        (first | rw [c11b0] | (simp only [i64_w, i32_w]; rw [c11b0]) | skip)
        have H' := Aside0.mk H
        clear H
        go_wp2
        go_meet
        case rel => exact ⟨_, (true), (by first | rfl | (simp; done) | (simp [*]; done)), H', ⟨by first | omega | exact Nat.le_refl _⟩, ⟨by repeat (first | (with_reducible first | exact HB.out | apply below_alloc | apply pw_below_drewN | apply below_drew1) | exact HB.out)⟩⟩
    case rest =>
      clear HC7
      try clear c1
      try clear p2
      try clear c6
      try clear c11
      try clear c11b0
      try clear c11b1
      obtain ⟨kq, x27_6, rfl, HA, HJ6, HB⟩ := hcut
      cases kq with
      | zero => exact absurd HA.out (by simp [rhizomelaw03_KeysOrder.j0])
      | succ kj6 =>
        have H := HA.out
        clear HA
        simp only [rhizomelaw03_KeysOrder.j0] at H
        by_cases c12 : x27_6 = true
        · subst c12
          have H1 : (if t289 = 0 then (if t291 = 0 then (some true) else (some (t290.toList == ([] : List UInt8)))) else (if t288.toList = ([] : List UInt8) then (if t291 = 0 then (some true) else (some (t290.toList == ([] : List UInt8)))) else (some false))) = some true := by rw [if_pos rfl] at H; exact H
          clear H
          have H := H1
          clear H1
          by_cases c13 : t289 = 0
          · rw [if_pos c13] at H
            have c13b0 : (t289 == 0) = true := beq_iff_eq.mpr c13
            have c13b1 : (t289 != 0) = false := bne_eq_false_iff_eq.mpr c13
            clear c13
            by_cases c14 : t291 = 0
            · rw [if_pos c14] at H
              have c14b0 : (t291 == 0) = true := beq_iff_eq.mpr c14
              have c14b1 : (t291 != 0) = false := bne_eq_false_iff_eq.mpr c14
              clear c14
              first | (obtain rfl := Option.some.inj H) | (have HR_ := Option.some.inj H)
              go_wp2
              go_ret
              exact ⟨by first | rfl | (simp [errW_none, errW_some] <;> rfl) | (simp [*, errW_none, errW_some] <;> rfl), by repeat (first | (with_reducible first | exact HB.out | apply below_alloc | apply pw_below_drewN | apply below_drew1) | exact HB.out)⟩
            · rw [if_neg c14] at H
              have c14b0 : (t291 == 0) = false := beq_eq_false_iff_ne.mpr c14
              have c14b1 : (t291 != 0) = true := bne_iff_ne.mpr c14
              first | (obtain rfl := Option.some.inj H) | (have HR_ := Option.some.inj H)
              go_wp2
              go_ret
              exact ⟨by first | rfl | (simp [errW_none, errW_some] <;> rfl) | (simp [*, errW_none, errW_some] <;> rfl), by repeat (first | (with_reducible first | exact HB.out | apply below_alloc | apply pw_below_drewN | apply below_drew1) | exact HB.out)⟩
          · rw [if_neg c13] at H
            have c13b0 : (t289 == 0) = false := beq_eq_false_iff_ne.mpr c13
            have c13b1 : (t289 != 0) = true := bne_iff_ne.mpr c13
            by_cases c15 : t288.toList = ([] : List UInt8)
            · rw [if_pos c15] at H
              have c15b0 : (t288.toList == ([] : List UInt8)) = true := beq_iff_eq.mpr c15
              have c15b1 : (t288.toList != ([] : List UInt8)) = false := bne_eq_false_iff_eq.mpr c15
              clear c15
              by_cases c16 : t291 = 0
              · rw [if_pos c16] at H
                have c16b0 : (t291 == 0) = true := beq_iff_eq.mpr c16
                have c16b1 : (t291 != 0) = false := bne_eq_false_iff_eq.mpr c16
                clear c16
                first | (obtain rfl := Option.some.inj H) | (have HR_ := Option.some.inj H)
                go_wp2
                go_ret
                exact ⟨by first | rfl | (simp [errW_none, errW_some] <;> rfl) | (simp [*, errW_none, errW_some] <;> rfl), by repeat (first | (with_reducible first | exact HB.out | apply below_alloc | apply pw_below_drewN | apply below_drew1) | exact HB.out)⟩
              · rw [if_neg c16] at H
                have c16b0 : (t291 == 0) = false := beq_eq_false_iff_ne.mpr c16
                have c16b1 : (t291 != 0) = true := bne_iff_ne.mpr c16
                first | (obtain rfl := Option.some.inj H) | (have HR_ := Option.some.inj H)
                go_wp2
                go_ret
                exact ⟨by first | rfl | (simp [errW_none, errW_some] <;> rfl) | (simp [*, errW_none, errW_some] <;> rfl), by repeat (first | (with_reducible first | exact HB.out | apply below_alloc | apply pw_below_drewN | apply below_drew1) | exact HB.out)⟩
            · rw [if_neg c15] at H
              have c15b0 : (t288.toList == ([] : List UInt8)) = false := beq_eq_false_iff_ne.mpr c15
              have c15b1 : (t288.toList != ([] : List UInt8)) = true := bne_iff_ne.mpr c15
              exact absurd H (by simp)
        · replace c12 := Bool.eq_false_iff.mpr c12
          subst c12
          have H1 : ((keys_Cmp.f kj6 l0 l1).bind fun t293 => (if ((Op.bytesLess t288.toList t290.toList) == (t293 == (-1))) = true then (if ((Op.bytesLess t290.toList t288.toList) == (t293 == 1)) = true then ((rhizomeref03_Same.f kj6 l0 l1).bind fun t294 => (some ((t288.toList == t290.toList) == t294))) else (some false)) else (some false))) = some true := by rw [if_neg (show ¬ (false = true) by decide)] at H; exact H
          clear H
          have H := H1
          clear H1
          replace H := Option.bind_eq_some_iff.mp H
          obtain ⟨t293, A170, H⟩ := H
          replace H : (if ((Op.bytesLess t288.toList t290.toList) == (t293 == (-1))) = true then (if ((Op.bytesLess t290.toList t288.toList) == (t293 == 1)) = true then ((rhizomeref03_Same.f kj6 l0 l1).bind fun t294 => (some ((t288.toList == t290.toList) == t294))) else (some false)) else (some false)) = some true := H
          have A17 := Aside0.mk A170
          clear A170
          by_cases c18 : ((Op.bytesLess t288.toList t290.toList) == (t293 == (-1))) = true
          · rw [if_pos c18] at H
            have c18b0 : ((Op.bytesLess t288.toList t290.toList) == (t293 == (-1))) = true := c18
            (try (have c18b1 : decide ((Op.bytesLess t288.toList t290.toList) = (t293 == (-1))) = true := by simpa using c18))
            (try (have c18b2 : ((Op.bytesLess t288.toList t290.toList) == (t293 == (-1))) = true := by simpa using c18))
            clear c18
            by_cases c19 : ((Op.bytesLess t290.toList t288.toList) == (t293 == 1)) = true
            · rw [if_pos c19] at H
              have c19b0 : ((Op.bytesLess t290.toList t288.toList) == (t293 == 1)) = true := c19
              have c19y : ((!Op.bytesLess t288.toList t290.toList && !(t288.toList == t290.toList)) == (t293 == 1)) = true := by rw [← gtr_bytes t288.toList t290.toList]; exact c19b0
              have c19x : ((!Op.bytesLess t288.toList t290.toList && !(t288.toList == t290.toList)) = (t293 == 1)) = True := by simpa using c19y
              (try (have c19b1 : decide ((Op.bytesLess t290.toList t288.toList) = (t293 == 1)) = true := by simpa using c19))
              (try (have c19b2 : ((Op.bytesLess t290.toList t288.toList) == (t293 == 1)) = true := by simpa using c19))
              clear c19
              replace H := Option.bind_eq_some_iff.mp H
              obtain ⟨t294, A200, H⟩ := H
              replace H : (some ((t288.toList == t290.toList) == t294)) = some true := H
              have A20 := Aside0.mk A200
              clear A200
              first | (obtain rfl := Option.some.inj H) | (have HR_ := Option.some.inj H)
              go_wp2_with (first | ((with_reducible refine gate_callee (f := 21) rfl ?_); refine goesL_ (some 44) rfl rfl Tryd.func21 (by kernel_rfl) rfl #[.slice A0 l0.length c0, .slice A1 l1.length c1] rfl (by (try simp only [List.map_toArray, List.map_cons, List.map_nil]); first | done | rfl | (simp only [List.length_drop, List.length_take]; rfl)) ?_; (with_reducible refine (keys_Cmp.calls kj6 _ _ l0 _ _ l1 t293 _ ?side1 ?side2 ?side3 ?side4 A17.out).mono ?_); (case side1 => repeat (first | exact (Kd.C_below HR0.out HB.out) | (with_reducible refine Kd.C_alloc ?_ _) | (with_reducible refine Kd.C_drewN ?_ _) | (with_reducible refine Kd.C_drew ?_))); (case side2 => exact HC0.out); (case side3 => repeat (first | exact (Kd.C_below HR1.out HB.out) | (with_reducible refine Kd.C_alloc ?_ _) | (with_reducible refine Kd.C_drewN ?_ _) | (with_reducible refine Kd.C_drew ?_))); (case side4 => exact HC1.out); rintro e w21 ⟨rfl, hb⟩; refine ⟨_, rfl, ?_⟩; have n0_ := Aside0.mk (below_step (by repeat (first | (with_reducible first | exact HB.out | apply below_alloc | apply pw_below_drewN | apply below_drew1) | exact HB.out)) hb); clear HB; have HB := n0_; clear n0_; (try clear hb); (try clear hb2); (try clear hk); (try clear hi)) | (go_at_call 17; (with_reducible refine (rhizomeref03_Same.calls kj6 _ _ l0 _ _ l1 t294 _ ?side1 ?side2 ?side3 ?side4 A20.out).mono ?_); (case side1 => repeat (first | exact (Kd.C_below HR0.out HB.out) | (with_reducible refine Kd.C_alloc ?_ _) | (with_reducible refine Kd.C_drewN ?_ _) | (with_reducible refine Kd.C_drew ?_))); (case side2 => exact HC0.out); (case side3 => repeat (first | exact (Kd.C_below HR1.out HB.out) | (with_reducible refine Kd.C_alloc ?_ _) | (with_reducible refine Kd.C_drewN ?_ _) | (with_reducible refine Kd.C_drew ?_))); (case side4 => exact HC1.out); rintro e w' ⟨rfl, ⟨nd, rfl⟩⟩))
              go_ret
              exact ⟨by first | rfl | (simp [errW_none, errW_some] <;> rfl) | (simp [*, errW_none, errW_some] <;> rfl), by repeat (first | (with_reducible first | exact HB.out | apply below_alloc | apply pw_below_drewN | apply below_drew1) | exact HB.out)⟩
            · rw [if_neg c19] at H
              have c19b0 : ((Op.bytesLess t290.toList t288.toList) == (t293 == 1)) = false := by simpa using c19
              have c19y : ((!Op.bytesLess t288.toList t290.toList && !(t288.toList == t290.toList)) == (t293 == 1)) = false := by rw [← gtr_bytes t288.toList t290.toList]; exact c19b0
              have c19x : ((!Op.bytesLess t288.toList t290.toList && !(t288.toList == t290.toList)) = (t293 == 1)) = False := by simpa using c19y
              (try (have c19b1 : decide ((Op.bytesLess t290.toList t288.toList) = (t293 == 1)) = false := by simpa using c19))
              (try (have c19b2 : ((Op.bytesLess t290.toList t288.toList) == (t293 == 1)) = false := by simpa using c19))
              (try (have c19b3 : ¬ ((Op.bytesLess t290.toList t288.toList) = (t293 == 1)) := by simpa using c19))
              clear c19
              exact absurd H (by simp)
          · rw [if_neg c18] at H
            have c18b0 : ((Op.bytesLess t288.toList t290.toList) == (t293 == (-1))) = false := by simpa using c18
            (try (have c18b1 : decide ((Op.bytesLess t288.toList t290.toList) = (t293 == (-1))) = false := by simpa using c18))
            (try (have c18b2 : ((Op.bytesLess t288.toList t290.toList) == (t293 == (-1))) = false := by simpa using c18))
            (try (have c18b3 : ¬ ((Op.bytesLess t288.toList t290.toList) = (t293 == (-1))) := by simpa using c18))
            clear c18
            exact absurd H (by simp)
  · exact absurd (fixed_true A5.out) c6

end Go.Proofs.YtpimfioeeipnhaaDoor.K
