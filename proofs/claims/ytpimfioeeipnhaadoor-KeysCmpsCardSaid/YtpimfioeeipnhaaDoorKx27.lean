/- Contracts of the functions that a law reaches, written by a program (a changed copy of the kit's print, over contracts of our own). No condition. -/
import Derived.Test.YtpimfioeeipnhaaDoorKx0
namespace Go.Proofs.YtpimfioeeipnhaaDoor.K
open Go.Proofs.YtpimfioeeipnhaaDoor.Hand
open Go.RowKit Go.Proofs.YtpimfioeeipnhaaDoorW.PrintWords Go.Proofs.YtpimfioeeipnhaaDoorW.PrintLast Go.Proofs.YtpimfioeeipnhaaDoorW.PrintMore
attribute [local go_sem] max2_int min2_int max_two min_two max_three min_three max_four min_four   -- for this text's walks alone
set_option linter.unusedVariables false
set_option linter.unusedSimpArgs false

/-! ### rhizomeref02_Cmp: function 35 -/
mutual
def rhizomeref02_Cmp.j0 : Nat → Int → Int → Bool → Option (Int × Bool)
  | 0, _, _, _ => none
  | k + 1, x0, x1, x15 => if x15 = true then (some (0, false)) else ((rhizomeref02_Size.f x0).bind fun t265 => ((rhizomeref02_Size.f x1).bind fun t266 => (if x0 ≥ 9223372036854775808 then (rhizomeref02_Cmp.j1 k x1 (wrap64 (-(wrap64 (t265)))) (wrap64 (t266))) else (rhizomeref02_Cmp.j1 k x1 (wrap64 (t265)) (wrap64 (t266))))))
def rhizomeref02_Cmp.j1 : Nat → Int → Int → Int → Option (Int × Bool)
  | 0, _, _, _ => none
  | k + 1, x1, x6, x7 => if x1 ≥ 9223372036854775808 then (rhizomeref02_Cmp.j2 k x6 (wrap64 (-x7))) else (rhizomeref02_Cmp.j2 k x6 x7)
def rhizomeref02_Cmp.j2 : Nat → Int → Int → Option (Int × Bool)
  | 0, _, _ => none
  | k + 1, x6, x7 => if x6 < x7 then (some ((-1), true)) else (if x6 > x7 then (some (1, true)) else (some (0, true)))
end
def rhizomeref02_Cmp.f (k : Nat) (a0 : Int) (a1 : Int) : Option (Int × Bool) := (rhizomeref02_Kind.f a0).bind fun t263 => (if t263 = 4 then (rhizomeref02_Cmp.j0 k a0 a1 true) else ((rhizomeref02_Kind.f a1).bind fun t264 => (rhizomeref02_Cmp.j0 k a0 a1 (t264 == 4))))
theorem rhizomeref02_Cmp.mono_l : ∀ k, (∀ y0 y1 y2, LeO (rhizomeref02_Cmp.j0 k y0 y1 y2) (rhizomeref02_Cmp.j0 (k + 1) y0 y1 y2)) ∧ (∀ y0 y1 y2, LeO (rhizomeref02_Cmp.j1 k y0 y1 y2) (rhizomeref02_Cmp.j1 (k + 1) y0 y1 y2)) ∧ (∀ y0 y1, LeO (rhizomeref02_Cmp.j2 k y0 y1) (rhizomeref02_Cmp.j2 (k + 1) y0 y1))
  | 0 => ⟨fun _ _ _ r h => by simp [rhizomeref02_Cmp.j0] at h, fun _ _ _ r h => by simp [rhizomeref02_Cmp.j1] at h, fun _ _ r h => by simp [rhizomeref02_Cmp.j2] at h⟩
  | k + 1 => by
    obtain ⟨ih0, ih1, ih2⟩ := rhizomeref02_Cmp.mono_l k
    refine ⟨?_, ?_, ?_⟩
    · intro y0 y1 y2
      unfold rhizomeref02_Cmp.j0
      repeat' first
      | (with_reducible exact ih0 _ _ _)
      | (with_reducible exact ih1 _ _ _)
      | (with_reducible exact ih2 _ _)
      | (with_reducible exact LeO.refl _)
      | (with_reducible exact LeO.none _)
      | (with_reducible refine LeO.ite ?_ ?_)
      | (with_reducible refine LeO.bind ?_ (fun _ => ?_))
      | exact ih0 _ _ _
      | exact ih1 _ _ _
      | exact ih2 _ _
      | exact LeO.none _
      | refine LeO.ite ?_ ?_
      | refine LeO.bind ?_ (fun _ => ?_)
    · intro y0 y1 y2
      unfold rhizomeref02_Cmp.j1
      repeat' first
      | (with_reducible exact ih0 _ _ _)
      | (with_reducible exact ih1 _ _ _)
      | (with_reducible exact ih2 _ _)
      | (with_reducible exact LeO.refl _)
      | (with_reducible exact LeO.none _)
      | (with_reducible refine LeO.ite ?_ ?_)
      | (with_reducible refine LeO.bind ?_ (fun _ => ?_))
      | exact ih0 _ _ _
      | exact ih1 _ _ _
      | exact ih2 _ _
      | exact LeO.none _
      | refine LeO.ite ?_ ?_
      | refine LeO.bind ?_ (fun _ => ?_)
    · intro y0 y1
      unfold rhizomeref02_Cmp.j2
      repeat' first
      | (with_reducible exact ih0 _ _ _)
      | (with_reducible exact ih1 _ _ _)
      | (with_reducible exact ih2 _ _)
      | (with_reducible exact LeO.refl _)
      | (with_reducible exact LeO.none _)
      | (with_reducible refine LeO.ite ?_ ?_)
      | (with_reducible refine LeO.bind ?_ (fun _ => ?_))
      | exact ih0 _ _ _
      | exact ih1 _ _ _
      | exact ih2 _ _
      | exact LeO.none _
      | refine LeO.ite ?_ ?_
      | refine LeO.bind ?_ (fun _ => ?_)
theorem rhizomeref02_Cmp.mono : ∀ a0 a1 k, LeO (rhizomeref02_Cmp.f k a0 a1) (rhizomeref02_Cmp.f (k + 1) a0 a1) := by
  intro a0 a1 k
  obtain ⟨ih0, ih1, ih2⟩ := rhizomeref02_Cmp.mono_l k
  unfold rhizomeref02_Cmp.f
  repeat' first
      | (with_reducible exact ih0 _ _ _)
      | (with_reducible exact ih1 _ _ _)
      | (with_reducible exact ih2 _ _)
      | (with_reducible exact LeO.refl _)
      | (with_reducible exact LeO.none _)
      | (with_reducible refine LeO.ite ?_ ?_)
      | (with_reducible refine LeO.bind ?_ (fun _ => ?_))
      | exact ih0 _ _ _
      | exact ih1 _ _ _
      | exact ih2 _ _
      | exact LeO.none _
      | refine LeO.ite ?_ ?_
      | refine LeO.bind ?_ (fun _ => ?_)
set_option maxHeartbeats 8000000 in
set_option maxRecDepth 100000 in
theorem rhizomeref02_Cmp.calls (k : Nat) (a0 : Int) (a1 : Int) (r1 : Int) (r2 : Bool) (w : World) (h : rhizomeref02_Cmp.f k a0 a1 = some (r1, r2)) :
    Calls Tryd.prog 35 #[.int .u64 a0, .int .u64 a1] w fun e w' => e = .returned (.tuple #[.int .i64 r1, .bool r2]) ∧ Drawn0 w w' := by
  have H : ((rhizomeref02_Kind.f a0).bind fun t263 => (if t263 = 4 then (rhizomeref02_Cmp.j0 k a0 a1 true) else ((rhizomeref02_Kind.f a1).bind fun t264 => (rhizomeref02_Cmp.j0 k a0 a1 (t264 == 4))))) = some (r1, r2) := h
  clear h
  have HC3 := Aside0.mk H
  clear H
  go_enter Tryd.func35, Tryd.ntmps35
  go_upto_region 1 with (fail)
  go_cut [15] (fun v15 wc => ∃ (kq : Nat) (x15_2 : Bool), v15 = .bool x15_2 ∧ Aside0 (rhizomeref02_Cmp.j0 kq a0 a1 x15_2 = some (r1, r2)) ∧ Aside0 (kq ≤ k) ∧ Drawn0 w wc)
  case first =>
    have H := HC3.out
    clear HC3
    replace H := Option.bind_eq_some_iff.mp H
    obtain ⟨t263, A40, H⟩ := H
    replace H : (if t263 = 4 then (rhizomeref02_Cmp.j0 k a0 a1 true) else ((rhizomeref02_Kind.f a1).bind fun t264 => (rhizomeref02_Cmp.j0 k a0 a1 (t264 == 4)))) = some (r1, r2) := H
    have A4 := Aside0.mk A40
    clear A40
    by_cases c5 : t263 = 4
    · rw [if_pos c5] at H
      have c5b0 : (t263 == 4) = true := beq_iff_eq.mpr c5
      have c5b1 : (t263 != 4) = false := bne_eq_false_iff_eq.mpr c5
      clear c5
      (first | rw [c5b0] | (simp only [i64_w, i32_w]; rw [c5b0]) | skip)
      have H' := Aside0.mk H
      clear H
      go_wp2_with (first | ((with_reducible refine gate_callee (f := 42) rfl ?_); refine goesL_ (some 9) rfl rfl Tryd.func42 (by kernel_rfl) rfl #[.int .u64 a0] rfl (by (try simp only [List.map_toArray, List.map_cons, List.map_nil]); first | done | rfl | (simp only [List.length_drop, List.length_take]; rfl)) ?_; (with_reducible refine (rhizomeref02_Kind.calls a0 t263 _ A4.out).mono ?_); rintro e w' ⟨rfl, ⟨nd, rfl⟩⟩; refine ⟨_, rfl, ?_⟩))
      go_meet
      case rel => exact ⟨_, (true), (by first | rfl | (simp; done) | (simp [*]; done)), H', ⟨by first | omega | exact Nat.le_refl _⟩, by repeat (first | exact Drawn0.refl _ | apply Drawn0.step)⟩
    · rw [if_neg c5] at H
      have c5b0 : (t263 == 4) = false := beq_eq_false_iff_ne.mpr c5
      have c5b1 : (t263 != 4) = true := bne_iff_ne.mpr c5
      (first | rw [c5b0] | (simp only [i64_w, i32_w]; rw [c5b0]) | skip)
      replace H := Option.bind_eq_some_iff.mp H
      obtain ⟨t264, A60, H⟩ := H
      replace H : (rhizomeref02_Cmp.j0 k a0 a1 (t264 == 4)) = some (r1, r2) := H
      have A6 := Aside0.mk A60
      clear A60
      have H' := Aside0.mk H
      clear H
      go_wp2_with (first | ((with_reducible refine gate_callee (f := 42) rfl ?_); refine goesL_ (some 9) rfl rfl Tryd.func42 (by kernel_rfl) rfl #[.int .u64 a0] rfl (by (try simp only [List.map_toArray, List.map_cons, List.map_nil]); first | done | rfl | (simp only [List.length_drop, List.length_take]; rfl)) ?_; (with_reducible refine (rhizomeref02_Kind.calls a0 t263 _ A4.out).mono ?_); rintro e w' ⟨rfl, ⟨nd, rfl⟩⟩; refine ⟨_, rfl, ?_⟩) | (go_at_call 42; (with_reducible refine (rhizomeref02_Kind.calls a1 t264 _ A6.out).mono ?_); rintro e w' ⟨rfl, ⟨nd, rfl⟩⟩))
      go_meet
      case rel => exact ⟨_, ((t264 == 4)), (by first | rfl | (simp; done) | (simp [*]; done)), H', ⟨by first | omega | exact Nat.le_refl _⟩, by repeat (first | exact Drawn0.refl _ | apply Drawn0.step)⟩
  case rest =>
    clear HC3
    try clear p2
    try clear c3
    try clear c4
    try clear c5
    try clear c5b0
    try clear c5b1
    obtain ⟨kq, x15_2, rfl, HA, HJ2, ⟨mc2, rfl⟩⟩ := hcut
    cases kq with
    | zero => exact absurd HA.out (by simp [rhizomeref02_Cmp.j0])
    | succ kj2 =>
      have H := HA.out
      clear HA
      simp only [rhizomeref02_Cmp.j0] at H
      by_cases c7 : x15_2 = true
      · subst c7
        have H1 : (some (0, false)) = some (r1, r2) := by rw [if_pos rfl] at H; exact H
        clear H
        have H := H1
        clear H1
        simp only [Option.some.injEq, Prod.mk.injEq] at H
        obtain ⟨rfl, rfl⟩ := H
        go_wp2
        go_ret2
        exact ⟨by first | rfl | (simp; done) | (simp [*]; done), by repeat (first | exact Drawn0.refl _ | apply Drawn0.step)⟩
      · replace c7 := Bool.eq_false_iff.mpr c7
        subst c7
        have H1 : ((rhizomeref02_Size.f a0).bind fun t265 => ((rhizomeref02_Size.f a1).bind fun t266 => (if a0 ≥ 9223372036854775808 then (rhizomeref02_Cmp.j1 kj2 a1 (wrap64 (-(wrap64 (t265)))) (wrap64 (t266))) else (rhizomeref02_Cmp.j1 kj2 a1 (wrap64 (t265)) (wrap64 (t266)))))) = some (r1, r2) := by rw [if_neg (show ¬ (false = true) by decide)] at H; exact H
        clear H
        have H := H1
        clear H1
        replace H := Option.bind_eq_some_iff.mp H
        obtain ⟨t265, A80, H⟩ := H
        replace H : ((rhizomeref02_Size.f a1).bind fun t266 => (if a0 ≥ 9223372036854775808 then (rhizomeref02_Cmp.j1 kj2 a1 (wrap64 (-(wrap64 (t265)))) (wrap64 (t266))) else (rhizomeref02_Cmp.j1 kj2 a1 (wrap64 (t265)) (wrap64 (t266))))) = some (r1, r2) := H
        have A8 := Aside0.mk A80
        clear A80
        replace H := Option.bind_eq_some_iff.mp H
        obtain ⟨t266, A90, H⟩ := H
        replace H : (if a0 ≥ 9223372036854775808 then (rhizomeref02_Cmp.j1 kj2 a1 (wrap64 (-(wrap64 (t265)))) (wrap64 (t266))) else (rhizomeref02_Cmp.j1 kj2 a1 (wrap64 (t265)) (wrap64 (t266)))) = some (r1, r2) := H
        have A9 := Aside0.mk A90
        clear A90
        have HC10 := Aside0.mk H
        clear H
        go_upto_if 23 with (first | ((with_reducible refine gate_callee (f := 49) rfl ?_); refine goesL_ (some 17) rfl rfl Tryd.func49 (by kernel_rfl) rfl #[.int .u64 a0] rfl (by (try simp only [List.map_toArray, List.map_cons, List.map_nil]); first | done | rfl | (simp only [List.length_drop, List.length_take]; rfl)) ?_; (with_reducible refine (rhizomeref02_Size.calls a0 t265 _ A8.out).mono ?_); rintro e w' ⟨rfl, ⟨nd, rfl⟩⟩; refine ⟨_, rfl, ?_⟩) | ((with_reducible refine gate_callee (f := 49) rfl ?_); refine goesL_ (some 20) rfl rfl Tryd.func49 (by kernel_rfl) rfl #[.int .u64 a1] rfl (by (try simp only [List.map_toArray, List.map_cons, List.map_nil]); first | done | rfl | (simp only [List.length_drop, List.length_take]; rfl)) ?_; (with_reducible refine (rhizomeref02_Size.calls a1 t266 _ A9.out).mono ?_); rintro e w' ⟨rfl, ⟨nd, rfl⟩⟩; refine ⟨_, rfl, ?_⟩))
        (try simp only [Act.put, List.setIfInBounds_toArray, List.set_cons_zero, List.set_cons_succ])
        go_cut [6] (fun v6 wc => ∃ (kq : Nat) (x6_9 : Int), v6 = .int .i64 x6_9 ∧ Aside0 (rhizomeref02_Cmp.j1 kq a1 x6_9 (wrap64 (t266)) = some (r1, r2)) ∧ Aside0 (kq ≤ kj2) ∧ Drawn0 w wc)
        case first =>
          have H := HC10.out
          clear HC10
          by_cases c11 : a0 ≥ 9223372036854775808
          · rw [if_pos c11] at H
            have c11b0 : decide (9223372036854775808 ≤ a0) = true := decide_eq_true c11
            clear c11
            (first | rw [c11b0] | (simp only [i64_w, i32_w]; rw [c11b0]) | skip)
            have H' := Aside0.mk H
            clear H
            go_wp2
            go_meet
            case rel => exact ⟨_, (wrap64 (-(wrap64 (t265)))), (by first | rfl | (simp; done) | (simp [*]; done)), H', ⟨by have := HJ2.out; first | omega | exact Nat.le_refl _⟩, by repeat (first | exact Drawn0.refl _ | apply Drawn0.step)⟩
          · rw [if_neg c11] at H
            have c11b0 : decide (9223372036854775808 ≤ a0) = false := decide_eq_false c11
            clear c11
            (first | rw [c11b0] | (simp only [i64_w, i32_w]; rw [c11b0]) | skip)
            have H' := Aside0.mk H
            clear H
            go_wp2
            go_meet
            case rel => exact ⟨_, (wrap64 (t265)), (by first | rfl | (simp; done) | (simp [*]; done)), H', ⟨by have := HJ2.out; first | omega | exact Nat.le_refl _⟩, by repeat (first | exact Drawn0.refl _ | apply Drawn0.step)⟩
        case rest =>
          clear HC10
          try clear c1
          try clear c2
          try clear p2
          try clear c3
          try clear c4
          try clear c5
          try clear c5b0
          try clear c5b1
          try clear p6
          try clear c7
          try clear c11
          try clear c11b0
          try clear p2
          obtain ⟨kq, x6_9, rfl, HA, HJ9, ⟨mc9, rfl⟩⟩ := hcut
          cases kq with
          | zero => exact absurd HA.out (by simp [rhizomeref02_Cmp.j1])
          | succ kj9 =>
            have H := HA.out
            clear HA
            simp only [rhizomeref02_Cmp.j1] at H
            have HC12 := Aside0.mk H
            clear H
            go_upto_if 27 with (fail)
            go_cut [7] (fun v7 wc => ∃ (kq : Nat) (x7_11 : Int), v7 = .int .i64 x7_11 ∧ Aside0 (rhizomeref02_Cmp.j2 kq x6_9 x7_11 = some (r1, r2)) ∧ Aside0 (kq ≤ kj9) ∧ Drawn0 w wc)
            case first =>
              have H := HC12.out
              clear HC12
              by_cases c13 : a1 ≥ 9223372036854775808
              · rw [if_pos c13] at H
                have c13b0 : decide (9223372036854775808 ≤ a1) = true := decide_eq_true c13
                clear c13
                (first | rw [c13b0] | (simp only [i64_w, i32_w]; rw [c13b0]) | skip)
                have H' := Aside0.mk H
                clear H
                go_wp2
                go_meet
                case rel => exact ⟨_, (wrap64 (-(wrap64 (t266)))), (by first | rfl | (simp; done) | (simp [*]; done)), H', ⟨by have := HJ2.out; have := HJ9.out; first | omega | exact Nat.le_refl _⟩, by repeat (first | exact Drawn0.refl _ | apply Drawn0.step)⟩
              · rw [if_neg c13] at H
                have c13b0 : decide (9223372036854775808 ≤ a1) = false := decide_eq_false c13
                clear c13
                (first | rw [c13b0] | (simp only [i64_w, i32_w]; rw [c13b0]) | skip)
                have H' := Aside0.mk H
                clear H
                go_wp2
                go_meet
                case rel => exact ⟨_, ((wrap64 (t266))), (by first | rfl | (simp; done) | (simp [*]; done)), H', ⟨by have := HJ2.out; have := HJ9.out; first | omega | exact Nat.le_refl _⟩, by repeat (first | exact Drawn0.refl _ | apply Drawn0.step)⟩
            case rest =>
              clear HC12
              try clear c1
              try clear c2
              try clear p2
              try clear c3
              try clear c4
              try clear c5
              try clear c5b0
              try clear c5b1
              try clear p6
              try clear c7
              try clear c9
              try clear c11
              try clear c11b0
              try clear c13
              try clear c13b0
              try clear p2
              try clear p6
              obtain ⟨kq, x7_11, rfl, HA, HJ11, ⟨mc11, rfl⟩⟩ := hcut
              cases kq with
              | zero => exact absurd HA.out (by simp [rhizomeref02_Cmp.j2])
              | succ kj11 =>
                have H := HA.out
                clear HA
                simp only [rhizomeref02_Cmp.j2] at H
                by_cases c14 : x6_9 < x7_11
                · rw [if_pos c14] at H
                  have c14b0 : decide (x6_9 < x7_11) = true := decide_eq_true c14
                  clear c14
                  simp only [Option.some.injEq, Prod.mk.injEq] at H
                  obtain ⟨rfl, rfl⟩ := H
                  go_wp2
                  go_ret2
                  exact ⟨by first | rfl | (simp; done) | (simp [*]; done), by repeat (first | exact Drawn0.refl _ | apply Drawn0.step)⟩
                · rw [if_neg c14] at H
                  have c14b0 : decide (x6_9 < x7_11) = false := decide_eq_false c14
                  clear c14
                  by_cases c15 : x6_9 > x7_11
                  · rw [if_pos c15] at H
                    have c15b0 : decide (x7_11 < x6_9) = true := decide_eq_true c15
                    clear c15
                    simp only [Option.some.injEq, Prod.mk.injEq] at H
                    obtain ⟨rfl, rfl⟩ := H
                    go_wp2
                    go_ret2
                    exact ⟨by first | rfl | (simp; done) | (simp [*]; done), by repeat (first | exact Drawn0.refl _ | apply Drawn0.step)⟩
                  · rw [if_neg c15] at H
                    have c15b0 : decide (x7_11 < x6_9) = false := decide_eq_false c15
                    clear c15
                    simp only [Option.some.injEq, Prod.mk.injEq] at H
                    obtain ⟨rfl, rfl⟩ := H
                    go_wp2
                    go_ret2
                    exact ⟨by first | rfl | (simp; done) | (simp [*]; done), by repeat (first | exact Drawn0.refl _ | apply Drawn0.step)⟩

end Go.Proofs.YtpimfioeeipnhaaDoor.K
