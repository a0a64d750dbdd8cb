/- Contracts of the functions that a law reaches, written by a program (a changed copy of the kit's print, over contracts of our own). No condition. -/
import Derived.Test.YtpimfioeeipnhaaDoorKx0
import Derived.Test.YtpimfioeeipnhaaDoorFx
import Derived.Test.YtpimfioeeipnhaaDoorKx14
import Derived.Test.YtpimfioeeipnhaaDoorKx17
namespace Go.Proofs.YtpimfioeeipnhaaDoor.K
open Go.Proofs.YtpimfioeeipnhaaDoor.Hand
open Go.RowKit Go.Proofs.YtpimfioeeipnhaaDoorW.PrintWords Go.Proofs.YtpimfioeeipnhaaDoorW.PrintLast Go.Proofs.YtpimfioeeipnhaaDoorW.PrintMore
attribute [local go_sem] max2_int min2_int max_two min_two max_three min_three max_four min_four   -- for this text's walks alone
set_option linter.unusedVariables false
set_option linter.unusedSimpArgs false

/-! ### rhizomelaw03_KeysAfter: function 9 -/
def rhizomelaw03_KeysAfter.j0 : Nat → ByteArray → ByteArray → ByteArray → Bool → Bool → Option (Bool)
  | 0, _, _, _, _, _ => none
  | k + 1, x0, x1, x5, x6, x7 => (rhizomelaw03_fixed.f k).bind fun t329 => (if t329 = true then (if x6 = true then (if ((Op.bytesLess x1.toList x0.toList) = true) then (some (x7 == false)) else (some (x7 == (Op.bytesLess x1.toList x5.toList)))) else (if x5.toList = ([] : List UInt8) then (if (Op.bytesLess x1.toList x0.toList) = true then (some true) else (some x7)) else (some false))) else (some false))
def rhizomelaw03_KeysAfter.f (k : Nat) (a0 : ByteArray) (a1 : ByteArray) : Option (Bool) := (keys_After.f k a0).bind fun bt327 => (if (a1.size : Int) ≥ (a0.size : Int) then (if 0 ≤ (a0.size : Int) then (if (a0.size : Int) ≤ (a1.size : Int) then (rhizomelaw03_KeysAfter.j0 k a0 a1 bt327.1 bt327.2 ((a1.extract 0 ((a0.size : Int) : Int).toNat).toList == a0.toList)) else (none)) else (none)) else (rhizomelaw03_KeysAfter.j0 k a0 a1 bt327.1 bt327.2 false))
theorem rhizomelaw03_KeysAfter.mono_l : ∀ k, (∀ y0 y1 y2 y3 y4, LeO (rhizomelaw03_KeysAfter.j0 k y0 y1 y2 y3 y4) (rhizomelaw03_KeysAfter.j0 (k + 1) y0 y1 y2 y3 y4))
  | 0 => fun _ _ _ _ _ r h => by simp [rhizomelaw03_KeysAfter.j0] at h
  | k + 1 => by
    have ih0 := rhizomelaw03_KeysAfter.mono_l k
    · intro y0 y1 y2 y3 y4
      unfold rhizomelaw03_KeysAfter.j0
      repeat' first
      | (with_reducible exact ih0 _ _ _ _ _)
      | (with_reducible exact keys_After.mono _ _)
      | (with_reducible exact rhizomelaw03_fixed.mono _)
      | (with_reducible exact LeO.refl _)
      | (with_reducible exact LeO.none _)
      | (with_reducible refine LeO.ite ?_ ?_)
      | (with_reducible refine LeO.bind ?_ (fun _ => ?_))
      | exact ih0 _ _ _ _ _
      | exact keys_After.mono _ _
      | exact rhizomelaw03_fixed.mono _
      | exact LeO.none _
      | refine LeO.ite ?_ ?_
      | refine LeO.bind ?_ (fun _ => ?_)
theorem rhizomelaw03_KeysAfter.mono : ∀ a0 a1 k, LeO (rhizomelaw03_KeysAfter.f k a0 a1) (rhizomelaw03_KeysAfter.f (k + 1) a0 a1) := by
  intro a0 a1 k
  have ih0 := rhizomelaw03_KeysAfter.mono_l k
  unfold rhizomelaw03_KeysAfter.f
  repeat' first
      | (with_reducible exact ih0 _ _ _ _ _)
      | (with_reducible exact keys_After.mono _ _)
      | (with_reducible exact rhizomelaw03_fixed.mono _)
      | (with_reducible exact LeO.refl _)
      | (with_reducible exact LeO.none _)
      | (with_reducible refine LeO.ite ?_ ?_)
      | (with_reducible refine LeO.bind ?_ (fun _ => ?_))
      | exact ih0 _ _ _ _ _
      | exact keys_After.mono _ _
      | exact rhizomelaw03_fixed.mono _
      | exact LeO.none _
      | refine LeO.ite ?_ ?_
      | refine LeO.bind ?_ (fun _ => ?_)
set_option maxHeartbeats 8000000 in
set_option maxRecDepth 100000 in
theorem rhizomelaw03_KeysAfter.calls (k : Nat) (a0 : ByteArray) (a1 : ByteArray) (r : Bool) (w : World) (h : rhizomelaw03_KeysAfter.f k a0 a1 = some r) (hr : r = true := by rfl) :
    Calls Tryd.prog 9 #[.string a0, .string a1] w fun e w' => e = .returned (.bool r) ∧ Below w.heap.size w w' := by
  subst hr
  have HB := Aside0.mk (Below.refl w.heap.size w)
  have H : ((keys_After.f k a0).bind fun bt327 => (if (a1.size : Int) ≥ (a0.size : Int) then (if 0 ≤ (a0.size : Int) then (if (a0.size : Int) ≤ (a1.size : Int) then (rhizomelaw03_KeysAfter.j0 k a0 a1 bt327.1 bt327.2 ((a1.extract 0 ((a0.size : Int) : Int).toNat).toList == a0.toList)) else (none)) else (none)) else (rhizomelaw03_KeysAfter.j0 k a0 a1 bt327.1 bt327.2 false))) = some true := h
  clear h
  replace H := Option.bind_eq_some_iff.mp H
  obtain ⟨⟨t327, t328⟩, A30, H⟩ := H
  replace H : (if (a1.size : Int) ≥ (a0.size : Int) then (if 0 ≤ (a0.size : Int) then (if (a0.size : Int) ≤ (a1.size : Int) then (rhizomelaw03_KeysAfter.j0 k a0 a1 t327 t328 ((a1.extract 0 ((a0.size : Int) : Int).toNat).toList == a0.toList)) else (none)) else (none)) else (rhizomelaw03_KeysAfter.j0 k a0 a1 t327 t328 false)) = some true := H
  have A3 := Aside0.mk A30
  clear A30
  have HC4 := Aside0.mk H
  clear H
  go_enter Tryd.func9, Tryd.ntmps9
  go_upto_region 2 with (first | ((with_reducible refine gate_callee (f := 18) rfl ?_); refine goesL_ (some 10) rfl rfl Tryd.func18 (by kernel_rfl) rfl #[.string a0] rfl (by (try simp only [List.map_toArray, List.map_cons, List.map_nil]); first | done | rfl | (simp only [List.length_drop, List.length_take]; rfl)) ?_; (with_reducible refine (keys_After.calls k a0 t327 t328 _ A3.out).mono ?_); rintro e w5 ⟨rfl, hb⟩; refine ⟨_, rfl, ?_⟩; have n0_ := Aside0.mk (below_step (by repeat (first | (with_reducible first | exact HB.out | apply below_alloc | apply pw_below_drewN | apply below_drew1) | exact HB.out)) hb); clear HB; have HB := n0_; clear n0_; (try clear hb); (try clear hb2); (try clear hk); (try clear hi)))
  (try simp only [Act.put, List.setIfInBounds_toArray, List.set_cons_zero, List.set_cons_succ])
  go_cut [7] (fun v7 wc => ∃ (kq : Nat) (x7_3 : Bool), v7 = .bool x7_3 ∧ Aside0 (rhizomelaw03_KeysAfter.j0 kq a0 a1 t327 t328 x7_3 = some true) ∧ Aside0 (kq ≤ k) ∧ Aside0 (Below w.heap.size w wc))
  case first =>
    have H := HC4.out
    clear HC4
    by_cases c6 : (a1.size : Int) ≥ (a0.size : Int)
    · rw [if_pos c6] at H
      have c6b0 : decide ((a0.size : Int) ≤ (a1.size : Int)) = true := decide_eq_true c6
      have c6b1 : decide (a0.size ≤ a1.size) = true := decide_eq_true (Int.ofNat_le.mp c6)
      clear c6
      (first | rw [c6b0] | (simp only [i64_w, i32_w]; rw [c6b0]) | skip)
      by_cases c7 : 0 ≤ (a0.size : Int)
      · rw [if_pos c7] at H
        have c7b0 := eq_true c7
        have c7b1 : decide (0 ≤ (a0.size : Int)) = true := decide_eq_true c7
        clear c7
        by_cases c8 : (a0.size : Int) ≤ (a1.size : Int)
        · rw [if_pos c8] at H
          have c8b0 := eq_true c8
          have c8b1 : decide ((a0.size : Int) ≤ (a1.size : Int)) = true := decide_eq_true c8
          clear c8
          have H' := Aside0.mk H
          clear H
          go_wp2
          go_meet
          case rel => exact ⟨_, (((a1.extract 0 ((a0.size : Int) : Int).toNat).toList == a0.toList)), (by first | rfl | (simp; done) | (simp [*]; done)), H', ⟨by first | omega | exact Nat.le_refl _⟩, ⟨by repeat (first | (with_reducible first | exact HB.out | apply below_alloc | apply pw_below_drewN | apply below_drew1) | exact HB.out)⟩⟩
        · rw [if_neg c8] at H
          exact absurd H (by simp)
      · rw [if_neg c7] at H
        exact absurd H (by simp)
    · rw [if_neg c6] at H
      have c6b0 : decide ((a0.size : Int) ≤ (a1.size : Int)) = false := decide_eq_false c6
      have c6b1 : decide (a0.size ≤ a1.size) = false := decide_eq_false (fun h => c6 (Int.ofNat_le.mpr h))
      clear c6
      (first | rw [c6b0] | (simp only [i64_w, i32_w]; rw [c6b0]) | skip)
      have H' := Aside0.mk H
      clear H
      go_wp2
      go_meet
      case rel => exact ⟨_, (false), (by first | rfl | (simp; done) | (simp [*]; done)), H', ⟨by first | omega | exact Nat.le_refl _⟩, ⟨by repeat (first | (with_reducible first | exact HB.out | apply below_alloc | apply pw_below_drewN | apply below_drew1) | exact HB.out)⟩⟩
  case rest =>
    clear HC4
    try clear c1
    try clear p2
    try clear c6
    try clear c6b0
    try clear c6b1
    try clear c7
    try clear c7b0
    try clear c7b1
    try clear c8
    try clear c8b0
    try clear c8b1
    obtain ⟨kq, x7_3, rfl, HA, HJ3, HB⟩ := hcut
    cases kq with
    | zero => exact absurd HA.out (by simp [rhizomelaw03_KeysAfter.j0])
    | succ kj3 =>
      have H := HA.out
      clear HA
      simp only [rhizomelaw03_KeysAfter.j0] at H
      replace H := Option.bind_eq_some_iff.mp H
      obtain ⟨t329, A90, H⟩ := H
      replace H : (if t329 = true then (if t328 = true then (if ((Op.bytesLess a1.toList a0.toList) = true) then (some (x7_3 == false)) else (some (x7_3 == (Op.bytesLess a1.toList t327.toList)))) else (if t327.toList = ([] : List UInt8) then (if (Op.bytesLess a1.toList a0.toList) = true then (some true) else (some x7_3)) else (some false))) else (some false)) = some true := H
      have A9 := Aside0.mk A90
      clear A90
      by_cases c10 : t329 = true
      · subst c10
        have H1 : (if t328 = true then (if ((Op.bytesLess a1.toList a0.toList) = true) then (some (x7_3 == false)) else (some (x7_3 == (Op.bytesLess a1.toList t327.toList)))) else (if t327.toList = ([] : List UInt8) then (if (Op.bytesLess a1.toList a0.toList) = true then (some true) else (some x7_3)) else (some false))) = some true := by rw [if_pos rfl] at H; exact H
        clear H
        have H := H1
        clear H1
        by_cases c11 : t328 = true
        · subst c11
          have H1 : (if ((Op.bytesLess a1.toList a0.toList) = true) then (some (x7_3 == false)) else (some (x7_3 == (Op.bytesLess a1.toList t327.toList)))) = some true := by rw [if_pos rfl] at H; exact H
          clear H
          have H := H1
          clear H1
          by_cases c12 : ((Op.bytesLess a1.toList a0.toList) = true)
          · rw [if_pos c12] at H
            have c12b0 : (Op.bytesLess a1.toList a0.toList) = true := c12
            clear c12
            first | (obtain rfl := Option.some.inj H) | (have HR_ := Option.some.inj H)
            go_wp2_with (first | ((with_reducible refine gate_callee (f := 13) rfl ?_); refine goesL_ (some 26) rfl rfl Tryd.func13 (by kernel_rfl) rfl #[] rfl (by (try simp only [List.map_toArray, List.map_cons, List.map_nil]); first | done | rfl | (simp only [List.length_drop, List.length_take]; rfl)) ?_; (with_reducible refine (rhizomelaw03_fixed.calls kj3  true _ A9.out).mono ?_); rintro e w13 ⟨rfl, hb⟩; refine ⟨_, rfl, ?_⟩; have n0_ := Aside0.mk (below_step (by repeat (first | (with_reducible first | exact HB.out | apply below_alloc | apply pw_below_drewN | apply below_drew1) | exact HB.out)) hb); clear HB; have HB := n0_; clear n0_; (try clear hb); (try clear hb2); (try clear hk); (try clear hi)))
            go_ret
            exact ⟨by first | rfl | (simp [errW_none, errW_some] <;> rfl) | (simp [*, errW_none, errW_some] <;> rfl), by repeat (first | (with_reducible first | exact HB.out | apply below_alloc | apply pw_below_drewN | apply below_drew1) | exact HB.out)⟩
          · rw [if_neg c12] at H
            have c12b0 : (Op.bytesLess a1.toList a0.toList) = false := by simpa using c12
            clear c12
            first | (obtain rfl := Option.some.inj H) | (have HR_ := Option.some.inj H)
            go_wp2_with (first | ((with_reducible refine gate_callee (f := 13) rfl ?_); refine goesL_ (some 26) rfl rfl Tryd.func13 (by kernel_rfl) rfl #[] rfl (by (try simp only [List.map_toArray, List.map_cons, List.map_nil]); first | done | rfl | (simp only [List.length_drop, List.length_take]; rfl)) ?_; (with_reducible refine (rhizomelaw03_fixed.calls kj3  true _ A9.out).mono ?_); rintro e w14 ⟨rfl, hb⟩; refine ⟨_, rfl, ?_⟩; have n0_ := Aside0.mk (below_step (by repeat (first | (with_reducible first | exact HB.out | apply below_alloc | apply pw_below_drewN | apply below_drew1) | exact HB.out)) hb); clear HB; have HB := n0_; clear n0_; (try clear hb); (try clear hb2); (try clear hk); (try clear hi)))
            go_ret
            exact ⟨by first | rfl | (simp [errW_none, errW_some] <;> rfl) | (simp [*, errW_none, errW_some] <;> rfl), by repeat (first | (with_reducible first | exact HB.out | apply below_alloc | apply pw_below_drewN | apply below_drew1) | exact HB.out)⟩
        · replace c11 := Bool.eq_false_iff.mpr c11
          subst c11
          have H1 : (if t327.toList = ([] : List UInt8) then (if (Op.bytesLess a1.toList a0.toList) = true then (some true) else (some x7_3)) else (some false)) = some true := by rw [if_neg (show ¬ (false = true) by decide)] at H; exact H
          clear H
          have H := H1
          clear H1
          by_cases c15 : t327.toList = ([] : List UInt8)
          · rw [if_pos c15] at H
            have c15b0 : (t327.toList == ([] : List UInt8)) = true := beq_iff_eq.mpr c15
            have c15b1 : (t327.toList != ([] : List UInt8)) = false := bne_eq_false_iff_eq.mpr c15
            clear c15
            by_cases c16 : (Op.bytesLess a1.toList a0.toList) = true
            · rw [if_pos c16] at H
              have c16b0 : (Op.bytesLess a1.toList a0.toList) = true := c16
              clear c16
              first | (obtain rfl := Option.some.inj H) | (have HR_ := Option.some.inj H)
              go_wp2_with (first | ((with_reducible refine gate_callee (f := 13) rfl ?_); refine goesL_ (some 26) rfl rfl Tryd.func13 (by kernel_rfl) rfl #[] rfl (by (try simp only [List.map_toArray, List.map_cons, List.map_nil]); first | done | rfl | (simp only [List.length_drop, List.length_take]; rfl)) ?_; (with_reducible refine (rhizomelaw03_fixed.calls kj3  true _ A9.out).mono ?_); rintro e w17 ⟨rfl, hb⟩; refine ⟨_, rfl, ?_⟩; have n0_ := Aside0.mk (below_step (by repeat (first | (with_reducible first | exact HB.out | apply below_alloc | apply pw_below_drewN | apply below_drew1) | exact HB.out)) hb); clear HB; have HB := n0_; clear n0_; (try clear hb); (try clear hb2); (try clear hk); (try clear hi)))
              go_ret
              exact ⟨by first | rfl | (simp [errW_none, errW_some] <;> rfl) | (simp [*, errW_none, errW_some] <;> rfl), by repeat (first | (with_reducible first | exact HB.out | apply below_alloc | apply pw_below_drewN | apply below_drew1) | exact HB.out)⟩
            · rw [if_neg c16] at H
              have c16b0 : (Op.bytesLess a1.toList a0.toList) = false := by simpa using c16
              clear c16
              first | (obtain rfl := Option.some.inj H) | (have HR_ := Option.some.inj H)
              go_wp2_with (first | ((with_reducible refine gate_callee (f := 13) rfl ?_); refine goesL_ (some 26) rfl rfl Tryd.func13 (by kernel_rfl) rfl #[] rfl (by (try simp only [List.map_toArray, List.map_cons, List.map_nil]); first | done | rfl | (simp only [List.length_drop, List.length_take]; rfl)) ?_; (with_reducible refine (rhizomelaw03_fixed.calls kj3  true _ A9.out).mono ?_); rintro e w18 ⟨rfl, hb⟩; refine ⟨_, rfl, ?_⟩; have n0_ := Aside0.mk (below_step (by repeat (first | (with_reducible first | exact HB.out | apply below_alloc | apply pw_below_drewN | apply below_drew1) | exact HB.out)) hb); clear HB; have HB := n0_; clear n0_; (try clear hb); (try clear hb2); (try clear hk); (try clear hi)))
              go_ret
              exact ⟨by first | rfl | (simp [errW_none, errW_some] <;> rfl) | (simp [*, errW_none, errW_some] <;> rfl), by repeat (first | (with_reducible first | exact HB.out | apply below_alloc | apply pw_below_drewN | apply below_drew1) | exact HB.out)⟩
          · rw [if_neg c15] at H
            have c15b0 : (t327.toList == ([] : List UInt8)) = false := beq_eq_false_iff_ne.mpr c15
            have c15b1 : (t327.toList != ([] : List UInt8)) = true := bne_iff_ne.mpr c15
            exact absurd H (by simp)
      · exact absurd (fixed_true A9.out) c10

/-- THE ONE PURE STATEMENT of rhizomelaw03_KeysAfter: yours. -/
def rhizomelaw03_KeysAfter.Pure : Prop := ∀ (a0 : ByteArray) (a1 : ByteArray), a0.size ≤ 140737488351232 → a1.size ≤ 140737488351232 → ∃ k, rhizomelaw03_KeysAfter.f k a0 a1 = some true
theorem rhizomelaw03_KeysAfter.walk (P : rhizomelaw03_KeysAfter.Pure) (a0 : ByteArray) (a1 : ByteArray) (w : World) (w0 : a0.size ≤ 140737488351232) (w1 : a1.size ≤ 140737488351232) :
    Calls Tryd.prog 9 #[.string a0, .string a1] w fun e w' => e = .returned (.bool true) ∧ Below w.heap.size w w' := by
  obtain ⟨k, h⟩ := P a0 a1 w0 w1
  refine (rhizomelaw03_KeysAfter.calls k a0 a1 true w h).mono ?_
  rintro e w' ⟨rfl, hd⟩
  exact ⟨rfl, hd⟩

end Go.Proofs.YtpimfioeeipnhaaDoor.K
