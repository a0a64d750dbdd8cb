/- Contracts of the functions that a law reaches, written by a program (a changed copy of the kit's print, over contracts of our own). No condition. -/
import Derived.Test.YtpimfioeeipnhaaDoorKx0
import Derived.Test.YtpimfioeeipnhaaDoorFx
import Derived.Test.YtpimfioeeipnhaaDoorKx13
import Derived.Test.YtpimfioeeipnhaaDoorKx17
import Derived.Test.YtpimfioeeipnhaaDoorKx22
import Derived.Test.YtpimfioeeipnhaaDoorKx23
namespace Go.Proofs.YtpimfioeeipnhaaDoor.K
open Go.Proofs.YtpimfioeeipnhaaDoor.Hand
open Go.RowKit Go.Proofs.YtpimfioeeipnhaaDoorW.PrintWords Go.Proofs.YtpimfioeeipnhaaDoorW.PrintLast Go.Proofs.YtpimfioeeipnhaaDoorW.PrintMore
attribute [local go_sem] max2_int min2_int max_two min_two max_three min_three max_four min_four   -- for this text's walks alone
set_option linter.unusedVariables false
set_option linter.unusedSimpArgs false

/-! ### rhizomelaw03_KeysReads: function 4 -/
mutual
def rhizomelaw03_KeysReads.l0 : Nat → ByteArray → List (S34) → Int → Int → Option (Bool)
  | 0, _, _, _, _ => none
  | k + 1, x0, x3, x4, x5 => if x5 < 2 then ((keys_Decode.f k x0).bind fun bt254 => (if bt254.2 = x4 then ((rhizomeref03_Same.f k bt254.1 x3).bind fun t258 => (rhizomelaw03_KeysReads.j1 k x0 x3 x4 x5 bt254.1 (!t258))) else (rhizomelaw03_KeysReads.j1 k x0 x3 x4 x5 bt254.1 true))) else ((rhizomelaw03_fixed.f k).bind fun t253 => (some t253))
def rhizomelaw03_KeysReads.j1 : Nat → ByteArray → List (S34) → Int → Int → List (S34) → Bool → Option (Bool)
  | 0, _, _, _, _, _, _ => none
  | k + 1, x0, x3, x4, x5, x6, x31 => if x31 = true then (some false) else (rhizomelaw03_KeysReads.l1 k x0 x3 x4 x5 x6 0)
def rhizomelaw03_KeysReads.l1 : Nat → ByteArray → List (S34) → Int → Int → List (S34) → Int → Option (Bool)
  | 0, _, _, _, _, _, _ => none
  | k + 1, x0, x3, x4, x5, x6, x8 => if x8 < (x6.length : Int) then (if 0 ≤ x8 then (rhizomelaw03_KeysReads.l1 k x0 x3 x4 x5 (x6.set (x8 : Int).toNat (⟨0, 0, 0, (⟨#[115, 112, 111, 105, 108, 116]⟩ : ByteArray)⟩ : S34)) (wrap64 (x8 + 1))) else (none)) else (rhizomelaw03_KeysReads.l0 k x0 x3 x4 (wrap64 (x5 + 1)))
end
def rhizomelaw03_KeysReads.f (k : Nat) (a0 : ByteArray) : Option (Bool) := (rhizomeref03_Decode.f k a0).bind fun bt249 => (rhizomelaw03_KeysReads.l0 k a0 bt249.1 bt249.2 0)
theorem rhizomelaw03_KeysReads.mono_l : ∀ k, (∀ y0 y1 y2 y3, LeO (rhizomelaw03_KeysReads.l0 k y0 y1 y2 y3) (rhizomelaw03_KeysReads.l0 (k + 1) y0 y1 y2 y3)) ∧ (∀ y0 y1 y2 y3 y4 y5, LeO (rhizomelaw03_KeysReads.j1 k y0 y1 y2 y3 y4 y5) (rhizomelaw03_KeysReads.j1 (k + 1) y0 y1 y2 y3 y4 y5)) ∧ (∀ y0 y1 y2 y3 y4 y5, LeO (rhizomelaw03_KeysReads.l1 k y0 y1 y2 y3 y4 y5) (rhizomelaw03_KeysReads.l1 (k + 1) y0 y1 y2 y3 y4 y5))
  | 0 => ⟨fun _ _ _ _ r h => by simp [rhizomelaw03_KeysReads.l0] at h, fun _ _ _ _ _ _ r h => by simp [rhizomelaw03_KeysReads.j1] at h, fun _ _ _ _ _ _ r h => by simp [rhizomelaw03_KeysReads.l1] at h⟩
  | k + 1 => by
    obtain ⟨ih0, ih1, ih2⟩ := rhizomelaw03_KeysReads.mono_l k
    refine ⟨?_, ?_, ?_⟩
    · intro y0 y1 y2 y3
      unfold rhizomelaw03_KeysReads.l0
      repeat' first
      | (with_reducible exact ih0 _ _ _ _)
      | (with_reducible exact ih1 _ _ _ _ _ _)
      | (with_reducible exact ih2 _ _ _ _ _ _)
      | (with_reducible exact keys_Decode.mono _ _)
      | (with_reducible exact rhizomelaw03_fixed.mono _)
      | (with_reducible exact rhizomeref03_Decode.mono _ _)
      | (with_reducible exact rhizomeref03_Same.mono _ _ _)
      | (with_reducible exact LeO.refl _)
      | (with_reducible exact LeO.none _)
      | (with_reducible refine LeO.ite ?_ ?_)
      | (with_reducible refine LeO.bind ?_ (fun _ => ?_))
      | exact ih0 _ _ _ _
      | exact ih1 _ _ _ _ _ _
      | exact ih2 _ _ _ _ _ _
      | exact keys_Decode.mono _ _
      | exact rhizomelaw03_fixed.mono _
      | exact rhizomeref03_Decode.mono _ _
      | exact rhizomeref03_Same.mono _ _ _
      | exact LeO.none _
      | refine LeO.ite ?_ ?_
      | refine LeO.bind ?_ (fun _ => ?_)
    · intro y0 y1 y2 y3 y4 y5
      unfold rhizomelaw03_KeysReads.j1
      repeat' first
      | (with_reducible exact ih0 _ _ _ _)
      | (with_reducible exact ih1 _ _ _ _ _ _)
      | (with_reducible exact ih2 _ _ _ _ _ _)
      | (with_reducible exact keys_Decode.mono _ _)
      | (with_reducible exact rhizomelaw03_fixed.mono _)
      | (with_reducible exact rhizomeref03_Decode.mono _ _)
      | (with_reducible exact rhizomeref03_Same.mono _ _ _)
      | (with_reducible exact LeO.refl _)
      | (with_reducible exact LeO.none _)
      | (with_reducible refine LeO.ite ?_ ?_)
      | (with_reducible refine LeO.bind ?_ (fun _ => ?_))
      | exact ih0 _ _ _ _
      | exact ih1 _ _ _ _ _ _
      | exact ih2 _ _ _ _ _ _
      | exact keys_Decode.mono _ _
      | exact rhizomelaw03_fixed.mono _
      | exact rhizomeref03_Decode.mono _ _
      | exact rhizomeref03_Same.mono _ _ _
      | exact LeO.none _
      | refine LeO.ite ?_ ?_
      | refine LeO.bind ?_ (fun _ => ?_)
    · intro y0 y1 y2 y3 y4 y5
      unfold rhizomelaw03_KeysReads.l1
      repeat' first
      | (with_reducible exact ih0 _ _ _ _)
      | (with_reducible exact ih1 _ _ _ _ _ _)
      | (with_reducible exact ih2 _ _ _ _ _ _)
      | (with_reducible exact keys_Decode.mono _ _)
      | (with_reducible exact rhizomelaw03_fixed.mono _)
      | (with_reducible exact rhizomeref03_Decode.mono _ _)
      | (with_reducible exact rhizomeref03_Same.mono _ _ _)
      | (with_reducible exact LeO.refl _)
      | (with_reducible exact LeO.none _)
      | (with_reducible refine LeO.ite ?_ ?_)
      | (with_reducible refine LeO.bind ?_ (fun _ => ?_))
      | exact ih0 _ _ _ _
      | exact ih1 _ _ _ _ _ _
      | exact ih2 _ _ _ _ _ _
      | exact keys_Decode.mono _ _
      | exact rhizomelaw03_fixed.mono _
      | exact rhizomeref03_Decode.mono _ _
      | exact rhizomeref03_Same.mono _ _ _
      | exact LeO.none _
      | refine LeO.ite ?_ ?_
      | refine LeO.bind ?_ (fun _ => ?_)
theorem rhizomelaw03_KeysReads.mono : ∀ a0 k, LeO (rhizomelaw03_KeysReads.f k a0) (rhizomelaw03_KeysReads.f (k + 1) a0) := by
  intro a0 k
  obtain ⟨ih0, ih1, ih2⟩ := rhizomelaw03_KeysReads.mono_l k
  unfold rhizomelaw03_KeysReads.f
  repeat' first
      | (with_reducible exact ih0 _ _ _ _)
      | (with_reducible exact ih1 _ _ _ _ _ _)
      | (with_reducible exact ih2 _ _ _ _ _ _)
      | (with_reducible exact keys_Decode.mono _ _)
      | (with_reducible exact rhizomelaw03_fixed.mono _)
      | (with_reducible exact rhizomeref03_Decode.mono _ _)
      | (with_reducible exact rhizomeref03_Same.mono _ _ _)
      | (with_reducible exact LeO.refl _)
      | (with_reducible exact LeO.none _)
      | (with_reducible refine LeO.ite ?_ ?_)
      | (with_reducible refine LeO.bind ?_ (fun _ => ?_))
      | exact ih0 _ _ _ _
      | exact ih1 _ _ _ _ _ _
      | exact ih2 _ _ _ _ _ _
      | exact keys_Decode.mono _ _
      | exact rhizomelaw03_fixed.mono _
      | exact rhizomeref03_Decode.mono _ _
      | exact rhizomeref03_Same.mono _ _ _
      | exact LeO.none _
      | refine LeO.ite ?_ ?_
      | refine LeO.bind ?_ (fun _ => ?_)
set_option maxHeartbeats 8000000 in
set_option maxRecDepth 100000 in
theorem rhizomelaw03_KeysReads.calls (k : Nat) (a0 : ByteArray) (r : Bool) (w : World) (h : rhizomelaw03_KeysReads.f k a0 = some r) (hr : r = true := by rfl) :
    Calls Tryd.prog 4 #[.string a0] w fun e w' => e = .returned (.bool r) ∧ Below w.heap.size w w' := by
  subst hr
  have hu34 := Tryd.underlying34
  have HB := Aside0.mk (Below.refl w.heap.size w)
  have H : ((rhizomeref03_Decode.f k a0).bind fun bt249 => (rhizomelaw03_KeysReads.l0 k a0 bt249.1 bt249.2 0)) = some true := h
  clear h
  replace H := Option.bind_eq_some_iff.mp H
  obtain ⟨⟨t249, t250⟩, A20, H⟩ := H
  replace H : (rhizomelaw03_KeysReads.l0 k a0 t249 t250 0) = some true := H
  have A2 := Aside0.mk A20
  clear A20
  have H' := Aside0.mk H
  clear H
  go_enter Tryd.func4, Tryd.ntmps4
  go_wp2_with (first | ((with_reducible refine gate_callee (f := 15) rfl ?_); refine goesL_ (some 11) rfl rfl Tryd.func15 (by kernel_rfl) rfl #[.string a0] rfl (by (try simp only [List.map_toArray, List.map_cons, List.map_nil]); first | done | rfl | (simp only [List.length_drop, List.length_take]; rfl)) ?_; (with_reducible refine (rhizomeref03_Decode.calls k a0 t249 t250 _ A2.out).mono ?_); rintro e w3 ⟨v251, rfl, ho0, hb⟩; refine ⟨_, rfl, ?_⟩; have n0_ := Aside0.mk (Kd.R_lower ho0 (below_size (by repeat (first | (with_reducible first | exact HB.out | apply below_alloc | apply pw_below_drewN | apply below_drew1) | exact HB.out)))); have n1_ := Aside0.mk (below_step (by repeat (first | (with_reducible first | exact HB.out | apply below_alloc | apply pw_below_drewN | apply below_drew1) | exact HB.out)) hb); clear HB; have HO252 := n0_; have HB := n1_; clear n0_ n1_; (try clear hb); (try clear hb2); (try clear hk); (try clear hi); (try clear ho0)))
  go_loopg [5] k (fun kq v5 w' => ∃ (x3_1 : List (S34)) (x5_1 : Int), v5 = .int .i64 x5_1 ∧ Aside0 (rhizomelaw03_KeysReads.l0 kq a0 x3_1 t250 x5_1 = some true) ∧ Aside0 (kq ≤ k) ∧ Aside0 (Kd.R k34 34 w' w.heap.size (fun _ => True) v251 x3_1) ∧ Aside0 (Below w.heap.size w w'))
  case atStart => exact ⟨(t249), (0), (by first | rfl | (simp; done) | (simp [*]; done)), H', ⟨Nat.le_refl _⟩, ⟨by (with_reducible repeat (first | apply Kd.R_alloc | apply Kd.R_drewN | apply Kd.R_drew)); exact HO252.out⟩, ⟨by repeat (first | (with_reducible first | exact HB.out | apply below_alloc | apply pw_below_drewN | apply below_drew1) | exact HB.out)⟩⟩
  case round =>
    clear H'
    try clear c1
    try clear p2
    obtain ⟨x3_1, x5_1, rfl, HA, HK1, HO_3, HB⟩ := hrel
    cases gk with
    | zero => exact absurd HA.out (by simp [rhizomelaw03_KeysReads.l0])
    | succ k1 =>
      have H := HA.out
      clear HA
      simp only [rhizomelaw03_KeysReads.l0] at H
      by_cases c4 : x5_1 < 2
      · rw [if_pos c4] at H
        have c4b0 : decide (x5_1 < 2) = true := decide_eq_true c4
        clear c4
        replace H := Option.bind_eq_some_iff.mp H
        obtain ⟨⟨t254, t255⟩, A50, H⟩ := H
        replace H : (if t255 = t250 then ((rhizomeref03_Same.f k1 t254 x3_1).bind fun t258 => (rhizomelaw03_KeysReads.j1 k1 a0 x3_1 t250 x5_1 t254 (!t258))) else (rhizomelaw03_KeysReads.j1 k1 a0 x3_1 t250 x5_1 t254 true)) = some true := H
        have A5 := Aside0.mk A50
        clear A50
        have HC6 := Aside0.mk H
        clear H
        go_upto_region 6 with (first | ((with_reducible refine gate_callee (f := 16) rfl ?_); refine goesL_ (some 20) rfl rfl Tryd.func16 (by kernel_rfl) rfl #[.string a0] rfl (by (try simp only [List.map_toArray, List.map_cons, List.map_nil]); first | done | rfl | (simp only [List.length_drop, List.length_take]; rfl)) ?_; (with_reducible refine (keys_Decode.calls k1 a0 t254 t255 _ A5.out).mono ?_); rintro e w7 ⟨v256, rfl, ho0, hb⟩; refine ⟨_, rfl, ?_⟩; have n0_ := Aside0.mk (Kd.R_elder' (by (with_reducible repeat (first | apply Kd.R_alloc | apply Kd.R_drewN | apply Kd.R_drew)); exact HO_3.out) (Kd.R_base ho0) hb); have n1_ := Aside0.mk (Kd.R_lower (Kd.R_new' ho0 (Kd.R_lt (by (with_reducible repeat (first | apply Kd.R_alloc | apply Kd.R_drewN | apply Kd.R_drew)); exact HO_3.out))) (below_size (by repeat (first | (with_reducible first | exact HB.out | apply below_alloc | apply pw_below_drewN | apply below_drew1) | exact HB.out)))); have n2_ := Aside0.mk (below_step (by repeat (first | (with_reducible first | exact HB.out | apply below_alloc | apply pw_below_drewN | apply below_drew1) | exact HB.out)) hb); clear HO_3; clear HB; have HO_3 := n0_; have HO257 := n1_; have HB := n2_; clear n0_ n1_ n2_; (try clear hb); (try clear hb2); (try clear hk); (try clear hi); (try clear ho0)))
        (try simp only [Act.put, List.setIfInBounds_toArray, List.set_cons_zero, List.set_cons_succ])
        go_cut [31] (fun v31 wc => ∃ (kq : Nat) (x31_5 : Bool), v31 = .bool x31_5 ∧ Aside0 (rhizomelaw03_KeysReads.j1 kq a0 x3_1 t250 x5_1 t254 x31_5 = some true) ∧ Aside0 (kq ≤ k1) ∧ Aside0 (Kd.R k34 34 wc w.heap.size (fun k_ => some k_ ≠ (v256 : Value).ownBlock) v251 x3_1) ∧ Aside0 (Kd.R k34 34 wc w.heap.size (fun k_ => some k_ ≠ (v251 : Value).ownBlock) v256 t254) ∧ Aside0 (Below w.heap.size w wc))
        case first =>
          have H := HC6.out
          clear HC6
          by_cases c8 : t255 = t250
          · rw [if_pos c8] at H
            have c8b0 : (t255 == t250) = true := beq_iff_eq.mpr c8
            have c8b1 : (t255 != t250) = false := bne_eq_false_iff_eq.mpr c8
            clear c8
            (first | rw [c8b0] | (simp only [i64_w, i32_w]; rw [c8b0]) | skip)
            replace H := Option.bind_eq_some_iff.mp H
            obtain ⟨t258, A90, H⟩ := H
            replace H : (rhizomelaw03_KeysReads.j1 k1 a0 x3_1 t250 x5_1 t254 (!t258)) = some true := H
            have A9 := Aside0.mk A90
            clear A90
            have H' := Aside0.mk H
            clear H
            obtain ⟨Ao10, co10, eo10⟩ := Kd.R_slice HO257.out
            subst eo10
            obtain ⟨Ao11, co11, eo11⟩ := Kd.R_slice HO_3.out
            subst eo11
            go_wp2_with (first | (go_at_call 17; (with_reducible refine (rhizomeref03_Same.calls k1 _ _ t254 _ _ x3_1 t258 _ ?side1 ?side2 ?side3 ?side4 A9.out).mono ?_); (case side1 => repeat (first | exact (Kd.R_reads' HO257.out).2.2 | (with_reducible refine Kd.C_alloc ?_ _) | (with_reducible refine Kd.C_drewN ?_ _) | (with_reducible refine Kd.C_drew ?_))); (case side2 => exact (Kd.R_reads' HO257.out).2.1); (case side3 => repeat (first | exact (Kd.R_reads' HO_3.out).2.2 | (with_reducible refine Kd.C_alloc ?_ _) | (with_reducible refine Kd.C_drewN ?_ _) | (with_reducible refine Kd.C_drew ?_))); (case side4 => exact (Kd.R_reads' HO_3.out).2.1); rintro e w' ⟨rfl, ⟨nd, rfl⟩⟩))
            go_meet
            case rel => exact ⟨_, (!t258), (by first | rfl | (simp; done) | (simp [*]; done)), H', ⟨by have := HK1.out; first | omega | exact Nat.le_refl _⟩, ⟨by (with_reducible repeat (first | apply Kd.R_alloc | apply Kd.R_drewN | apply Kd.R_drew)); exact Kd.R_mono HO_3.out (fun _ hk => hk.2)⟩, ⟨by (with_reducible repeat (first | apply Kd.R_alloc | apply Kd.R_drewN | apply Kd.R_drew)); exact Kd.R_mono HO257.out (fun _ hk => hk.2)⟩, ⟨by repeat (first | (with_reducible first | exact HB.out | apply below_alloc | apply pw_below_drewN | apply below_drew1) | exact HB.out)⟩⟩
          · rw [if_neg c8] at H
            have c8b0 : (t255 == t250) = false := beq_eq_false_iff_ne.mpr c8
            have c8b1 : (t255 != t250) = true := bne_iff_ne.mpr c8
            (first | rw [c8b0] | (simp only [i64_w, i32_w]; rw [c8b0]) | skip)
            have H' := Aside0.mk H
            clear H
            go_wp2
            go_meet
            case rel => exact ⟨_, (true), (by first | rfl | (simp; done) | (simp [*]; done)), H', ⟨by have := HK1.out; first | omega | exact Nat.le_refl _⟩, ⟨by (with_reducible repeat (first | apply Kd.R_alloc | apply Kd.R_drewN | apply Kd.R_drew)); exact Kd.R_mono HO_3.out (fun _ hk => hk.2)⟩, ⟨by (with_reducible repeat (first | apply Kd.R_alloc | apply Kd.R_drewN | apply Kd.R_drew)); exact Kd.R_mono HO257.out (fun _ hk => hk.2)⟩, ⟨by repeat (first | (with_reducible first | exact HB.out | apply below_alloc | apply pw_below_drewN | apply below_drew1) | exact HB.out)⟩⟩
        case rest =>
          clear HC6
          try clear c1
          try clear p2
          try clear c4
          try clear c4b0
          try clear c8
          try clear c8b0
          try clear c8b1
          try clear p2
          obtain ⟨kq, x31_5, rfl, HA, HJ5, HO_3, HO_6, HB⟩ := hcut
          cases kq with
          | zero => exact absurd HA.out (by simp [rhizomelaw03_KeysReads.j1])
          | succ kj5 =>
            have H := HA.out
            clear HA
            simp only [rhizomelaw03_KeysReads.j1] at H
            by_cases c12 : x31_5 = true
            · subst c12
              have H1 : (some false) = some true := by rw [if_pos rfl] at H; exact H
              clear H
              have H := H1
              clear H1
              exact absurd H (by simp)
            · replace c12 := Bool.eq_false_iff.mpr c12
              subst c12
              have H1 : (rhizomelaw03_KeysReads.l1 kj5 a0 x3_1 t250 x5_1 t254 0) = some true := by rw [if_neg (show ¬ (false = true) by decide)] at H; exact H
              clear H
              have H := H1
              clear H1
              have H' := Aside0.mk H
              clear H
              go_wp2
              go_loopg [8] kj5 (fun kq v8 w' => ∃ (x6_3 : List (S34)) (x8_3 : Int), v8 = .int .i64 x8_3 ∧ Aside0 (rhizomelaw03_KeysReads.l1 kq a0 x3_1 t250 x5_1 x6_3 x8_3 = some true) ∧ Aside0 (kq ≤ kj5) ∧ Aside0 (Kd.R k34 34 w' w.heap.size (fun k_ => some k_ ≠ (v256 : Value).ownBlock) v251 x3_1) ∧ Aside0 (Kd.R k34 34 w' w.heap.size (fun k_ => some k_ ≠ (v251 : Value).ownBlock) v256 x6_3) ∧ Aside0 (Below w.heap.size w w'))
              case atStart => exact ⟨(t254), (0), (by first | rfl | (simp; done) | (simp [*]; done)), H', ⟨Nat.le_refl _⟩, ⟨by (with_reducible repeat (first | apply Kd.R_alloc | apply Kd.R_drewN | apply Kd.R_drew)); exact HO_3.out⟩, ⟨by (with_reducible repeat (first | apply Kd.R_alloc | apply Kd.R_drewN | apply Kd.R_drew)); exact HO_6.out⟩, ⟨by repeat (first | (with_reducible first | exact HB.out | apply below_alloc | apply pw_below_drewN | apply below_drew1) | exact HB.out)⟩⟩
              case round =>
                clear H'
                try clear c1
                try clear p2
                try clear c4
                try clear c4b0
                try clear c8
                try clear c8b0
                try clear c8b1
                try clear c12
                try clear p2
                obtain ⟨x6_3, x8_3, rfl, HA, HK3, HO_3, HO_6, HB⟩ := hrel
                cases gk with
                | zero => exact absurd HA.out (by simp [rhizomelaw03_KeysReads.l1])
                | succ k3 =>
                  have H := HA.out
                  clear HA
                  simp only [rhizomelaw03_KeysReads.l1] at H
                  by_cases c13 : x8_3 < (x6_3.length : Int)
                  · rw [if_pos c13] at H
                    have c13b0 : decide (x8_3 < (x6_3.length : Int)) = true := decide_eq_true c13
                    clear c13
                    by_cases c14 : 0 ≤ x8_3
                    · rw [if_pos c14] at H
                      have c14b0 : decide (0 ≤ x8_3) = true := decide_eq_true c14
                      clear c14
                      obtain ⟨y259, hy259⟩ : ∃ y_ : List (S34), y_ = (x6_3.set (x8_3 : Int).toNat (⟨0, 0, 0, (⟨#[115, 112, 111, 105, 108, 116]⟩ : ByteArray)⟩ : S34)) := ⟨_, rfl⟩
                      replace H : (rhizomelaw03_KeysReads.l1 k3 a0 x3_1 t250 x5_1 y259 (wrap64 (x8_3 + 1))) = some true := by first | (rw [hy259]; with_reducible exact H) | (have H2_ := (Option.bind_some _ _).symm.trans H; rw [hy259]; with_reducible exact H2_) | (have H2_ := (Option.bind_some _ _).symm.trans H; with_reducible exact H2_) | with_reducible exact H | (rw [hy259]; exact H) | exact H
                      have Ny259 := Aside0.mk hy259
                      clear hy259
                      have H' := Aside0.mk H
                      clear H
                      obtain ⟨Ao16, co16, eo16⟩ := Kd.R_slice HO_6.out
                      subst eo16
                      have p15 : 0 ≤ (x8_3 : Int) := of_decide_eq_true (by first | (with_reducible assumption) | assumption)
                      have q15 : (x8_3 : Int) < ((x6_3.length : Int) : Int) := of_decide_eq_true (by first | (with_reducible assumption) | assumption)
                      obtain ⟨go15, co15, eo15, gb15, gl15, cl15, HG15⟩ := Kd.R_form HO_6.out (by omega)
                      (first | cases eo15 | (injection eo15 with ea_ en_ ec_; (first | subst ea_ | (injection ea_ with ea_; subst ea_)); subst ec_; clear en_))
                      have GB15 := Aside0.mk gb15
                      have GG15 := Aside0.mk HG15
                      clear gb15 gl15 HG15
                      obtain ⟨ce15, hcl15, hM15, hcc15, hfr15⟩ := Kd.R_elem HO_6.out z34 (x8_3 : Int) p15 q15
                      obtain rfl := k34_openM hM15
                      have hx15_0 : wr.cell? ⟨go15, (x8_3 : Int).toNat * 4, none⟩ = some (.int .i64 ((rd_T34 x6_3 x8_3).f0)) := hcc15 0 _ rfl
                      have hx15_1 : wr.cell? ⟨go15, (x8_3 : Int).toNat * 4 + 1, none⟩ = some (.int .i64 ((rd_T34 x6_3 x8_3).f1)) := hcc15 1 _ rfl
                      have hx15_2 : wr.cell? ⟨go15, (x8_3 : Int).toNat * 4 + 2, none⟩ = some (.int .u64 ((rd_T34 x6_3 x8_3).f2)) := hcc15 2 _ rfl
                      have hx15_3 : wr.cell? ⟨go15, (x8_3 : Int).toNat * 4 + 3, none⟩ = some (.string ((rd_T34 x6_3 x8_3).f3)) := hcc15 3 _ rfl
                      have hf15_0 : wr.frozen? ⟨go15, (x8_3 : Int).toNat * 4, none⟩ = false := hfr15 0
                      have hf15_1 : wr.frozen? ⟨go15, (x8_3 : Int).toNat * 4 + 1, none⟩ = false := hfr15 1
                      have hf15_2 : wr.frozen? ⟨go15, (x8_3 : Int).toNat * 4 + 2, none⟩ = false := hfr15 2
                      have hf15_3 : wr.frozen? ⟨go15, (x8_3 : Int).toNat * 4 + 3, none⟩ = false := hfr15 3
                      clear hcl15 hcc15 hfr15 hM15
                      replace p15 := eq_true p15
                      replace q15 := eq_true q15
                      have HX17 := Aside0.mk (show Kd.R k34 34 wr w.heap.size (fun k_ => some k_ ≠ (v251 : Value).ownBlock) (.slice (some ⟨go15, 0, none⟩) x6_3.length co16) x6_3 from (by (with_reducible repeat (first | apply Kd.R_alloc | apply Kd.R_drewN | apply Kd.R_drew)); exact HO_6.out))
                      obtain ⟨ce17, hcl17, hM17, hcc17, hfr17⟩ := Kd.R_elem HX17.out z34 (x8_3 : Int) (of_decide_eq_true (by first | (with_reducible assumption) | assumption)) (by have h_ : (x8_3 : Int) < ((x6_3.length : Int) : Int) := of_decide_eq_true (by first | (with_reducible assumption) | assumption); first | exact h_ | (have e_ := (Kd.R_reads' HO_6.out).1; omega) | simpa using h_)
                      obtain rfl := k34_openM hM17
                      have HP17 := Kd.R_seg HX17.out (x8_3 : Int) (of_decide_eq_true (by first | (with_reducible assumption) | assumption)) (by have h_ : (x8_3 : Int) < ((x6_3.length : Int) : Int) := of_decide_eq_true (by first | (with_reducible assumption) | assumption); first | exact h_ | (have e_ := (Kd.R_reads' HO_6.out).1; omega) | simpa using h_) (seg := [.int .i64 0, .int .i64 0, .int .u64 0, .string (⟨#[115, 112, 111, 105, 108, 116]⟩ : ByteArray)]) (j := 0) hcl17 hcc17 (show 4 ≤ 4 from by decide) (x' := (⟨0, 0, 0, (⟨#[115, 112, 111, 105, 108, 116]⟩ : ByteArray)⟩ : S34)) (k34_mkM _ _ _ (⟨0, 0, 0, (⟨#[115, 112, 111, 105, 108, 116]⟩ : ByteArray)⟩ : S34) ) (fun _ hk => hk)
                      have hx17_0 := hcc17 0 _ rfl
                      (try simp only [show (k34).sz = 4 from rfl, Nat.mul_one, Nat.add_zero] at hx17_0)
                      have hf17_0 := hfr17 0
                      (try simp only [show (k34).sz = 4 from rfl, Nat.mul_one, Nat.add_zero] at hf17_0)
                      have hx17_1 := hcc17 1 _ rfl
                      (try simp only [show (k34).sz = 4 from rfl, Nat.mul_one, Nat.add_zero] at hx17_1)
                      have hf17_1 := hfr17 1
                      (try simp only [show (k34).sz = 4 from rfl, Nat.mul_one, Nat.add_zero] at hf17_1)
                      have hx17_2 := hcc17 2 _ rfl
                      (try simp only [show (k34).sz = 4 from rfl, Nat.mul_one, Nat.add_zero] at hx17_2)
                      have hf17_2 := hfr17 2
                      (try simp only [show (k34).sz = 4 from rfl, Nat.mul_one, Nat.add_zero] at hf17_2)
                      have hx17_3 := hcc17 3 _ rfl
                      (try simp only [show (k34).sz = 4 from rfl, Nat.mul_one, Nat.add_zero] at hx17_3)
                      have hf17_3 := hfr17 3
                      (try simp only [show (k34).sz = 4 from rfl, Nat.mul_one, Nat.add_zero] at hf17_3)
                      clear hcl17 hcc17 hfr17 hM17
                      go_wp2_with (first | ((with_reducible refine gate_store (t := 34) (p := 41) rfl ?_); refine store_event (t := 34) (p := 41) (v := ?vo_w18) (w1 := ((((wr.setCell ⟨go15, (x8_3 : Int).toNat * 4, none⟩ (.int .i64 0)).setCell ⟨go15, (x8_3 : Int).toNat * 4 + 1, none⟩ (.int .i64 0)).setCell ⟨go15, (x8_3 : Int).toNat * 4 + 2, none⟩ (.int .u64 0)).setCell ⟨go15, (x8_3 : Int).toNat * 4 + 3, none⟩ (.string (⟨#[115, 112, 111, 105, 108, 116]⟩ : ByteArray)))) ?hg ?ho ?hn ?hr ?_; (case ho => rfl); (case hg => rfl); (case hn => rfl); (case hr => first | (go_simp; done) | (go_simp; rfl)); intro w18 hw; have hg : wr.grownBy w18 (some go15) := (by rw [hw]; exact HP17.2); have hp_ : Kd.R k34 34 w18 w.heap.size (fun k_ => some k_ ≠ (v251 : Value).ownBlock) (.slice (some ⟨go15, 0, none⟩) x6_3.length co16) y259 := (by rw [hw, Ny259.out]; exact HP17.1); clear HP17; have n0_ := Aside0.mk (Kd.R_after (v := (.slice (some ⟨go15, 0, none⟩) x6_3.length co16)) (v1 := (.slice (some ⟨go15, 0, none⟩) x6_3.length co16)) (ok := (fun _ => True)) (by (with_reducible repeat (first | apply Kd.R_alloc | apply Kd.R_drewN | apply Kd.R_drew)); exact Kd.R_mono HO_3.out (fun _ hk => ⟨trivial, hk⟩)) hg (.inl rfl)); have n1_ := Aside0.mk (hp_); have n2_ := Aside0.mk ((by rw [hw]; exact below_set (below_set (below_set (below_set (HB.out) GB15.out) GB15.out) GB15.out) GB15.out : Below w.heap.size w w18)); clear HO_3; clear HO_6; clear HB; have HO_3 := n0_; have HO_6 := n1_; have HB := n2_; clear n0_ n1_ n2_; clear hg hw hp_))
                      go_roundg k3
                      case measure => have := HK1.out; have := HJ5.out; have := HK3.out; omega
                      case rel => exact ⟨(y259), (wrap64 (x8_3 + 1)), (by first | rfl | (simp; done) | (simp [*]; done)), H', ⟨by have := HK1.out; have := HJ5.out; have := HK3.out; omega⟩, ⟨by (with_reducible repeat (first | apply Kd.R_alloc | apply Kd.R_drewN | apply Kd.R_drew)); exact Kd.R_mono HO_3.out (fun _ hk => hk.2)⟩, ⟨by (with_reducible repeat (first | apply Kd.R_alloc | apply Kd.R_drewN | apply Kd.R_drew)); exact HO_6.out⟩, ⟨by repeat (first | (with_reducible first | exact HB.out | apply below_alloc | apply pw_below_drewN | apply below_drew1) | exact HB.out)⟩⟩
                    · rw [if_neg c14] at H
                      exact absurd H (by simp)
                  · rw [if_neg c13] at H
                    have c13b0 : decide (x8_3 < (x6_3.length : Int)) = false := decide_eq_false c13
                    clear c13
                    have H' := Aside0.mk H
                    clear H
                    obtain ⟨Ao19, co19, eo19⟩ := Kd.R_slice HO_6.out
                    subst eo19
                    go_wp2
                    go_roundg k3
                    case measure => have := HK1.out; have := HJ5.out; have := HK3.out; omega
                    case rel => exact ⟨(x3_1), (wrap64 (x5_1 + 1)), (by first | rfl | (simp; done) | (simp [*]; done)), H', ⟨by have := HK1.out; have := HJ5.out; have := HK3.out; omega⟩, ⟨by (with_reducible repeat (first | apply Kd.R_alloc | apply Kd.R_drewN | apply Kd.R_drew)); exact Kd.R_mono HO_3.out (fun _ hk => trivial)⟩, ⟨by repeat (first | (with_reducible first | exact HB.out | apply below_alloc | apply pw_below_drewN | apply below_drew1) | exact HB.out)⟩⟩
      · rw [if_neg c4] at H
        have c4b0 : decide (x5_1 < 2) = false := decide_eq_false c4
        clear c4
        replace H := Option.bind_eq_some_iff.mp H
        obtain ⟨t253, A200, H⟩ := H
        replace H : (some t253) = some true := H
        have A20 := Aside0.mk A200
        clear A200
        first | (obtain rfl := Option.some.inj H) | (have HR_ := Option.some.inj H)
        go_wp2_with (first | ((with_reducible refine gate_callee (f := 13) rfl ?_); refine goesL_ (some 42) rfl rfl Tryd.func13 (by kernel_rfl) rfl #[] rfl (by (try simp only [List.map_toArray, List.map_cons, List.map_nil]); first | done | rfl | (simp only [List.length_drop, List.length_take]; rfl)) ?_; (with_reducible refine (rhizomelaw03_fixed.calls k1 true _ (by have h_ := A20.out; have e_ := fixed_true h_; first | exact h_ | (rw [e_] at h_; exact h_))).mono ?_); rintro e w21 ⟨rfl, hb⟩; refine ⟨_, rfl, ?_⟩; have n0_ := Aside0.mk (Kd.R_below (by (with_reducible repeat (first | apply Kd.R_alloc | apply Kd.R_drewN | apply Kd.R_drew)); exact HO_3.out) hb); have n1_ := Aside0.mk (below_step (by repeat (first | (with_reducible first | exact HB.out | apply below_alloc | apply pw_below_drewN | apply below_drew1) | exact HB.out)) hb); clear HO_3; clear HB; have HO_3 := n0_; have HB := n1_; clear n0_ n1_; (try clear hb); (try clear hb2); (try clear hk); (try clear hi)))
        go_ret
        exact ⟨by first | rfl | (simp [errW_none, errW_some] <;> rfl) | (simp [*, errW_none, errW_some] <;> rfl), by repeat (first | (with_reducible first | exact HB.out | apply below_alloc | apply pw_below_drewN | apply below_drew1) | exact HB.out)⟩

/-- THE ONE PURE STATEMENT of rhizomelaw03_KeysReads: yours. -/
def rhizomelaw03_KeysReads.Pure : Prop := ∀ (a0 : ByteArray), a0.size ≤ 140737488351232 → ∃ k, rhizomelaw03_KeysReads.f k a0 = some true
theorem rhizomelaw03_KeysReads.walk (P : rhizomelaw03_KeysReads.Pure) (a0 : ByteArray) (w : World) (w0 : a0.size ≤ 140737488351232) :
    Calls Tryd.prog 4 #[.string a0] w fun e w' => e = .returned (.bool true) ∧ Below w.heap.size w w' := by
  obtain ⟨k, h⟩ := P a0 w0
  refine (rhizomelaw03_KeysReads.calls k a0 true w h).mono ?_
  rintro e w' ⟨rfl, hd⟩
  exact ⟨rfl, hd⟩

end Go.Proofs.YtpimfioeeipnhaaDoor.K
