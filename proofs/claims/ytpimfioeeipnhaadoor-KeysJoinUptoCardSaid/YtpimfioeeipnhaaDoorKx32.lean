/- Contracts of the functions that a law reaches, written by a program (a changed copy of the kit's print, over contracts of our own). No condition. -/
import Derived.Test.YtpimfioeeipnhaaDoorKx0
import Derived.Test.YtpimfioeeipnhaaDoorFx
import Derived.Test.YtpimfioeeipnhaaDoorKx7
import Derived.Test.YtpimfioeeipnhaaDoorKx14
import Derived.Test.YtpimfioeeipnhaaDoorKx17
namespace Go.Proofs.YtpimfioeeipnhaaDoor.K
open Go.Proofs.YtpimfioeeipnhaaDoor.Hand
open Go.RowKit Go.Proofs.YtpimfioeeipnhaaDoorW.PrintWords Go.Proofs.YtpimfioeeipnhaaDoorW.PrintLast Go.Proofs.YtpimfioeeipnhaaDoorW.PrintMore
attribute [local go_sem] max2_int min2_int max_two min_two max_three min_three max_four min_four   -- for this text's walks alone
set_option linter.unusedVariables false
set_option linter.unusedSimpArgs false

/-! ### rhizomelaw03_KeysJoin: function 8 -/
def rhizomelaw03_KeysJoin.j0 : Nat → ByteArray → ByteArray → ByteArray → Int → Bool → Option (Bool)
  | 0, _, _, _, _, _ => none
  | k + 1, x6, x8, x10, x11, x51 => if x51 = true then (some false) else (if x11 = 0 then ((keys_After.f k x6).bind fun bt325 => (if x6.size + x8.size ≤ 9223372036854775807 then (if x10.toList = (x6 ++ x8).toList then (if ((Op.bytesLess x10.toList x6.toList) = true) then (some false) else (if bt325.2 = true then (some (Op.bytesLess x10.toList bt325.1.toList)) else (some true))) else (some false)) else (none))) else (some (x10.toList == ([] : List UInt8))))
def rhizomelaw03_KeysJoin.f (k : Nat) (l0 : List (S34)) (l1 : List (S34)) : Option (Bool) := (some (([] : List (S34)) : List (S34))).bind fun y309 => (if y309.length + l0.length < 3518437208883 then ((some (y309 ++ l0 : List (S34))).bind fun y312 => (if y312.length + l1.length < 3518437208883 then ((some (y312 ++ l1 : List (S34))).bind fun y315 => ((keys_Encode.f k l0).bind fun bt318 => ((keys_Encode.f k l1).bind fun bt320 => ((keys_Encode.f k y315).bind fun bt322 => ((rhizomelaw03_fixed.f k).bind fun t324 => (if t324 = true then (if bt318.2 = 0 then (if bt320.2 = 0 then (rhizomelaw03_KeysJoin.j0 k bt318.1 bt320.1 bt322.1 bt322.2 ((bt322.2 == 0) != (decide ((y315.length : Int) ≤ 16)))) else (rhizomelaw03_KeysJoin.j0 k bt318.1 bt320.1 bt322.1 bt322.2 ((bt322.2 == 0) != false))) else (rhizomelaw03_KeysJoin.j0 k bt318.1 bt320.1 bt322.1 bt322.2 ((bt322.2 == 0) != false))) else (rhizomelaw03_KeysJoin.j0 k bt318.1 bt320.1 bt322.1 bt322.2 true))))))) else (none))) else (none))
theorem rhizomelaw03_KeysJoin.mono_l : ∀ k, (∀ y0 y1 y2 y3 y4, LeO (rhizomelaw03_KeysJoin.j0 k y0 y1 y2 y3 y4) (rhizomelaw03_KeysJoin.j0 (k + 1) y0 y1 y2 y3 y4))
  | 0 => fun _ _ _ _ _ r h => by simp [rhizomelaw03_KeysJoin.j0] at h
  | k + 1 => by
    have ih0 := rhizomelaw03_KeysJoin.mono_l k
    · intro y0 y1 y2 y3 y4
      unfold rhizomelaw03_KeysJoin.j0
      repeat' first
      | (with_reducible exact ih0 _ _ _ _ _)
      | (with_reducible exact keys_After.mono _ _)
      | (with_reducible exact keys_Encode.mono _ _)
      | (with_reducible exact rhizomelaw03_fixed.mono _)
      | (with_reducible exact LeO.refl _)
      | (with_reducible exact LeO.none _)
      | (with_reducible refine LeO.ite ?_ ?_)
      | (with_reducible refine LeO.bind ?_ (fun _ => ?_))
      | exact ih0 _ _ _ _ _
      | exact keys_After.mono _ _
      | exact keys_Encode.mono _ _
      | exact rhizomelaw03_fixed.mono _
      | exact LeO.none _
      | refine LeO.ite ?_ ?_
      | refine LeO.bind ?_ (fun _ => ?_)
theorem rhizomelaw03_KeysJoin.mono : ∀ a0 a1 k, LeO (rhizomelaw03_KeysJoin.f k a0 a1) (rhizomelaw03_KeysJoin.f (k + 1) a0 a1) := by
  intro a0 a1 k
  have ih0 := rhizomelaw03_KeysJoin.mono_l k
  unfold rhizomelaw03_KeysJoin.f
  repeat' first
      | (with_reducible exact ih0 _ _ _ _ _)
      | (with_reducible exact keys_After.mono _ _)
      | (with_reducible exact keys_Encode.mono _ _)
      | (with_reducible exact rhizomelaw03_fixed.mono _)
      | (with_reducible exact LeO.refl _)
      | (with_reducible exact LeO.none _)
      | (with_reducible refine LeO.ite ?_ ?_)
      | (with_reducible refine LeO.bind ?_ (fun _ => ?_))
      | exact ih0 _ _ _ _ _
      | exact keys_After.mono _ _
      | exact keys_Encode.mono _ _
      | exact rhizomelaw03_fixed.mono _
      | exact LeO.none _
      | refine LeO.ite ?_ ?_
      | refine LeO.bind ?_ (fun _ => ?_)
set_option maxHeartbeats 8000000 in
set_option maxRecDepth 100000 in
theorem rhizomelaw03_KeysJoin.calls (k : Nat) (A0 : Option Addr) (c0 : Nat) (l0 : List (S34)) (A1 : Option Addr) (c1 : Nat) (l1 : List (S34)) (r : Bool) (w : World) (hr0 : Kd.C k34 w A0 l0.length l0) (hc0 : l0.length ≤ c0) (hr1 : Kd.C k34 w A1 l1.length l1) (hc1 : l1.length ≤ c1) (h : rhizomelaw03_KeysJoin.f k l0 l1 = some r) (hr : r = true := by rfl) :
    Calls Tryd.prog 8 #[.slice A0 l0.length c0, .slice A1 l1.length c1] w fun e w' => e = .returned (.bool r) ∧ Below w.heap.size w w' := by
  subst hr
  have HR0 := Aside0.mk hr0
  have HC0 := Aside0.mk hc0
  clear hr0 hc0
  have HR1 := Aside0.mk hr1
  have HC1 := Aside0.mk hc1
  clear hr1 hc1
  have HB := Aside0.mk (Below.refl w.heap.size w)
  have H : ((some (([] : List (S34)) : List (S34))).bind fun y309 => (if y309.length + l0.length < 3518437208883 then ((some (y309 ++ l0 : List (S34))).bind fun y312 => (if y312.length + l1.length < 3518437208883 then ((some (y312 ++ l1 : List (S34))).bind fun y315 => ((keys_Encode.f k l0).bind fun bt318 => ((keys_Encode.f k l1).bind fun bt320 => ((keys_Encode.f k y315).bind fun bt322 => ((rhizomelaw03_fixed.f k).bind fun t324 => (if t324 = true then (if bt318.2 = 0 then (if bt320.2 = 0 then (rhizomelaw03_KeysJoin.j0 k bt318.1 bt320.1 bt322.1 bt322.2 ((bt322.2 == 0) != (decide ((y315.length : Int) ≤ 16)))) else (rhizomelaw03_KeysJoin.j0 k bt318.1 bt320.1 bt322.1 bt322.2 ((bt322.2 == 0) != false))) else (rhizomelaw03_KeysJoin.j0 k bt318.1 bt320.1 bt322.1 bt322.2 ((bt322.2 == 0) != false))) else (rhizomelaw03_KeysJoin.j0 k bt318.1 bt320.1 bt322.1 bt322.2 true))))))) else (none))) else (none))) = some true := h
  clear h
  obtain ⟨y309, hy309⟩ : ∃ y_ : List (S34), y_ = (([] : List (S34))) := ⟨_, rfl⟩
  replace H : (if y309.length + l0.length < 3518437208883 then ((some (y309 ++ l0 : List (S34))).bind fun y312 => (if y312.length + l1.length < 3518437208883 then ((some (y312 ++ l1 : List (S34))).bind fun y315 => ((keys_Encode.f k l0).bind fun bt318 => ((keys_Encode.f k l1).bind fun bt320 => ((keys_Encode.f k y315).bind fun bt322 => ((rhizomelaw03_fixed.f k).bind fun t324 => (if t324 = true then (if bt318.2 = 0 then (if bt320.2 = 0 then (rhizomelaw03_KeysJoin.j0 k bt318.1 bt320.1 bt322.1 bt322.2 ((bt322.2 == 0) != (decide ((y315.length : Int) ≤ 16)))) else (rhizomelaw03_KeysJoin.j0 k bt318.1 bt320.1 bt322.1 bt322.2 ((bt322.2 == 0) != false))) else (rhizomelaw03_KeysJoin.j0 k bt318.1 bt320.1 bt322.1 bt322.2 ((bt322.2 == 0) != false))) else (rhizomelaw03_KeysJoin.j0 k bt318.1 bt320.1 bt322.1 bt322.2 true))))))) else (none))) else (none)) = some true := by first | (rw [hy309]; with_reducible exact H) | (have H2_ := (Option.bind_some _ _).symm.trans H; rw [hy309]; with_reducible exact H2_) | (have H2_ := (Option.bind_some _ _).symm.trans H; with_reducible exact H2_) | with_reducible exact H | (rw [hy309]; exact H) | exact H
  have Ny309 := Aside0.mk hy309
  clear hy309
  by_cases c3 : y309.length + l0.length < 3518437208883
  · rw [if_pos c3] at H
    have LMc3 := Aside0.mk c3
    clear c3
    obtain ⟨y312, hy312⟩ : ∃ y_ : List (S34), y_ = (y309 ++ l0) := ⟨_, rfl⟩
    replace H : (if y312.length + l1.length < 3518437208883 then ((some (y312 ++ l1 : List (S34))).bind fun y315 => ((keys_Encode.f k l0).bind fun bt318 => ((keys_Encode.f k l1).bind fun bt320 => ((keys_Encode.f k y315).bind fun bt322 => ((rhizomelaw03_fixed.f k).bind fun t324 => (if t324 = true then (if bt318.2 = 0 then (if bt320.2 = 0 then (rhizomelaw03_KeysJoin.j0 k bt318.1 bt320.1 bt322.1 bt322.2 ((bt322.2 == 0) != (decide ((y315.length : Int) ≤ 16)))) else (rhizomelaw03_KeysJoin.j0 k bt318.1 bt320.1 bt322.1 bt322.2 ((bt322.2 == 0) != false))) else (rhizomelaw03_KeysJoin.j0 k bt318.1 bt320.1 bt322.1 bt322.2 ((bt322.2 == 0) != false))) else (rhizomelaw03_KeysJoin.j0 k bt318.1 bt320.1 bt322.1 bt322.2 true))))))) else (none)) = some true := by first | (rw [hy312]; with_reducible exact H) | (have H2_ := (Option.bind_some _ _).symm.trans H; rw [hy312]; with_reducible exact H2_) | (have H2_ := (Option.bind_some _ _).symm.trans H; with_reducible exact H2_) | with_reducible exact H | (rw [hy312]; exact H) | exact H
    have Ny312 := Aside0.mk hy312
    clear hy312
    by_cases c4 : y312.length + l1.length < 3518437208883
    · rw [if_pos c4] at H
      have LMc4 := Aside0.mk c4
      clear c4
      obtain ⟨y315, hy315⟩ : ∃ y_ : List (S34), y_ = (y312 ++ l1) := ⟨_, rfl⟩
      replace H : ((keys_Encode.f k l0).bind fun bt318 => ((keys_Encode.f k l1).bind fun bt320 => ((keys_Encode.f k y315).bind fun bt322 => ((rhizomelaw03_fixed.f k).bind fun t324 => (if t324 = true then (if bt318.2 = 0 then (if bt320.2 = 0 then (rhizomelaw03_KeysJoin.j0 k bt318.1 bt320.1 bt322.1 bt322.2 ((bt322.2 == 0) != (decide ((y315.length : Int) ≤ 16)))) else (rhizomelaw03_KeysJoin.j0 k bt318.1 bt320.1 bt322.1 bt322.2 ((bt322.2 == 0) != false))) else (rhizomelaw03_KeysJoin.j0 k bt318.1 bt320.1 bt322.1 bt322.2 ((bt322.2 == 0) != false))) else (rhizomelaw03_KeysJoin.j0 k bt318.1 bt320.1 bt322.1 bt322.2 true)))))) = some true := by first | (rw [hy315]; with_reducible exact H) | (have H2_ := (Option.bind_some _ _).symm.trans H; rw [hy315]; with_reducible exact H2_) | (have H2_ := (Option.bind_some _ _).symm.trans H; with_reducible exact H2_) | with_reducible exact H | (rw [hy315]; exact H) | exact H
      have Ny315 := Aside0.mk hy315
      clear hy315
      replace H := Option.bind_eq_some_iff.mp H
      obtain ⟨⟨t318, t319⟩, A50, H⟩ := H
      replace H : ((keys_Encode.f k l1).bind fun bt320 => ((keys_Encode.f k y315).bind fun bt322 => ((rhizomelaw03_fixed.f k).bind fun t324 => (if t324 = true then (if t319 = 0 then (if bt320.2 = 0 then (rhizomelaw03_KeysJoin.j0 k t318 bt320.1 bt322.1 bt322.2 ((bt322.2 == 0) != (decide ((y315.length : Int) ≤ 16)))) else (rhizomelaw03_KeysJoin.j0 k t318 bt320.1 bt322.1 bt322.2 ((bt322.2 == 0) != false))) else (rhizomelaw03_KeysJoin.j0 k t318 bt320.1 bt322.1 bt322.2 ((bt322.2 == 0) != false))) else (rhizomelaw03_KeysJoin.j0 k t318 bt320.1 bt322.1 bt322.2 true))))) = some true := H
      have A5 := Aside0.mk A50
      clear A50
      replace H := Option.bind_eq_some_iff.mp H
      obtain ⟨⟨t320, t321⟩, A60, H⟩ := H
      replace H : ((keys_Encode.f k y315).bind fun bt322 => ((rhizomelaw03_fixed.f k).bind fun t324 => (if t324 = true then (if t319 = 0 then (if t321 = 0 then (rhizomelaw03_KeysJoin.j0 k t318 t320 bt322.1 bt322.2 ((bt322.2 == 0) != (decide ((y315.length : Int) ≤ 16)))) else (rhizomelaw03_KeysJoin.j0 k t318 t320 bt322.1 bt322.2 ((bt322.2 == 0) != false))) else (rhizomelaw03_KeysJoin.j0 k t318 t320 bt322.1 bt322.2 ((bt322.2 == 0) != false))) else (rhizomelaw03_KeysJoin.j0 k t318 t320 bt322.1 bt322.2 true)))) = some true := H
      have A6 := Aside0.mk A60
      clear A60
      replace H := Option.bind_eq_some_iff.mp H
      obtain ⟨⟨t322, t323⟩, A70, H⟩ := H
      replace H : ((rhizomelaw03_fixed.f k).bind fun t324 => (if t324 = true then (if t319 = 0 then (if t321 = 0 then (rhizomelaw03_KeysJoin.j0 k t318 t320 t322 t323 ((t323 == 0) != (decide ((y315.length : Int) ≤ 16)))) else (rhizomelaw03_KeysJoin.j0 k t318 t320 t322 t323 ((t323 == 0) != false))) else (rhizomelaw03_KeysJoin.j0 k t318 t320 t322 t323 ((t323 == 0) != false))) else (rhizomelaw03_KeysJoin.j0 k t318 t320 t322 t323 true))) = some true := H
      have A7 := Aside0.mk A70
      clear A70
      have HC8 := Aside0.mk H
      clear H
      go_enter Tryd.func8, Tryd.ntmps8
      go_upto_region 5 with (first | ((with_reducible refine gate_dst (N := 14) rfl ?_); (try (refine gate_guard (by rfl) ?_; dsimp only)); refine Kd.R_lit k34 _ 34 ?hg (N := 14) ?hd (xs := ([] : List (S34))) (inner := []) (ok := fun _ => True) (okp := fun _ => True) ?hr ?hp (fun _ hk => hk) trivial (Below.refl _ _) (Nat.le_refl _) (by simp) ?_; (case hd => rfl); (case hg => rfl); (case hr => first | (go_simp; done) | (go_simp; rfl)); (case hp => exact (Reps.none _ _)); intro v310 w9 ho10 hb hg_ hnew_; clear hg_ hnew_; (first | rw [← Ny309.out] at ho10 | (simp only [Int.reduceToNat] at ho10; rw [← Ny309.out] at ho10)); have n0_ := Aside0.mk (Kd.R_lower ho10 (below_size (by repeat (first | (with_reducible first | exact HB.out | apply below_alloc | apply pw_below_drewN | apply below_drew1) | exact HB.out)))); have n1_ := Aside0.mk (below_step (by repeat (first | (with_reducible first | exact HB.out | apply below_alloc | apply pw_below_drewN | apply below_drew1) | exact HB.out)) hb); clear HB; have HO311 := n0_; have HB := n1_; clear n0_ n1_; clear hb ho10) | ((with_reducible refine gate_builtin (b := .append) (xs := #[.tmp 14, .tmp 15]) rfl ?_); (try (refine gate_guard (by rfl) ?_; dsimp only)); at_builtin; refine Kd.R_append_rows k34 (w0 := w) w.heap.size rfl (.tmp 14) (.tmp 15) 22 34 (.agg #[(.int .i64 0), (.int .i64 0), (.int .u64 0), (.string ⟨#[]⟩)]) 40 rfl Tryd.underlying22 info34 rfl (by decide) (by omega) v310 y309 l0 _ _ _ (fun _ => True) (fun _ => False) rfl rfl ?aO ?aR (fun _ _ h => h) (fun _ h => h.elim) ?aF ?aB ?aS ?aL ?_; (case aR => repeat (first | exact (Kd.C_below HR0.out HB.out) | (with_reducible refine Kd.C_alloc ?_ _) | (with_reducible refine Kd.C_drewN ?_ _) | (with_reducible refine Kd.C_drew ?_))); (case aB => exact (by repeat (first | (with_reducible first | exact HB.out | apply below_alloc | apply pw_below_drewN | apply below_drew1) | exact HB.out))); (case aF => exact (fun _ _ => trivial)); (case aO => exact (by (with_reducible repeat (first | apply Kd.R_alloc | apply Kd.R_drewN | apply Kd.R_drew)); exact HO311.out)); (case aS => exact (below_size (by repeat (first | (with_reducible first | exact HB.out | apply below_alloc | apply pw_below_drewN | apply below_drew1) | exact HB.out)))); (case aL => have := LMc3.out; omega); intro v313 w11 ho hb hg hat; rw [← Ny312.out] at ho; have n0_ := Aside0.mk (hb); have n1_ := Aside0.mk (ho); clear HB; clear HO311; have HB := n0_; have HO314 := n1_; clear n0_ n1_; clear ho hb hg hat) | ((with_reducible refine gate_builtin (b := .append) (xs := #[.tmp 16, .tmp 17]) rfl ?_); (try (refine gate_guard (by rfl) ?_; dsimp only)); at_builtin; refine Kd.R_append_rows k34 (w0 := w) w.heap.size rfl (.tmp 16) (.tmp 17) 22 34 (.agg #[(.int .i64 0), (.int .i64 0), (.int .u64 0), (.string ⟨#[]⟩)]) 40 rfl Tryd.underlying22 info34 rfl (by decide) (by omega) v313 y312 l1 _ _ _ (fun _ => True) (fun _ => False) rfl rfl ?aO ?aR (fun _ _ h => h) (fun _ h => h.elim) ?aF ?aB ?aS ?aL ?_; (case aR => repeat (first | exact (Kd.C_below HR1.out HB.out) | (with_reducible refine Kd.C_alloc ?_ _) | (with_reducible refine Kd.C_drewN ?_ _) | (with_reducible refine Kd.C_drew ?_))); (case aB => exact (by repeat (first | (with_reducible first | exact HB.out | apply below_alloc | apply pw_below_drewN | apply below_drew1) | exact HB.out))); (case aF => exact (fun _ _ => trivial)); (case aO => exact (by (with_reducible repeat (first | apply Kd.R_alloc | apply Kd.R_drewN | apply Kd.R_drew)); exact HO314.out)); (case aS => exact (below_size (by repeat (first | (with_reducible first | exact HB.out | apply below_alloc | apply pw_below_drewN | apply below_drew1) | exact HB.out)))); (case aL => have := LMc4.out; omega); intro v316 w12 ho hb hg hat; rw [← Ny315.out] at ho; have n0_ := Aside0.mk (hb); have n1_ := Aside0.mk (ho); clear HB; clear HO314; have HB := n0_; have HO317 := n1_; clear n0_ n1_; clear ho hb hg hat) | ((with_reducible refine gate_callee (f := 11) rfl ?_); refine goesL_ (some 21) rfl rfl Tryd.func11 (by kernel_rfl) rfl #[.slice A0 l0.length c0] rfl (by (try simp only [List.map_toArray, List.map_cons, List.map_nil]); first | done | rfl | (simp only [List.length_drop, List.length_take]; rfl)) ?_; (with_reducible refine (keys_Encode.calls k _ _ l0 t318 t319 _ ?side1 ?side2 A5.out).mono ?_); (case side1 => repeat (first | exact (Kd.C_below HR0.out HB.out) | (with_reducible refine Kd.C_alloc ?_ _) | (with_reducible refine Kd.C_drewN ?_ _) | (with_reducible refine Kd.C_drew ?_))); (case side2 => exact HC0.out); rintro e w13 ⟨rfl, hb⟩; refine ⟨_, rfl, ?_⟩; have n0_ := Aside0.mk (Kd.R_below (by (with_reducible repeat (first | apply Kd.R_alloc | apply Kd.R_drewN | apply Kd.R_drew)); exact HO317.out) hb); have n1_ := Aside0.mk (below_step (by repeat (first | (with_reducible first | exact HB.out | apply below_alloc | apply pw_below_drewN | apply below_drew1) | exact HB.out)) hb); clear HO317; clear HB; have HO317 := n0_; have HB := n1_; clear n0_ n1_; (try clear hb); (try clear hb2); (try clear hk); (try clear hi)) | ((with_reducible refine gate_callee (f := 11) rfl ?_); refine goesL_ (some 26) rfl rfl Tryd.func11 (by kernel_rfl) rfl #[.slice A1 l1.length c1] rfl (by (try simp only [List.map_toArray, List.map_cons, List.map_nil]); first | done | rfl | (simp only [List.length_drop, List.length_take]; rfl)) ?_; (with_reducible refine (keys_Encode.calls k _ _ l1 t320 t321 _ ?side1 ?side2 A6.out).mono ?_); (case side1 => repeat (first | exact (Kd.C_below HR1.out HB.out) | (with_reducible refine Kd.C_alloc ?_ _) | (with_reducible refine Kd.C_drewN ?_ _) | (with_reducible refine Kd.C_drew ?_))); (case side2 => exact HC1.out); rintro e w14 ⟨rfl, hb⟩; refine ⟨_, rfl, ?_⟩; have n0_ := Aside0.mk (Kd.R_below (by (with_reducible repeat (first | apply Kd.R_alloc | apply Kd.R_drewN | apply Kd.R_drew)); exact HO317.out) hb); have n1_ := Aside0.mk (below_step (by repeat (first | (with_reducible first | exact HB.out | apply below_alloc | apply pw_below_drewN | apply below_drew1) | exact HB.out)) hb); clear HO317; clear HB; have HO317 := n0_; have HB := n1_; clear n0_ n1_; (try clear hb); (try clear hb2); (try clear hk); (try clear hi); obtain ⟨Ao15, co15, eo15⟩ := Kd.R_slice HO317.out; subst eo15) | ((with_reducible refine gate_callee (f := 11) rfl ?_); refine goesL_ (some 31) rfl rfl Tryd.func11 (by kernel_rfl) rfl #[.slice Ao15 y315.length co15] rfl (by (try simp only [List.map_toArray, List.map_cons, List.map_nil]); first | done | rfl | (simp only [List.length_drop, List.length_take]; rfl)) ?_; (with_reducible refine (keys_Encode.calls k _ _ y315 t322 t323 _ ?side1 ?side2 A7.out).mono ?_); (case side1 => repeat (first | exact (Kd.R_reads' HO317.out).2.2 | (with_reducible refine Kd.C_alloc ?_ _) | (with_reducible refine Kd.C_drewN ?_ _) | (with_reducible refine Kd.C_drew ?_))); (case side2 => exact (Kd.R_reads' HO317.out).2.1); rintro e w16 ⟨rfl, hb⟩; refine ⟨_, rfl, ?_⟩; have n0_ := Aside0.mk (Kd.R_below (by (with_reducible repeat (first | apply Kd.R_alloc | apply Kd.R_drewN | apply Kd.R_drew)); exact HO317.out) hb); have n1_ := Aside0.mk (below_step (by repeat (first | (with_reducible first | exact HB.out | apply below_alloc | apply pw_below_drewN | apply below_drew1) | exact HB.out)) hb); clear HO317; clear HB; have HO317 := n0_; have HB := n1_; clear n0_ n1_; (try clear hb); (try clear hb2); (try clear hk); (try clear hi)))
      (try simp only [Act.put, List.setIfInBounds_toArray, List.set_cons_zero, List.set_cons_succ])
      go_cut [51] (fun v51 wc => ∃ (kq : Nat) (x51_7 : Bool), v51 = .bool x51_7 ∧ Aside0 (rhizomelaw03_KeysJoin.j0 kq t318 t320 t322 t323 x51_7 = some true) ∧ Aside0 (kq ≤ k) ∧ Aside0 (Below w.heap.size w wc))
      case first =>
        have H := HC8.out
        clear HC8
        replace H := Option.bind_eq_some_iff.mp H
        obtain ⟨t324, A170, H⟩ := H
        replace H : (if t324 = true then (if t319 = 0 then (if t321 = 0 then (rhizomelaw03_KeysJoin.j0 k t318 t320 t322 t323 ((t323 == 0) != (decide ((y315.length : Int) ≤ 16)))) else (rhizomelaw03_KeysJoin.j0 k t318 t320 t322 t323 ((t323 == 0) != false))) else (rhizomelaw03_KeysJoin.j0 k t318 t320 t322 t323 ((t323 == 0) != false))) else (rhizomelaw03_KeysJoin.j0 k t318 t320 t322 t323 true)) = some true := H
        have A17 := Aside0.mk A170
        clear A170
        by_cases c18 : t324 = true
        · subst c18
          have H1 : (if t319 = 0 then (if t321 = 0 then (rhizomelaw03_KeysJoin.j0 k t318 t320 t322 t323 ((t323 == 0) != (decide ((y315.length : Int) ≤ 16)))) else (rhizomelaw03_KeysJoin.j0 k t318 t320 t322 t323 ((t323 == 0) != false))) else (rhizomelaw03_KeysJoin.j0 k t318 t320 t322 t323 ((t323 == 0) != false))) = some true := by rw [if_pos rfl] at H; exact H
          clear H
          have H := H1
          clear H1
          by_cases c19 : t319 = 0
          · rw [if_pos c19] at H
            have c19b0 : (t319 == 0) = true := beq_iff_eq.mpr c19
            have c19b1 : (t319 != 0) = false := bne_eq_false_iff_eq.mpr c19
            clear c19
            (first | rw [c19b0] | (simp only [i64_w, i32_w]; rw [c19b0]) | skip)
            by_cases c20 : t321 = 0
            · rw [if_pos c20] at H
              have c20b0 : (t321 == 0) = true := beq_iff_eq.mpr c20
              have c20b1 : (t321 != 0) = false := bne_eq_false_iff_eq.mpr c20
              clear c20
              have H' := Aside0.mk H
              clear H
              go_wp2_with (first | ((with_reducible refine gate_callee (f := 13) rfl ?_); refine goesL_ (some 34) rfl rfl Tryd.func13 (by kernel_rfl) rfl #[] rfl (by (try simp only [List.map_toArray, List.map_cons, List.map_nil]); first | done | rfl | (simp only [List.length_drop, List.length_take]; rfl)) ?_; (with_reducible refine (rhizomelaw03_fixed.calls k  true _ A17.out).mono ?_); rintro e w21 ⟨rfl, hb⟩; refine ⟨_, rfl, ?_⟩; have n0_ := Aside0.mk (Kd.R_below (by (with_reducible repeat (first | apply Kd.R_alloc | apply Kd.R_drewN | apply Kd.R_drew)); exact HO317.out) hb); have n1_ := Aside0.mk (below_step (by repeat (first | (with_reducible first | exact HB.out | apply below_alloc | apply pw_below_drewN | apply below_drew1) | exact HB.out)) hb); clear HO317; clear HB; have HO317 := n0_; have HB := n1_; clear n0_ n1_; (try clear hb); (try clear hb2); (try clear hk); (try clear hi)))
              go_meet
              case rel => exact ⟨_, (((t323 == 0) != (decide ((y315.length : Int) ≤ 16)))), (by first | rfl | (simp; done) | (simp [*]; done)), H', ⟨by first | omega | exact Nat.le_refl _⟩, ⟨by repeat (first | (with_reducible first | exact HB.out | apply below_alloc | apply pw_below_drewN | apply below_drew1) | exact HB.out)⟩⟩
            · rw [if_neg c20] at H
              have c20b0 : (t321 == 0) = false := beq_eq_false_iff_ne.mpr c20
              have c20b1 : (t321 != 0) = true := bne_iff_ne.mpr c20
              have H' := Aside0.mk H
              clear H
              go_wp2_with (first | ((with_reducible refine gate_callee (f := 13) rfl ?_); refine goesL_ (some 34) rfl rfl Tryd.func13 (by kernel_rfl) rfl #[] rfl (by (try simp only [List.map_toArray, List.map_cons, List.map_nil]); first | done | rfl | (simp only [List.length_drop, List.length_take]; rfl)) ?_; (with_reducible refine (rhizomelaw03_fixed.calls k  true _ A17.out).mono ?_); rintro e w22 ⟨rfl, hb⟩; refine ⟨_, rfl, ?_⟩; have n0_ := Aside0.mk (Kd.R_below (by (with_reducible repeat (first | apply Kd.R_alloc | apply Kd.R_drewN | apply Kd.R_drew)); exact HO317.out) hb); have n1_ := Aside0.mk (below_step (by repeat (first | (with_reducible first | exact HB.out | apply below_alloc | apply pw_below_drewN | apply below_drew1) | exact HB.out)) hb); clear HO317; clear HB; have HO317 := n0_; have HB := n1_; clear n0_ n1_; (try clear hb); (try clear hb2); (try clear hk); (try clear hi)))
              go_meet
              case rel => exact ⟨_, (((t323 == 0) != false)), (by first | rfl | (simp; done) | (simp [*]; done)), H', ⟨by first | omega | exact Nat.le_refl _⟩, ⟨by repeat (first | (with_reducible first | exact HB.out | apply below_alloc | apply pw_below_drewN | apply below_drew1) | exact HB.out)⟩⟩
          · rw [if_neg c19] at H
            have c19b0 : (t319 == 0) = false := beq_eq_false_iff_ne.mpr c19
            have c19b1 : (t319 != 0) = true := bne_iff_ne.mpr c19
            (first | rw [c19b0] | (simp only [i64_w, i32_w]; rw [c19b0]) | skip)
            have H' := Aside0.mk H
            clear H
            go_wp2_with (first | ((with_reducible refine gate_callee (f := 13) rfl ?_); refine goesL_ (some 34) rfl rfl Tryd.func13 (by kernel_rfl) rfl #[] rfl (by (try simp only [List.map_toArray, List.map_cons, List.map_nil]); first | done | rfl | (simp only [List.length_drop, List.length_take]; rfl)) ?_; (with_reducible refine (rhizomelaw03_fixed.calls k  true _ A17.out).mono ?_); rintro e w23 ⟨rfl, hb⟩; refine ⟨_, rfl, ?_⟩; have n0_ := Aside0.mk (Kd.R_below (by (with_reducible repeat (first | apply Kd.R_alloc | apply Kd.R_drewN | apply Kd.R_drew)); exact HO317.out) hb); have n1_ := Aside0.mk (below_step (by repeat (first | (with_reducible first | exact HB.out | apply below_alloc | apply pw_below_drewN | apply below_drew1) | exact HB.out)) hb); clear HO317; clear HB; have HO317 := n0_; have HB := n1_; clear n0_ n1_; (try clear hb); (try clear hb2); (try clear hk); (try clear hi)))
            go_meet
            case rel => exact ⟨_, (((t323 == 0) != false)), (by first | rfl | (simp; done) | (simp [*]; done)), H', ⟨by first | omega | exact Nat.le_refl _⟩, ⟨by repeat (first | (with_reducible first | exact HB.out | apply below_alloc | apply pw_below_drewN | apply below_drew1) | exact HB.out)⟩⟩
        · exact absurd (fixed_true A17.out) c18
      case rest =>
        clear HC8
        try clear c1
        try clear c2
        try clear p2
        try clear c3
        try clear c4
        try clear c8
        try clear c11
        try clear c13
        try clear c18
        try clear c19
        try clear c19b0
        try clear c19b1
        try clear c20
        try clear c20b0
        try clear c20b1
        obtain ⟨kq, x51_7, rfl, HA, HJ7, HB⟩ := hcut
        cases kq with
        | zero => exact absurd HA.out (by simp [rhizomelaw03_KeysJoin.j0])
        | succ kj7 =>
          have H := HA.out
          clear HA
          simp only [rhizomelaw03_KeysJoin.j0] at H
          by_cases c25 : x51_7 = true
          · subst c25
            have H1 : (some false) = some true := by rw [if_pos rfl] at H; exact H
            clear H
            have H := H1
            clear H1
            exact absurd H (by simp)
          · replace c25 := Bool.eq_false_iff.mpr c25
            subst c25
            have H1 : (if t323 = 0 then ((keys_After.f kj7 t318).bind fun bt325 => (if t318.size + t320.size ≤ 9223372036854775807 then (if t322.toList = (t318 ++ t320).toList then (if ((Op.bytesLess t322.toList t318.toList) = true) then (some false) else (if bt325.2 = true then (some (Op.bytesLess t322.toList bt325.1.toList)) else (some true))) else (some false)) else (none))) else (some (t322.toList == ([] : List UInt8)))) = some true := by rw [if_neg (show ¬ (false = true) by decide)] at H; exact H
            clear H
            have H := H1
            clear H1
            by_cases c26 : t323 = 0
            · rw [if_pos c26] at H
              have c26b0 : (t323 == 0) = true := beq_iff_eq.mpr c26
              have c26b1 : (t323 != 0) = false := bne_eq_false_iff_eq.mpr c26
              clear c26
              replace H := Option.bind_eq_some_iff.mp H
              obtain ⟨⟨t325, t326⟩, A270, H⟩ := H
              replace H : (if t318.size + t320.size ≤ 9223372036854775807 then (if t322.toList = (t318 ++ t320).toList then (if ((Op.bytesLess t322.toList t318.toList) = true) then (some false) else (if t326 = true then (some (Op.bytesLess t322.toList t325.toList)) else (some true))) else (some false)) else (none)) = some true := H
              have A27 := Aside0.mk A270
              clear A270
              by_cases c28 : t318.size + t320.size ≤ 9223372036854775807
              · rw [if_pos c28] at H
                have c28b0 := eq_true c28
                have c28b1 : decide (t318.size + t320.size ≤ 9223372036854775807) = true := decide_eq_true c28
                try have c28b2 : (9223372036854775807 < t318.size + t320.size) = False := eq_false (Nat.not_lt.2 c28)
                by_cases c29 : t322.toList = (t318 ++ t320).toList
                · rw [if_pos c29] at H
                  have c29b0 : (t322.toList == (t318 ++ t320).toList) = true := beq_iff_eq.mpr c29
                  have c29b1 : (t322.toList != (t318 ++ t320).toList) = false := bne_eq_false_iff_eq.mpr c29
                  clear c29
                  by_cases c30 : ((Op.bytesLess t322.toList t318.toList) = true)
                  · rw [if_pos c30] at H
                    have c30b0 : (Op.bytesLess t322.toList t318.toList) = true := c30
                    clear c30
                    exact absurd H (by simp)
                  · rw [if_neg c30] at H
                    have c30b0 : (Op.bytesLess t322.toList t318.toList) = false := by simpa using c30
                    clear c30
                    by_cases c31 : t326 = true
                    · subst c31
                      have H1 : (some (Op.bytesLess t322.toList t325.toList)) = some true := by rw [if_pos rfl] at H; exact H
                      clear H
                      have H := H1
                      clear H1
                      first | (obtain rfl := Option.some.inj H) | (have HR_ := Option.some.inj H)
                      go_wp2_with (first | ((with_reducible refine gate_callee (f := 18) rfl ?_); refine goesL_ (some 58) rfl rfl Tryd.func18 (by kernel_rfl) rfl #[.string t318] rfl (by (try simp only [List.map_toArray, List.map_cons, List.map_nil]); first | done | rfl | (simp only [List.length_drop, List.length_take]; rfl)) ?_; (with_reducible refine (keys_After.calls kj7 t318 t325 true _ A27.out).mono ?_); rintro e w32 ⟨rfl, hb⟩; refine ⟨_, rfl, ?_⟩; have n0_ := Aside0.mk (below_step (by repeat (first | (with_reducible first | exact HB.out | apply below_alloc | apply pw_below_drewN | apply below_drew1) | exact HB.out)) hb); clear HB; have HB := n0_; clear n0_; (try clear hb); (try clear hb2); (try clear hk); (try clear hi)))
                      go_ret
                      exact ⟨by first | rfl | (simp [errW_none, errW_some] <;> rfl) | (simp [*, errW_none, errW_some] <;> rfl), by repeat (first | (with_reducible first | exact HB.out | apply below_alloc | apply pw_below_drewN | apply below_drew1) | exact HB.out)⟩
                    · replace c31 := Bool.eq_false_iff.mpr c31
                      subst c31
                      have H1 : (some true) = some true := rfl
                      clear H
                      have H := H1
                      clear H1
                      first | (obtain rfl := Option.some.inj H) | (have HR_ := Option.some.inj H)
                      go_wp2_with (first | ((with_reducible refine gate_callee (f := 18) rfl ?_); refine goesL_ (some 58) rfl rfl Tryd.func18 (by kernel_rfl) rfl #[.string t318] rfl (by (try simp only [List.map_toArray, List.map_cons, List.map_nil]); first | done | rfl | (simp only [List.length_drop, List.length_take]; rfl)) ?_; (with_reducible refine (keys_After.calls kj7 t318 t325 false _ A27.out).mono ?_); rintro e w33 ⟨rfl, hb⟩; refine ⟨_, rfl, ?_⟩; have n0_ := Aside0.mk (below_step (by repeat (first | (with_reducible first | exact HB.out | apply below_alloc | apply pw_below_drewN | apply below_drew1) | exact HB.out)) hb); clear HB; have HB := n0_; clear n0_; (try clear hb); (try clear hb2); (try clear hk); (try clear hi)))
                      go_ret
                      exact ⟨by first | rfl | (simp [errW_none, errW_some] <;> rfl) | (simp [*, errW_none, errW_some] <;> rfl), by repeat (first | (with_reducible first | exact HB.out | apply below_alloc | apply pw_below_drewN | apply below_drew1) | exact HB.out)⟩
                · rw [if_neg c29] at H
                  have c29b0 : (t322.toList == (t318 ++ t320).toList) = false := beq_eq_false_iff_ne.mpr c29
                  have c29b1 : (t322.toList != (t318 ++ t320).toList) = true := bne_iff_ne.mpr c29
                  exact absurd H (by simp)
              · rw [if_neg c28] at H
                exact absurd H (by simp)
            · rw [if_neg c26] at H
              have c26b0 : (t323 == 0) = false := beq_eq_false_iff_ne.mpr c26
              have c26b1 : (t323 != 0) = true := bne_iff_ne.mpr c26
              first | (obtain rfl := Option.some.inj H) | (have HR_ := Option.some.inj H)
              go_wp2
              go_ret
              exact ⟨by first | rfl | (simp [errW_none, errW_some] <;> rfl) | (simp [*, errW_none, errW_some] <;> rfl), by repeat (first | (with_reducible first | exact HB.out | apply below_alloc | apply pw_below_drewN | apply below_drew1) | exact HB.out)⟩
    · rw [if_neg c4] at H
      exact absurd H (by simp)
  · rw [if_neg c3] at H
    exact absurd H (by simp)

end Go.Proofs.YtpimfioeeipnhaaDoor.K
