/-
  DiskArms: the power that is armed for a step goes there. What is kept is of at most 2^44 numbers.
-/
import Derived.Test.YtcklnhjjjapfjaaDX
import Derived.Test.YtcklnhjjjapfjaaPL
import Derived.Test.YtcklnhjjjapfjaaArg
import Derived.Deep.RegionHeld3
namespace Go.Proofs.Ytcklnhjjjapfjaa.D
open Go.RowKit Go.Maps Go.Shelf
set_option linter.unusedVariables false
set_option linter.unusedSimpArgs false

theorem news_un (l : List UInt8) : (news l).un = fun _ => none := rfl
theorem zero_piece (n k : Nat) (hk : 64 * k + 64 ≤ n) : piece (zero n) k = zero 64 := by
  simp only [piece, zero, List.drop_replicate, List.take_replicate]
  congr 1
  omega

/-- A disk of N sectors of nought, its power armed for step T. -/
def armd (N T : Nat) (ks : List Int) : St := { news (zero (64 * N)) with armed := T, kept := ks }
theorem armd_n (N T : Nat) (ks : List Int) : (armd N T ks).n = N := by simp [St.n, armd, news, zero]
theorem armd_arm (N T : Nat) (ks : List Int) (hT : 1 ≤ T) : (news (zero (64 * N))).arm T ks = (armd N T ks, 0) := by
  rw [St.arm, if_neg (by simp [news]), if_neg (by omega)]
  rfl

theorem armd_write (N T A C : Nat) (ks : List Int) (s : List UInt8) (hN : N ≤ 64) (hA : A + C ≤ N) (hT : 1 ≤ T) (hs : s.length = 64 * C) :
    (armd N T ks).write A s = if C < T then ({ armd N T ks with un := wun C A s (fun _ => none), armed := T - C }, 0) else (({ armd N T ks with un := wun T A s (fun _ => none), armed := 0 } : St).dies ks, 2) := by
  have hc : s.length / 64 = C := by omega
  rw [St.write, if_neg (by simp [armd, news]), if_neg (by omega), if_neg (by rw [armd_n, hc]; omega), hc, wrs_armed _ _ _ _ (by show 0 < T; omega)]
  have e : ((A : Int)).toNat = A := by omega
  rw [e]
  by_cases h : C < T
  · rw [if_pos h, if_pos (show C < (armd N T ks).armed from h)]
    rfl
  · rw [if_neg h, if_neg (show ¬ C < (armd N T ks).armed from h)]
    rfl

/-- Behind the power's going: sector by sector. -/
theorem armd_left (N T A C : Nat) (ks : List Int) (s : List UInt8) (hN : 1 ≤ N ∧ N ≤ 64) (hA : A + C ≤ N) (hT : T ≤ C) (hs : s.length = 64 * C) (i : Nat) (hi : i < N) :
    (({ armd N T ks with un := wun T A s (fun _ => none), armed := 0 } : St).dies ks).image.length = 64 * N ∧
    piece (({ armd N T ks with un := wun T A s (fun _ => none), armed := 0 } : St).dies ks).image i = if A ≤ i ∧ i < A + T ∧ comes ks (i - A) = true then piece s (i - A) else zero 64 := by
  obtain ⟨S, hS⟩ : ∃ S : St, S = { armd N T ks with un := wun T A s (fun _ => none), armed := 0 } := ⟨_, rfl⟩
  have hun : S.un = wun T A s (fun _ => none) := by rw [hS]
  have hsafe : S.safe = zero (64 * N) := by rw [hS]; rfl
  have hn : S.n = N := by simp [St.n, hsafe, zero]
  have hok : S.Ok := by
    refine ⟨by rw [hn, hsafe]; simp [zero], by omega, by omega, fun j l h => ?_, by rw [hS]; show 0 ≤ _; omega⟩
    rw [hun] at h
    simp only [wun] at h
    split at h
    · rename_i h1
      cases h
      rw [hn]
      refine ⟨by omega, ?_⟩
      simp only [piece, List.length_take, List.length_drop]
      omega
    · cases h
  rw [← hS]
  have e1 : (S.dies ks).image = S.after ks := image_none rfl
  rw [e1]
  refine ⟨by rw [St.after, left_length hok, hsafe]; simp [zero], ?_⟩
  rw [St.after, left_piece hok, hun, hsafe, zero_piece _ _ (by omega)]
  by_cases h : A ≤ i ∧ i < A + T
  · have hw : wun T A s (fun _ => none) i = some (piece s (i - A)) := by simp only [wun]; rw [if_pos h]
    rw [hw, cnt_wun T A s i h.1 (by omega)]
    simp [h.1, h.2]
  · have hw : wun T A s (fun _ => none) i = none := by simp only [wun]; rw [if_neg h]
    rw [hw]
    rw [if_neg (by simp), if_neg (fun h2 => h ⟨h2.1, h2.2.1⟩)]

set_option maxHeartbeats 8000000 in
set_option maxRecDepth 100000 in
theorem arms_law (o0 oa oc ot : Int) (av : Option Addr) (cap : Nat) (ks : List Int) (w : World) (hk : IntsV w (.slice av ks.length cap) ks) (hkl : ks.length * 8 ≤ 140737488355328) (ha : -9223372036854775808 ≤ oa) (ha2 : oa ≤ 9223372036854775807) (hc2 : oc ≤ 9223372036854775807) (ht1 : -9223372036854775808 ≤ ot) (ht2 : ot ≤ 9223372036854775807) :
    Calls Try.prog 5 #[.agg #[.int .i64 o0, .int .i64 oa, .int .i64 oc, .int .i64 ot, .slice av ks.length cap]] w fun e w' => e = .returned (.bool true) ∧ Fr (fun _ => False) w w' := by
  obtain ⟨N, hN⟩ : ∃ N : Nat, N = (max 1 (min o0 64)).toNat := ⟨_, rfl⟩
  have hN1 : 1 ≤ N ∧ N ≤ 64 := by omega
  have hmin : ∀ w, (Builtin.min_ #[3, 3] 3 #[.int .i64 o0, .int .i64 64]).run Try.prog w = .ok (.int .i64 (min o0 64)) w := by
    intro w
    rw [run_min_int2]
    congr 2
    split <;> omega
  have hmax : ∀ w, (Builtin.max_ #[3, 3] 3 #[.int .i64 1, .int .i64 (min o0 64)]).run Try.prog w = .ok (.int .i64 (N : Int)) w := by
    intro w
    rw [run_max_int2]
    congr 2
    rw [hN]
    split <;> omega
  obtain ⟨M, hM⟩ : ∃ M, M = min o0 64 := ⟨_, rfl⟩
  rw [← hM] at hmin hmax
  clear hN hM
  have hf0 := hid (show Fr (fun _ => False) w (w.alloc (.cells #[.int .i64 o0, .int .i64 oa, .int .i64 oc, .int .i64 ot, .slice av ks.length cap] 43)) from (Fr.refl _ w).alloc _)
  have hb1 : (w.alloc (.cells #[.int .i64 o0, .int .i64 oa, .int .i64 oc, .int .i64 ot, .slice av ks.length cap] 43)).heap[w.heap.size]? = some (.cells #[.int .i64 o0, .int .i64 oa, .int .i64 oc, .int .i64 ot, .slice av ks.length cap] 43) := (MapKept.heap_alloc w _).1
  obtain ⟨W0, eW0⟩ : ∃ W0, W0 = w.alloc (.cells #[.int .i64 o0, .int .i64 oa, .int .i64 oc, .int .i64 ot, .slice av ks.length cap] 43) := ⟨_, rfl⟩
  rw [← eW0] at hf0 hb1
  have k0 : W0.cell? ⟨w.heap.size, 0, none⟩ = some (.int .i64 o0) := cell_at hb1 0
  have k1 : W0.cell? ⟨w.heap.size, 1, none⟩ = some (.int .i64 oa) := cell_at hb1 1
  have k2 : W0.cell? ⟨w.heap.size, 2, none⟩ = some (.int .i64 oc) := cell_at hb1 2
  have k3 : W0.cell? ⟨w.heap.size, 3, none⟩ = some (.int .i64 ot) := cell_at hb1 3
  have k4 : W0.cell? ⟨w.heap.size, 4, none⟩ = some (.slice av ks.length cap) := cell_at hb1 4
  have hKV := hid (hk.stay hf0.out)
  have hKVW := hid hk
  clear hb1 hk
  go_enter Try.func5, Try.ntmps5
  go_wp2_with fail
  rw [← eW0]
  clear eW0
  go_region
  obtain ⟨W1, eW1⟩ : ∃ W1, W1 = W0.drew := ⟨_, rfl⟩
  rw [← eW1]
  have k5 : W1.cell? ⟨w.heap.size, 0, none⟩ = some (.int .i64 o0) := by rw [eW1]; exact k0
  have hF1 := hid (show Fr (fun _ => False) w W1 by rw [eW1]; exact hf0.out.drew)
  have hKV1 := hid (show IntsV W1 (.slice av ks.length cap) ks by rw [eW1]; exact hKV.out.stay (Fr.refl _ _).drew)
  clear eW1 k0 k1 k2 k3 k4 hf0 hKV
  obtain ⟨Z, hZ⟩ : ∃ Z, Z = zero (64 * N) := ⟨_, rfl⟩
  have HI := hid (show IsImage Z by rw [hZ]; simp only [IsImage, zero, List.length_replicate]; omega)
  have HZ := hid hZ
  have hmk : (Instr.makeSlice 26 (.int .i64 (64 * (N : Int))) (.int .i64 (64 * (N : Int)))).run Try.prog W1 = .ok (.slice (some ⟨W1.heap.size, 0, none⟩) (64 * N) (64 * N)) (W1.alloc (.cells (bytesOf Z).toArray 5)) := by
    have := mkz (64 * N) (by omega) W1
    rw [hZ]
    exact_mod_cast this
  have hms : (convert 26 9 (.slice (some ⟨W1.heap.size, 0, none⟩) (64 * N) (64 * N))).run Try.prog (W1.alloc (.cells (bytesOf Z).toArray 5)) = .ok (.string (bs Z)) (W1.alloc (.cells (bytesOf Z).toArray 5)) := by
    rw [hZ]
    exact mks (64 * N) W1
  have hwr : IntKind.i64.wrap (64 * (N : Int)) = 64 * (N : Int) := by rw [IntKind.wrap_i64]; omega
  have HNC := hid (new_c (W1.alloc (.cells (bytesOf Z).toArray 5)) Z HI.out)
  clear hZ
  go_wp2_with fail
  refine HNC.out.mono ?_
  rintro e w2 ⟨g, bm, rfl, hA2, hg1, hbm1, hf2⟩
  have hf2' := ((Fr.refl (fun _ => False) W1).alloc (.cells (bytesOf Z).toArray 5)).trans hf2 (fun _ _ f => f)
  have HA2 := hid hA2
  have HF2 := hid (hF1.out.trans hf2' (fun _ _ f => f))
  have HK2 := hid (hKV1.out.stay hf2')
  have hlo : w.heap.size ≤ g ∧ w.heap.size ≤ bm := by
    have : W1.heap.size ≤ (W1.alloc (.cells (bytesOf Z).toArray 5)).heap.size := by simp
    have := hF1.out.size
    omega
  clear hA2 hg1 hbm1 hf2 hf2' hmk hms HNC hKV1 hF1 k5 hmin hmax
  obtain ⟨A, hA⟩ : ∃ A, A = oa := ⟨_, rfl⟩
  obtain ⟨C, hC⟩ : ∃ C, C = oc := ⟨_, rfl⟩
  obtain ⟨T, hT⟩ : ∃ T, T = ot := ⟨_, rfl⟩
  rw [← hA] at ha ha2
  rw [← hC] at hc2
  rw [← hT] at ht1 ht2
  rw [← hA, ← hC, ← hT]
  clear hA hC hT
  by_cases a0 : A < 0
  · skip
    go_wp2_with fail
    refine (fixed_c w2).mono ?_
    rintro e wz ⟨rfl, hfz⟩
    have hFz := hid (HF2.out.trans hfz (fun _ _ f => f))
    clear hfz
    go_wp2_with fail
    go_ret
    exact ⟨rfl, hFz.out⟩
  by_cases c1 : C < 1
  · skip
    go_wp2_with fail
    refine (fixed_c w2).mono ?_
    rintro e wz ⟨rfl, hfz⟩
    have hFz := hid (HF2.out.trans hfz (fun _ _ f => f))
    clear hfz
    go_wp2_with fail
    go_ret
    exact ⟨rfl, hFz.out⟩
  by_cases a2 : (N : Int) ≤ A
  · skip
    go_wp2_with fail
    refine (fixed_c w2).mono ?_
    rintro e wz ⟨rfl, hfz⟩
    have hFz := hid (HF2.out.trans hfz (fun _ _ f => f))
    clear hfz
    go_wp2_with fail
    go_ret
    exact ⟨rfl, hFz.out⟩
  by_cases c3 : (N : Int) - A < C
  · skip
    go_wp2_with fail
    refine (fixed_c w2).mono ?_
    rintro e wz ⟨rfl, hfz⟩
    have hFz := hid (HF2.out.trans hfz (fun _ _ f => f))
    clear hfz
    go_wp2_with fail
    go_ret
    exact ⟨rfl, hFz.out⟩
  by_cases t0 : T < 1
  · skip
    go_wp2_with fail
    refine (fixed_c w2).mono ?_
    rintro e wz ⟨rfl, hfz⟩
    have hFz := hid (HF2.out.trans hfz (fun _ _ f => f))
    clear hfz
    go_wp2_with fail
    go_ret
    exact ⟨rfl, hFz.out⟩
  obtain ⟨a, rfl⟩ : ∃ a : Nat, A = a := ⟨A.toNat, by omega⟩
  obtain ⟨c, rfl⟩ : ∃ c : Nat, C = c := ⟨C.toNat, by omega⟩
  obtain ⟨u, rfl⟩ : ∃ u : Nat, T = u := ⟨T.toNat, by omega⟩
  have d1 : decide ((a : Int) < 0) = false := decide_eq_false (by omega)
  have d2 : decide ((c : Int) < 1) = false := decide_eq_false (by omega)
  have d3 : decide ((N : Int) ≤ (a : Int)) = false := decide_eq_false (by omega)
  have d4 : decide ((N : Int) - a < c) = false := decide_eq_false (by omega)
  have d5 : decide ((u : Int) < 1) = false := decide_eq_false (by omega)
  have d6 : decide (N ≤ a) = false := decide_eq_false (by omega)
  have HAR := hid (show Calls Try.prog 18 #[.pointer (some ⟨g, 0, none⟩), .int .i64 u, (.slice av ks.length cap)] w2 fun e w' => e = .returned (.int .i64 0) ∧ At w' g bm (armd N u ks) ∧ Fr (fun i => i = g ∨ i = bm) w2 w' by
    have := arm_c w2 g bm (news Z) HA2.out (news_ok HI.out) u (by omega) (by omega) (.slice av ks.length cap) ks HK2.out hkl
    rw [HZ.out, armd_arm N u ks (by omega)] at this
    exact this)
  go_wp2_with fail
  refine HAR.out.mono ?_
  rintro e w3 ⟨rfl, hA3, hf3⟩
  have HA3 := hid hA3
  have HF3 := hid (HF2.out.trans hf3 (fun i hi e => by rcases e with e | e <;> omega))
  have HKW := hKVW
  have hwc : IntKind.i64.wrap (64 * (c : Int)) = 64 * (c : Int) := by rw [IntKind.wrap_i64]; omega
  obtain ⟨s, hs⟩ : ∃ s, s = fillL (64 * (c : Int)) 97 := ⟨_, rfl⟩
  have HSL := hid (show s.length = 64 * c by rw [hs, fillL_length, fillN]; omega)
  have HFI := hid (show Calls Try.prog 14 #[.int .i64 (64 * (c : Int)), .int .u8 97] w3 fun e w' => e = .returned (.string (bs s)) ∧ Fr (fun _ => False) w3 w' by rw [hs]; exact fill_c (64 * (c : Int)) 97 w3)
  clear hA3 hf3 hs HAR HA2 HF2
  go_wp2_with fail
  refine HFI.out.mono ?_
  rintro e w4 ⟨rfl, hf4⟩
  have HA4 := hid (HA3.out.stay hf4)
  have HF4 := hid (HF3.out.trans hf4 (fun _ _ f => f))
  have hac : a + c ≤ N := by omega
  have HOK := hid (show (armd N u ks).Ok from ⟨by simp [armd, news, zero, St.n], by rw [armd_n]; omega, by rw [armd_n]; omega, (fun i l h => by cases h), by show u ≤ _; omega⟩)
  have HWR := hid (write_c w4 g bm (armd N u ks) HA4.out HOK.out a (by omega) (by omega) s (by have := HSL.out; omega))
  have HWE := hid (armd_write N u a c ks s (by omega) hac (by omega) HSL.out)
  have HWO := hid (write_ok HOK.out a s)
  clear hf4 HA3 HF3 HFI
  by_cases hbig : c < u
  · have h1 := HWE.out
    rw [if_pos hbig] at h1
    have h2 := HWR.out
    unfold WriteC at h2
    have h3 := HWO.out.1
    rw [h1] at h2 h3
    have HW := hid h2
    have HO2 := hid h3
    obtain ⟨S2, hS2⟩ : ∃ S2 : St, S2 = { armd N u ks with un := wun c a s (fun _ => none), armed := u - c } := ⟨_, rfl⟩
    rw [← hS2] at HW HO2
    have HD2 := hid (show S2.dead = false by rw [hS2]; rfl)
    have HAM := hid (show S2.armed = u - c by rw [hS2])
    clear h1 h2 h3 hS2 HWE HWR HWO
    go_wp2_with fail
    refine HW.out.mono ?_
    rintro e w5 ⟨rfl, ⟨bm5, hA5, hb5⟩, hf5⟩
    have HA5 := hid hA5
    have HF5 := hid (HF4.out.trans hf5 (fun i hi e => by rcases e with e | e <;> omega))
    have hlo5 : w.heap.size ≤ bm5 := by
      have := HF4.out.size
      rcases hb5 with h | h <;> omega
    have HDE := hid (show Calls Try.prog 13 #[.pointer (some ⟨g, 0, none⟩)] w5 fun e w' => e = .returned (.bool false) ∧ w' = w5 from HD2.out ▸ dead_c w5 g bm5 S2 HA5.out)
    clear hA5 hb5 hf5
    go_wp2_with fail
    refine HDE.out.mono ?_
    rintro e w6 ⟨rfl, rfl⟩
    have HSY := hid (sync_c w6 g bm5 S2 HA5.out HO2.out)
    go_wp2_with fail
    refine HSY.out.mono ?_
    rintro e w7 ⟨rfl, ⟨bm7, hA7, hb7⟩, hf7⟩
    have HA7 := hid hA7
    have HF7 := hid (HF5.out.trans hf7 (fun i hi e => by rcases e with e | e <;> omega))
    clear hA7 hb7 hf7
    by_cases hone : u = c + 1
    · have e1 : S2.sync.2 = 2 ∧ S2.sync.1.dead = true := by
        have hst : S2.step.2 = true := by simp [St.step, HAM.out, hone]
        simp [St.sync, HD2.out, hst, St.dies]
      have HDD := hid (show Calls Try.prog 13 #[.pointer (some ⟨g, 0, none⟩)] w7 fun e w' => e = .returned (.bool true) ∧ w' = w7 from e1.2 ▸ dead_c w7 g bm7 S2.sync.1 HA7.out)
      have e2 := e1.1
      clear e1
      rw [e2]
      have eq1 : ((u : Int) == (c : Int) + 1) = true := by simp; omega
      clear e2
      go_wp2_with fail
      refine HDD.out.mono ?_
      rintro e w8 ⟨rfl, rfl⟩
      go_wp2_with fail
      refine (fixed_c w8).mono ?_
      rintro e wz ⟨rfl, hfz⟩
      have hFz := hid (HF7.out.trans hfz (fun _ _ f => f))
      clear hfz
      go_wp2_with fail
      go_ret
      exact ⟨rfl, hFz.out⟩
    · have e1 : S2.sync.2 = 0 ∧ S2.sync.1.dead = false := by
        have hst : S2.step.2 = false := by
          have : S2.armed ≠ 0 := by rw [HAM.out]; omega
          have h2 : S2.armed ≠ 1 := by rw [HAM.out]; omega
          simp [St.step, this, h2]
        have hdd : S2.step.1.dead = false := by
          unfold St.step
          split <;> exact HD2.out
        simp [St.sync, HD2.out, hst, St.becomes, hdd]
      have HDD := hid (show Calls Try.prog 13 #[.pointer (some ⟨g, 0, none⟩)] w7 fun e w' => e = .returned (.bool false) ∧ w' = w7 from e1.2 ▸ dead_c w7 g bm7 S2.sync.1 HA7.out)
      have e2 := e1.1
      clear e1
      rw [e2]
      have eq1 : ((u : Int) == (c : Int) + 1) = false := by simp; omega
      clear e2
      go_wp2_with fail
      refine HDD.out.mono ?_
      rintro e w8 ⟨rfl, rfl⟩
      go_wp2_with fail
      refine (fixed_c w8).mono ?_
      rintro e wz ⟨rfl, hfz⟩
      have hFz := hid (HF7.out.trans hfz (fun _ _ f => f))
      clear hfz
      go_wp2_with fail
      go_ret
      exact ⟨rfl, hFz.out⟩
  · have h1 := HWE.out
    rw [if_neg hbig] at h1
    have h2 := HWR.out
    unfold WriteC at h2
    have h3 := HWO.out.1
    rw [h1] at h2 h3
    have HW := hid h2
    have HO2 := hid h3
    have HLP := hid (fun i (hi : i < N) => armd_left N u a c ks s hN1 hac (by omega) HSL.out i hi)
    obtain ⟨S2, hS2⟩ : ∃ S2 : St, S2 = ({ armd N u ks with un := wun u a s (fun _ => none), armed := 0 } : St).dies ks := ⟨_, rfl⟩
    rw [← hS2] at HW HO2 HLP
    have HD2 := hid (show S2.dead = true by rw [hS2]; rfl)
    have HUN := hid (show S2.un = fun _ => none by rw [hS2]; rfl)
    clear h1 h2 h3 hS2 HWE HWR HWO
    go_wp2_with fail
    refine HW.out.mono ?_
    rintro e w5 ⟨rfl, ⟨bm5, hA5, hb5⟩, hf5⟩
    obtain ⟨I, hI⟩ : ∃ I, I = S2.image := ⟨_, rfl⟩
    have HIM := hid (show Calls Try.prog 16 #[.pointer (some ⟨g, 0, none⟩)] w5 fun e w' => e = .returned (.string (bs I)) ∧ Fr (fun _ => False) w5 w' by rw [hI]; exact image_c w5 g bm5 S2 hA5 HO2.out)
    have HIL := hid (show I.length = 64 * N by rw [hI]; exact (HLP.out 0 (by omega)).1)
    have HIP := hid (show ∀ i, i < N → piece I i = if a ≤ i ∧ i < a + u ∧ comes ks (i - a) = true then piece s (i - a) else zero 64 by rw [hI]; exact fun i hi => (HLP.out i hi).2)
    have hIL : I.length = 64 * N := HIL.out
    have HA5 := hid hA5
    have HF5 := hid (HF4.out.trans hf5 (fun i hi e => by rcases e with e | e <;> omega))
    clear hA5 hb5 hf5 hI HLP HA4 HF4 HOK HW
    go_wp2_with fail
    refine HIM.out.mono ?_
    rintro e w6 ⟨rfl, hf6⟩
    have HA6 := hid (HA5.out.stay hf6)
    have HF6 := hid (HF5.out.trans hf6 (fun _ _ f => f))
    have HDE := hid (show Calls Try.prog 13 #[.pointer (some ⟨g, 0, none⟩)] w6 fun e w' => e = .returned (.bool true) ∧ w' = w6 from HD2.out ▸ dead_c w6 g bm5 S2 HA6.out)
    have HUU := hid (unsafe_c w6 g bm5 S2 HA6.out HO2.out)
    have heq2 : (((64 * N : Nat) : Int) != 64 * (N : Int)) = false := by simp
    clear hf6
    go_wp2_with fail
    refine HDE.out.mono ?_
    rintro e w7 ⟨rfl, rfl⟩
    go_wp2_with fail
    refine HUU.out.mono ?_
    rintro e w8 ⟨v, rfl, ⟨va, vc, rfl, _⟩, _, hf8⟩
    have eU : (List.map (fun (i : Nat) => (i : Int)) S2.unl).length = 0 := by rw [unl_none HUN.out]; rfl
    rw [eU]
    have HF8 := hid (HF6.out.trans hf8 (fun _ _ f => f))
    have HK8 := hid (HKW.out.stay HF8.out)
    have HMK := hid (show ∀ wr : World, (Instr.makeSlice 26 (.int .i64 64) (.int .i64 64)).run Try.prog wr = .ok (.slice (some ⟨wr.heap.size, 0, none⟩) 64 64) (wr.alloc (.cells (bytesOf (zero 64)).toArray 5)) from fun wr => mkz 64 (by omega) wr)
    have HMS := hid (show ∀ wr : World, (convert 26 9 (.slice (some ⟨wr.heap.size, 0, none⟩) 64 64)).run Try.prog (wr.alloc (.cells (bytesOf (zero 64)).toArray 5)) = .ok (.string (bs (zero 64))) (wr.alloc (.cells (bytesOf (zero 64)).toArray 5)) from fun wr => mks 64 wr)
    clear hf8 eU HIM HA5 HF5 HA6 HF6 HDE HUU
    go_wp2_with fail
    go_loopw [12, 2] (fun v v2 wr => ∃ i : Nat, v = .int .i64 i ∧ v2 = .bool false ∧ i ≤ N ∧ Hid (Fr (fun _ => False) w wr) ∧ Hid (IntsV wr (.slice av ks.length cap) ks)) (fun v _ _ => N - (intOf v).toNat)
    case atStart => exact ⟨0, rfl, rfl, by omega, HF8, HK8⟩
    case round =>
      obtain ⟨i, rfl, rfl, hi, HFr, HKr⟩ := hrel
      by_cases hend : i = N
      · subst hend
        go_wp2_with fail
        refine (fixed_c wr).mono ?_
        rintro e wz ⟨rfl, hfz⟩
        have hFz := hid (HFr.out.trans hfz (fun _ _ f => f))
        clear hfz
        go_wp2_with fail
        go_ret
        exact ⟨rfl, hFz.out⟩
      have hi' : i < N := by omega
      have hip := HIP.out i hi'
      obtain ⟨P, hP⟩ : ∃ P, P = piece I i := ⟨_, rfl⟩
      rw [← hP] at hip
      have y1 : IntKind.i64.wrap (64 * (i : Int)) = 64 * (i : Int) := by rw [IntKind.wrap_i64]; omega
      clear hend
      by_cases hlt : i < a
      · rw [if_neg (by omega)] at hip
        rw [hip] at hP
        have hneg : (i : Int) - a < 0 := by omega
        subst hip
        have hmk := HMK.out wr
        have hms := HMS.out wr
        have hsl := slice_str (P := Try.prog) 9 Try.underlying9 (wr.alloc (.cells (bytesOf (zero 64)).toArray 5)) I (64 * (i : Int)) (64 * (i : Int) + 64) (by omega) (by omega) (by have := HIL.out; omega)
        have x1 : (64 * (i : Int)).toNat = 64 * i := by omega
        have x2 : (64 * (i : Int) + 64).toNat - 64 * i = 64 := by omega
        rw [x1, x2, show (I.drop (64 * i)).take 64 = zero 64 from hP.symm] at hsl
        have HFr2 := hid (HFr.out.alloc (.cells (bytesOf (zero 64)).toArray 5))
        have HKr2 := hid (HKr.out.stay ((Fr.refl (fun _ => False) wr).alloc (.cells (bytesOf (zero 64)).toArray 5)))
        clear x1 x2 hP
        go_wp2_with fail
        go_roundw
        case rel => exact ⟨i + 1, rfl, rfl, by omega, HFr2, HKr2⟩
        case measure => simp [intOf]; omega
      obtain ⟨j, hj⟩ : ∃ j, i = a + j := ⟨i - a, by omega⟩
      have e1 : (i : Int) - a = j := by omega
      have e2 : i - a = j := by omega
      rw [e2] at hip
      have HJ := hid hj
      clear hj e2
      by_cases hu : u ≤ j
      · rw [if_neg (by have := HJ.out; omega)] at hip
        rw [hip] at hP
        subst hip
        have hmk := HMK.out wr
        have hms := HMS.out wr
        have hsl := slice_str (P := Try.prog) 9 Try.underlying9 (wr.alloc (.cells (bytesOf (zero 64)).toArray 5)) I (64 * (i : Int)) (64 * (i : Int) + 64) (by omega) (by omega) (by have := HIL.out; omega)
        have x1 : (64 * (i : Int)).toNat = 64 * i := by omega
        have x2 : (64 * (i : Int) + 64).toNat - 64 * i = 64 := by omega
        rw [x1, x2, show (I.drop (64 * i)).take 64 = zero 64 from hP.symm] at hsl
        have HFr2 := hid (HFr.out.alloc (.cells (bytesOf (zero 64)).toArray 5))
        have HKr2 := hid (HKr.out.stay ((Fr.refl (fun _ => False) wr).alloc (.cells (bytesOf (zero 64)).toArray 5)))
        clear x1 x2 hP
        go_wp2_with fail
        go_roundw
        case rel => exact ⟨i + 1, rfl, rfl, by omega, HFr2, HKr2⟩
        case measure => simp [intOf]; omega
      by_cases hl : ks.length ≤ j
      · rw [if_neg (by simp [comes]; omega)] at hip
        rw [hip] at hP
        subst hip
        have hmk := HMK.out wr
        have hms := HMS.out wr
        have hsl := slice_str (P := Try.prog) 9 Try.underlying9 (wr.alloc (.cells (bytesOf (zero 64)).toArray 5)) I (64 * (i : Int)) (64 * (i : Int) + 64) (by omega) (by omega) (by have := HIL.out; omega)
        have x1 : (64 * (i : Int)).toNat = 64 * i := by omega
        have x2 : (64 * (i : Int) + 64).toNat - 64 * i = 64 := by omega
        rw [x1, x2, show (I.drop (64 * i)).take 64 = zero 64 from hP.symm] at hsl
        have HFr2 := hid (HFr.out.alloc (.cells (bytesOf (zero 64)).toArray 5))
        have HKr2 := hid (HKr.out.stay ((Fr.refl (fun _ => False) wr).alloc (.cells (bytesOf (zero 64)).toArray 5)))
        clear x1 x2 hP
        go_wp2_with fail
        go_roundw
        case rel => exact ⟨i + 1, rfl, rfl, by omega, HFr2, HKr2⟩
        case measure => simp [intOf]; omega
      obtain ⟨b0, o0', hav, hcl⟩ : ∃ b0 o0', av = some ⟨b0, o0', none⟩ ∧ ∀ j, j < ks.length → wr.cell? ⟨b0, o0' + j, none⟩ = some (.int .i64 (ks.getD j 0)) := by
        obtain ⟨a', c', h1, h2, h3⟩ := HKr.out
        cases h1
        rcases h3 with h3 | h3
        · subst h3; simp at hl
        · exact h3
      subst hav
      obtain ⟨q, hq⟩ : ∃ q, q = ks.getD j 0 := ⟨_, rfl⟩
      have hce : wr.cell? ⟨b0, o0' + j, none⟩ = some (.int .i64 q) := by rw [hq]; exact hcl j (by omega)
      have hbl := World.block_lt_of_cell? wr _ hce
      have hce2 : (wr.alloc (.cells (bytesOf (zero 64)).toArray 5)).cell? ⟨b0, o0' + j, none⟩ = some (.int .i64 q) := by rw [World.cell?_alloc_past _ _ _ hbl]; exact hce
      have hcm : comes ks j = decide (0 < q) := by rw [hq]; simp only [comes, show j < ks.length by omega, decide_true, Bool.true_and]
      rw [hcm] at hip
      clear hcl hcm hq hbl
      by_cases hq0 : 0 < q
      · rw [if_pos ⟨by have := HJ.out; omega, by have := HJ.out; omega, by simpa using hq0⟩] at hip
        rw [hip] at hP
        subst hip
        have hsl2 := slice_str (P := Try.prog) 9 Try.underlying9 (wr.alloc (.cells (bytesOf (zero 64)).toArray 5)) s (64 * (j : Int)) (64 * (j : Int) + 64) (by omega) (by omega) (by have := HSL.out; omega)
        have z1 : (64 * (j : Int)).toNat = 64 * j := by omega
        have z2 : (64 * (j : Int) + 64).toNat - 64 * j = 64 := by omega
        rw [z1, z2, show (s.drop (64 * j)).take 64 = piece s j from rfl] at hsl2
        obtain ⟨PP, hPP⟩ : ∃ PP, PP = piece s j := ⟨_, rfl⟩
        rw [← hPP] at hsl2 hP
        have z3 : IntKind.i64.wrap (64 * (j : Int)) = 64 * (j : Int) := by rw [IntKind.wrap_i64]; omega
        clear z1 z2 hPP
        have hmk := HMK.out wr
        have hms := HMS.out wr
        have hsl := slice_str (P := Try.prog) 9 Try.underlying9 (wr.alloc (.cells (bytesOf (zero 64)).toArray 5)) I (64 * (i : Int)) (64 * (i : Int) + 64) (by omega) (by omega) (by have := HIL.out; omega)
        have x1 : (64 * (i : Int)).toNat = 64 * i := by omega
        have x2 : (64 * (i : Int) + 64).toNat - 64 * i = 64 := by omega
        rw [x1, x2, show (I.drop (64 * i)).take 64 = PP from hP.symm] at hsl
        have HFr2 := hid (HFr.out.alloc (.cells (bytesOf (zero 64)).toArray 5))
        have HKr2 := hid (HKr.out.stay ((Fr.refl (fun _ => False) wr).alloc (.cells (bytesOf (zero 64)).toArray 5)))
        clear x1 x2 hP
        go_wp2_with fail
        go_roundw
        case rel => exact ⟨i + 1, rfl, rfl, by omega, HFr2, HKr2⟩
        case measure => simp [intOf]; omega
      · rw [if_neg (by simp; omega)] at hip
        rw [hip] at hP
        subst hip
        have hmk := HMK.out wr
        have hms := HMS.out wr
        have hsl := slice_str (P := Try.prog) 9 Try.underlying9 (wr.alloc (.cells (bytesOf (zero 64)).toArray 5)) I (64 * (i : Int)) (64 * (i : Int) + 64) (by omega) (by omega) (by have := HIL.out; omega)
        have x1 : (64 * (i : Int)).toNat = 64 * i := by omega
        have x2 : (64 * (i : Int) + 64).toNat - 64 * i = 64 := by omega
        rw [x1, x2, show (I.drop (64 * i)).take 64 = zero 64 from hP.symm] at hsl
        have HFr2 := hid (HFr.out.alloc (.cells (bytesOf (zero 64)).toArray 5))
        have HKr2 := hid (HKr.out.stay ((Fr.refl (fun _ => False) wr).alloc (.cells (bytesOf (zero 64)).toArray 5)))
        clear x1 x2 hP
        go_wp2_with fail
        go_roundw
        case rel => exact ⟨i + 1, rfl, rfl, by omega, HFr2, HKr2⟩
        case measure => simp [intOf]; omega

end Go.Proofs.Ytcklnhjjjapfjaa.D
