/-
  Sync, Arm, Crash. No condition beyond the disk's own; what Arm keeps is of at most 2^44 numbers.
-/
import Derived.Test.YtjkhcfdflcndkaaD7
namespace Go.Proofs.Ytjkhcfdflcndkaa.D
open Go.RowKit Go.Maps Go.Shelf
set_option linter.unusedVariables false
set_option linter.unusedSimpArgs false

theorem crash_c (w : World) (g bm : Nat) (s : St) (h : At w g bm s) (hs : s.Ok) (kv : Value) (ks : List Int) (hk : IntsV w kv ks) :
    Calls Try.prog 16 #[.pointer (some ⟨g, 0, none⟩), kv] w fun e w' => e = .returned (.int .i64 (s.crash ks).2) ∧ (∃ bm', At w' g bm' (s.crash ks).1 ∧ (bm' = bm ∨ w.heap.size ≤ bm')) ∧ Fr (fun i => i = g ∨ i = bm) w w' := by
  have HA := hid h
  have HD := hid (dies_c w g bm s h hs kv ks hk)
  obtain ⟨a, cap, rfl, _⟩ := hk
  obtain ⟨⟨kv', h1, h2⟩, _⟩ := h
  cases hd : s.dead with
  | true =>
    have HE := hid (show s.crash ks = (s, 2) by rw [St.crash, if_pos hd])
    have c4 : w.cell? ⟨g, 4, none⟩ = some (.bool true) := hd ▸ cell_at h1 4
    clear h1 h2 hs hd
    rw [HE.out]
    go_enter Try.func16, Try.ntmps16
    go_wp2
    go_ret
    exact ⟨rfl, ⟨bm, HA.out, Or.inl rfl⟩, Fr.refl _ _⟩
  | false =>
    have HE := hid (show s.crash ks = (s.dies ks, 0) by rw [St.crash, if_neg (by simp [hd])])
    have c4 : w.cell? ⟨g, 4, none⟩ = some (.bool false) := hd ▸ cell_at h1 4
    clear h1 h2 hs hd
    rw [HE.out]
    go_enter Try.func16, Try.ntmps16
    go_wp2_with fail
    refine HD.out.mono ?_
    rintro e w2 ⟨rfl, hA2, hf2⟩
    have HA2 := hid hA2
    have HF2 := hid hf2
    clear hA2 hf2
    go_wp2_with fail
    go_ret
    obtain ⟨bm', h41, h42⟩ := HA2.out
    exact ⟨rfl, ⟨bm', h41, Or.inr h42⟩, HF2.out.mono (fun i _ e => Or.inl e)⟩

theorem sync_c (w : World) (g bm : Nat) (s : St) (h : At w g bm s) (hs : s.Ok) :
    Calls Try.prog 32 #[.pointer (some ⟨g, 0, none⟩)] w fun e w' => e = .returned (.int .i64 s.sync.2) ∧ (∃ bm', At w' g bm' s.sync.1 ∧ (bm' = bm ∨ w.heap.size ≤ bm')) ∧ Fr (fun i => i = g ∨ i = bm) w w' := by
  have HA := hid h
  have HST := hid (step_c w g bm s h hs)
  have HS := hid hs
  obtain ⟨⟨kv', h1, h2⟩, _⟩ := h
  cases hd : s.dead with
  | true =>
    have HE := hid (show s.sync = (s, 2) by rw [St.sync, if_pos hd])
    have c4 : w.cell? ⟨g, 4, none⟩ = some (.bool true) := hd ▸ cell_at h1 4
    clear h1 h2 hs hd
    rw [HE.out]
    go_enter Try.func32, Try.ntmps32
    go_wp2
    go_ret
    exact ⟨rfl, ⟨bm, HA.out, Or.inl rfl⟩, Fr.refl _ _⟩
  | false =>
    have HD := hid hd
    have c4 : w.cell? ⟨g, 4, none⟩ = some (.bool false) := hd ▸ cell_at h1 4
    clear h1 h2 hs hd
    go_enter Try.func32, Try.ntmps32
    go_wp2_with fail
    refine HST.out.mono ?_
    rintro e w3 ⟨rfl, hA3, hf3⟩
    have HF3 := hid hf3
    have HA3 := hid hA3
    have HO3 := hid (step_ok HS.out)
    obtain ⟨⟨kv3, d3, i3⟩, _⟩ := hA3
    have c3 : w3.cell? ⟨g, 3, none⟩ = some kv3 := cell_at d3 3
    cases hgo : s.step.2 with
    | true =>
      have HE := hid (show s.sync = (s.step.1.dies s.kept, 2) by rw [St.sync, if_neg (by simp [HD.out]), if_pos hgo])
      have HDIE := hid (dies_c w3 g bm _ HA3.out HO3.out kv3 s.kept (by rw [step_kept] at i3; exact i3.toV))
      obtain ⟨ka, kc, rfl, _⟩ := i3
      clear hgo d3 hf3
      go_wp2_with fail
      refine HDIE.out.mono ?_
      rintro e w4 ⟨rfl, hA4, hf4⟩
      have HA4 := hid hA4
      have HF4 := hid hf4
      clear hA4 hf4
      go_wp2_with fail
      go_ret
      obtain ⟨bm', h41, h42⟩ := HA4.out
      rw [HE.out]
      exact ⟨rfl, ⟨bm', h41, Or.inr (Nat.le_trans HF3.out.size h42)⟩, (HF3.out.trans HF4.out (fun i _ e => e)).mono (fun i _ e => Or.inl e)⟩
    | false =>
      have HE := hid (show s.sync = (s.step.1.becomes s.step.1.image, 0) by rw [St.sync, if_neg (by simp [HD.out]), if_neg (by simp [hgo])])
      have HI := hid (image_c w3 g bm _ HA3.out HO3.out)
      clear hgo d3 hf3 i3 c3
      go_wp2_with fail
      refine HI.out.mono ?_
      rintro e w4 ⟨rfl, hf4⟩
      have HB := hid (becomes_c w4 g bm _ s.step.1.image (HA3.out.stay hf4))
      have HF4 := hid hf4
      clear hf4
      go_wp2_with fail
      refine HB.out.mono ?_
      rintro e w5 ⟨rfl, hA5, hf5⟩
      have HA5 := hid hA5
      have HF5 := hid hf5
      clear hA5 hf5
      go_wp2_with fail
      go_ret
      rw [HE.out]
      refine ⟨rfl, ⟨w4.heap.size, HA5.out, Or.inr (Nat.le_trans HF3.out.size HF4.out.size)⟩, ?_⟩
      exact ((HF3.out.trans (fr_no HF4.out) (fun i _ e => e)).trans HF5.out (fun i _ e => e)).mono (fun i _ e => Or.inl e)

/-- slices.Clone of an empty slice. -/
theorem clone_empty (a : Addr) (c : Nat) (w : World) : Calls Try.prog 37 #[.slice (some a) 0 c] w fun e w' => ∃ v, e = .returned v ∧ IntsAt w' v [] ∧ Fr (fun _ => False) w w' := by
  obtain ⟨i0, hi, hz0, hz1, hz2⟩ := info_parts (show (Try.prog.info? 3).map (fun i => (i.zero, i.size, i.bytes)) = some (some (.int .i64 0), 1, 8) by kernel_rfl)
  have q22 : ∀ (w : World) (a : Option Addr) (n c n' c' : Nat), (binOp .eql 39 (.slice a n c) (.slice none n' c')).run Try.prog w = .ok (.bool a.isNone) w := fun w a n c n' c' => Lib.run_eql_slice_nil w _ _ a n c n' c' Try.underlying39
  go_enter Try.func37, Try.ntmps37
  go_wp2_with (at_builtin; refine wpList_append_own _ rfl _ _ 39 rfl w.heap.size 3 i0 (.int .i64 0) 1 8 Try.underlying39 hi hz0 hz1 hz2 rfl (by decide) _ _ _ rfl (World.ownsRow_made w #[] 0 (Nat.le_refl _) (Nat.zero_le _) (by simp)) a 0 c [] rfl rfl (fun j u h => by simp at h) (fun u h => by simp at h) (by decide) (by decide) (by simp) ?_)
  intro v' w1 hown hgrow hnil
  go_wp2
  go_ret
  have hF : Fr (fun _ => False) w w1 := ((Fr.refl _ w).alloc _).grown hgrow (by intro k hk hl; simp [Value.ownBlock] at hk; omega)
  rcases hown.2 with ⟨rfl, _⟩ | ⟨g, cap, cur, rfl, _⟩
  · exact ⟨_, rfl, ⟨none, 0, rfl, by simp, Or.inl rfl, fun x hx => by cases hx⟩, hF⟩
  · exact ⟨.slice (some ⟨g, 0, none⟩) (0 + 0) cap, rfl, ⟨some ⟨g, 0, none⟩, cap, by simp, by simp, Or.inl rfl, fun x hx => by cases hx; rfl⟩, hF⟩

theorem arm_c (w : World) (g bm : Nat) (s : St) (h : At w g bm s) (hs : s.Ok) (n : Int) (hn1 : -9223372036854775808 ≤ n) (hn : n ≤ 9223372036854775807) (kv : Value) (ks : List Int) (hk : IntsV w kv ks) (hkl : ks.length * 8 ≤ 140737488355328) :
    Calls Try.prog 15 #[.pointer (some ⟨g, 0, none⟩), .int .i64 n, kv] w fun e w' => e = .returned (.int .i64 (s.arm n ks).2) ∧ At w' g bm (s.arm n ks).1 ∧ Fr (fun i => i = g ∨ i = bm) w w' := by
  have HA := hid h
  obtain ⟨⟨kv', h1, h2⟩, h3⟩ := h
  have H1 := hid h1
  have HK := hid hk
  cases hd : s.dead with
  | true =>
    have HE := hid (show s.arm n ks = (s, 2) by rw [St.arm, if_pos hd])
    have c4 : w.cell? ⟨g, 4, none⟩ = some (.bool true) := hd ▸ cell_at h1 4
    obtain ⟨a, cap, rfl, _⟩ := hk
    clear h1 h2 hs hd
    rw [HE.out]
    go_enter Try.func15, Try.ntmps15
    go_wp2
    go_ret
    exact ⟨rfl, HA.out, Fr.refl _ _⟩
  | false =>
    have c4 : w.cell? ⟨g, 4, none⟩ = some (.bool false) := hd ▸ cell_at h1 4
    by_cases n0 : n < 0
    · have HE := hid (show s.arm n ks = (s, 1) by rw [St.arm, if_neg (by simp [hd]), if_pos n0])
      obtain ⟨a, cap, rfl, _⟩ := hk
      clear h1 h2 hs hd
      rw [HE.out]
      go_enter Try.func15, Try.ntmps15
      go_wp2
      go_ret
      exact ⟨rfl, HA.out, Fr.refl _ _⟩
    · have HE := hid (show s.arm n ks = ({ s with armed := n.toNat, kept := ks }, 0) by rw [St.arm, if_neg (by simp [hd]), if_neg n0])
      have HC : Hid (Calls Try.prog 37 #[kv] w fun e w' => ∃ v, e = .returned v ∧ IntsAt w' v ks ∧ (∃ a n c, v = .slice a n c) ∧ Fr (fun _ => False) w w') := by
        obtain ⟨a, cap, rfl, hlen, hr⟩ := hk
        obtain ⟨i0, hi, hz0, hz1, hz2⟩ := info_parts (show (Try.prog.info? 3).map (fun i => (i.zero, i.size, i.bytes)) = some (some (.int .i64 0), 1, 8) by kernel_rfl)
        cases a with
        | none =>
          refine (AnyE.slices_Clone_nil Try.cloneS ks.length cap w).mono ?_
          rintro e w' ⟨rfl, rfl⟩
          have hk0 : ks = [] := by
            rcases hr with hr | ⟨b, o, e, _⟩
            · exact hr
            · cases e
          subst hk0
          exact ⟨_, rfl, ⟨none, 0, rfl, by simp, Or.inl rfl, fun x hx => by cases hx⟩, ⟨_, _, _, rfl⟩, Fr.refl _ _⟩
        | some a =>
          by_cases hk0 : ks = []
          · subst hk0
            refine (clone_empty a cap w).mono ?_
            rintro e w' ⟨v, rfl, hv, hf⟩
            exact ⟨v, rfl, hv, by obtain ⟨a, c, rfl, _⟩ := hv; exact ⟨_, _, _, rfl⟩, hf⟩
          obtain ⟨b, o, e0, h5⟩ : ∃ b o, some a = some ⟨b, o, none⟩ ∧ ∀ j, j < ks.length → w.cell? ⟨b, o + j, none⟩ = some (.int .i64 (ks.getD j 0)) := by
            rcases hr with hr | hr
            · exact absurd hr hk0
            · exact hr
          cases e0
          have hcell : ∀ j u, (ks.map (Value.int .i64))[j]? = some u → w.cell? ⟨b, o + j, none⟩ = some u := by
            intro j u hj
            have hj' : j < ks.length := by have := (List.getElem?_eq_some_iff.1 hj).1; simpa using this
            rw [h5 j hj']
            simp [hj'] at hj
            rw [← hj]
            simp [List.getD_eq_getElem?_getD, hj']
          have hc := AnyE.slices_Clone Try.cloneS i0 (.int .i64 0) 1 8 hi hz0 hz1 hz2 rfl (by decide) (fun w => by kernel_rfl) b o ks.length cap (ks.map (Value.int .i64)) w (by simp) (by unfold maxLen; omega) hkl hcell (by
            intro u hu
            obtain ⟨x, _, rfl⟩ := List.mem_map.1 hu
            rfl)
          refine hc.mono ?_
          rintro e w' ⟨v, rfl, ⟨_, hrow⟩, hne, hbl⟩
          rcases hrow with ⟨h0, _⟩ | ⟨b2, cap2, cur, rfl, hb1, hb2, hb3, hb4, hb5, hb6⟩
          · exact absurd h0 hne
          · refine ⟨_, rfl, ⟨some ⟨b2, 0, none⟩, cap2, rfl, hlen, Or.inr ⟨b2, 0, cur, rfl, hb2, fun j hj => ?_⟩, fun x hx => by cases hx; rfl⟩, ⟨_, _, _, rfl⟩, Fr.below hbl _⟩
            have h5 : (cur.toList.take (ks.length * 1))[j]? = (ks.map (Value.int .i64))[j]? := by rw [hb6]
            rw [List.getElem?_take_of_lt (by omega)] at h5
            rw [Nat.zero_add]
            have h6 : cur[j]? = cur.toList[j]? := by simp
            rw [h6, h5]
            simp [hj, List.getD_eq_getElem?_getD]
      obtain ⟨a, cap, rfl, _⟩ := hk
      clear h1 h2 hs hd
      rw [HE.out]
      go_enter Try.func15, Try.ntmps15
      go_wp2_with fail
      refine HC.out.mono ?_
      rintro e w2 ⟨v, rfl, hv, ⟨va, vn, vc, rfl⟩, hf2⟩
      have h12 := hf2.at H1.out (fun f => f)
      have f2 : w2.frozen? ⟨g, 2, none⟩ = false := frozen_at h12 2
      have f3 : w2.frozen? ⟨g, 3, none⟩ = false := frozen_at h12 3
      have c2 : w2.cell? ⟨g, 2, none⟩ = some (.int .i64 s.armed) := cell_at h12 2
      have c3 : w2.cell? ⟨g, 3, none⟩ = some kv' := cell_at h12 3
      have HV := hid hv
      have HF2 := hid hf2
      have HA2 := hid (HA.out.stay hf2)
      have H12 := hid h12
      clear hv hf2 h12
      go_wp2_with fail
      go_ret
      have en : (n : Int) = (n.toNat : Int) := by omega
      have hf : Fr (· = g) w2 ((w2.setCell ⟨g, 2, none⟩ (.int .i64 n)).setCell ⟨g, 3, none⟩ (.slice va vn vc)) := fr_set2 _ _ _ _ _ _
      have hlw := HA2.out.ne
      obtain ⟨_, m, D, ho, hsy⟩ := HA2.out
      refine ⟨rfl, ⟨⟨.slice va vn vc, ?_, HV.out.keep hf (fun b cur hb e => ?_)⟩, m, D, owns_keep ho hf (fun e => hlw e.symm), hsy⟩, ((fr_no HF2.out).trans hf (fun i _ e => e)).mono (fun i _ e => Or.inl e)⟩
      · rw [set_at (set_at H12.out 2 _) 3 _, en]
        rfl
      · subst e
        rw [H12.out] at hb
        cases hb

end Go.Proofs.Ytjkhcfdflcndkaa.D
