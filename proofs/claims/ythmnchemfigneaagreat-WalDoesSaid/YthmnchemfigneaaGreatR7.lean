/-
  The document's disk: Sync. No condition beyond the disk's own.
-/
import Derived.Test.YthmnchemfigneaaGreatR6
import Derived.Deep.RegionWith
namespace Go.Proofs.YthmnchemfigneaaGreat.D
open Go.RowKit Go.Maps Go.Shelf
set_option linter.unusedVariables false
set_option linter.unusedSimpArgs false

/-- The safe sectors, k of them synced. -/
def s1 (S : St) (k : Nat) (i : Nat) : List UInt8 := if i < k then sec S i else piece S.safe i
def s2 (S : St) (k : Nat) (i : Nat) : List UInt8 := if i < k then [] else uns S i

theorem s1_next (S : St) (k i : Nat) : (if i = k then sec S k else s1 S k i) = s1 S (k + 1) i := by
  unfold s1
  by_cases e : i = k
  · subst e; rw [if_pos rfl, if_pos (by omega)]
  · rw [if_neg e]
    by_cases h : i < k
    · rw [if_pos h, if_pos (by omega)]
    · rw [if_neg h, if_neg (by omega)]
theorem s2_next (S : St) (k i : Nat) : (if i = k then [] else s2 S k i) = s2 S (k + 1) i := by
  unfold s2
  by_cases e : i = k
  · subst e; rw [if_pos rfl, if_pos (by omega)]
  · rw [if_neg e]
    by_cases h : i < k
    · rw [if_pos h, if_pos (by omega)]
    · rw [if_neg h, if_neg (by omega)]

theorem becomes_image_n {S : St} (hs : S.Ok) : (S.becomes S.image).n = S.n := becomes_n (image_length hs)

def RSyncC (w : World) (g b1 b2 : Nat) (s : St) : Prop :=
  Calls Tryz.prog 43 #[.pointer (some ⟨g, 0, none⟩)] w fun e w' => e = .returned (.int .i64 s.sync.2) ∧ RTurn w g b1 b2 s.sync.1 w'

set_option maxHeartbeats 8000000 in
set_option maxRecDepth 100000 in
theorem rsync_c (w : World) (g b1 b2 : Nat) (s : St) (h : RA w g b1 b2 s) (hs : s.Ok) : RSyncC w g b1 b2 s := by
  have HA := hid h
  have HS := hid hs
  have HST := hid (ra_step w g b1 b2 s h hs)
  obtain ⟨⟨c1, c2, kv', h1, h2⟩, _⟩ := h
  unfold RSyncC
  cases hd : s.dead with
  | true =>
    have HE := hid (show s.sync = (s, 2) by rw [St.sync, if_pos hd])
    have c4 : w.cell? ⟨g, 4, none⟩ = some (.bool true) := hd ▸ cell_at h1 4
    clear h1 h2 hs hd
    rw [HE.out]
    go_enter Tryz.func43, Tryz.ntmps43
    go_wp2_with fail
    go_ret
    exact ⟨rfl, RTurn.self HA.out⟩
  | false =>
    have HD := hid hd
    have c4 : w.cell? ⟨g, 4, none⟩ = some (.bool false) := hd ▸ cell_at h1 4
    clear h1 h2 hs hd
    go_enter Tryz.func43, Tryz.ntmps43
    go_wp2_with fail
    refine HST.out.mono ?_
    rintro e w3 ⟨rfl, hA3, hf3⟩
    have HF3 := hid (hf3.mono (fun i _ e => Or.inl e) : Fr (fun i => i = g ∨ i = b1 ∨ i = b2) w w3)
    have HA3 := hid hA3
    have HO3 := hid (step_ok HS.out)
    obtain ⟨⟨d1c3, d2c3, kv3, d3, i3⟩, _⟩ := hA3
    have c3 : w3.cell? ⟨g, 3, none⟩ = some kv3 := cell_at d3 3
    cases hgo : s.step.2 with
    | true =>
      have HE := hid (show s.sync = (s.step.1.dies s.kept, 2) by rw [St.sync, if_neg (by simp [HD.out]), if_pos hgo])
      have HDIE := hid (rdie_c w3 g b1 b2 _ HA3.out HO3.out kv3 s.kept (by rw [step_kept] at i3; exact i3.toV))
      obtain ⟨ka, kc, rfl, _⟩ := i3
      clear hgo d3 hf3
      go_wp2_with fail
      refine HDIE.out.mono ?_
      rintro e w4 ⟨rfl, hA4, hf4⟩
      have HA4 := hid hA4
      have HF4 := hid hf4
      clear hA4 hf4
      go_wp2_with fail
      go_ret
      obtain ⟨b1', b2', h41, h42, h43⟩ := HA4.out
      rw [HE.out]
      exact ⟨rfl, ⟨b1', b2', h41, Or.inr (Nat.le_trans HF3.out.size h42), Or.inr (Nat.le_trans HF3.out.size h43)⟩, HF3.out.trans HF4.out (fun i _ e => Or.inl e)⟩
    | false =>
      have HE := hid (show s.sync = (s.step.1.becomes s.step.1.image, 0) by rw [St.sync, if_neg (by simp [HD.out]), if_neg (by simp [hgo])])
      obtain ⟨T, hT⟩ : ∃ T, T = s.step.1 := ⟨_, rfl⟩
      rw [← hT] at HA3 HO3 HE
      obtain ⟨N, hN⟩ : ∃ N, N = T.n := ⟨_, rfl⟩
      have hn : N ≤ 4096 := by rw [hN]; exact HO3.out.n2
      have HNN := hid hN
      have HA0 := hid (show RC w3 g b1 b2 N (s1 T 0) (s2 T 0) T.armed T.kept T.dead by
        rw [hN]
        exact HA3.out.congr (fun i _ => by simp [s1]) (fun i _ => by simp [s2]))
      clear hgo d3 hf3 i3 c3 hT hN
      go_wp2_with fail
      go_loopw [4] (fun v wr => ∃ k : Nat, v = .int .i64 k ∧ k ≤ N ∧ Hid (RC wr g b1 b2 N (s1 T k) (s2 T k) T.armed T.kept T.dead) ∧ Hid (Fr (fun i => i = g ∨ i = b1 ∨ i = b2) w wr)) (fun i _ => N - (intOf i).toNat)
      case atStart => exact ⟨0, rfl, by omega, HA0, HF3⟩
      case round =>
        obtain ⟨k, rfl, hk, HRk, HF⟩ := hrel
        obtain ⟨⟨e1, e2, kv4, m1, _⟩, m3, m4, m5⟩ := HRk.out
        have q0 : wr.cell? ⟨g, 0, none⟩ = some (.slice (some ⟨b1, 0, none⟩) N e1) := cell_at m1 0
        by_cases hend : k = N
        · subst hend
          clear m1 m3 m4 m5
          go_wp2_with fail
          go_ret
          rw [HE.out]
          refine ⟨rfl, ⟨b1, b2, ?_, Or.inl rfl, Or.inl rfl⟩, HF.out⟩
          unfold RA
          rw [becomes_image_n HO3.out, ← HNN.out]
          refine HRk.out.congr (fun i hi => ?_) (fun i hi => ?_)
          · rw [s1, if_pos hi]; exact (image_piece HO3.out i).symm
          · rw [s2, if_pos hi]; rfl
        · have hk' : k < N := by omega
          have HSEC := hid (rsector_c wr.drew g b1 b2 N T.armed _ _ T.kept T.dead (HRk.out.stay (Fr.refl _ _).drew) hn k hk')
          have hx : (if s2 T k k = [] then s1 T k k else s2 T k k) = sec T k := by
            simp only [s1, s2, Nat.lt_irrefl, if_false]
            exact sec_uns HO3.out k
          rw [hx] at HSEC
          obtain ⟨y, hy⟩ : ∃ y, y = sec T k := ⟨_, rfl⟩
          rw [← hy] at HSEC
          have q1 := m3.cell hk'
          have q2 := m3.frozen k
          have HR1 := hid (RC.stay (HRk.out.put1 hk' y) (Fr.refl _ _).drew)
          obtain ⟨⟨e12, e22, kv42, m12, _⟩, m32, m42, _⟩ := HR1.out
          have q3 : ((wr.setCell ⟨b1, k, none⟩ (.string (bs y))).drew).cell? ⟨g, 1, none⟩ = some (.slice (some ⟨b2, 0, none⟩) N e22) := cell_at m12 1
          have q4 := m42.cell hk'
          have q5 := m42.frozen k
          have HR2 := hid (HR1.out.put2 hk' [])
          have HFy := hid ((HF.out.trans (fr_set1 wr b1 k (.string (bs y))).drew (fun i _ e => Or.inr (Or.inl e))).trans (fr_set1 _ b2 k (.string (bs []))) (fun i _ e => Or.inr (Or.inr e)))
          have HY := hid hy
          clear m1 m3 m4 m5 hend hx hy m12 m32 m42
          go_wp2_with fail
          go_region_with (go_at_call 52; refine HSEC.out.mono ?_; rintro e w5 ⟨rfl, rfl⟩)
          all_goals (
            go_wp2_with fail
            first | go_roundw | skip
            case measure => simp [intOf]; omega
            exact ⟨k + 1, rfl, by omega, hid (HR2.out.congr (fun i _ => by rw [HY.out]; exact s1_next T k i) (fun i _ => s2_next T k i)), HFy⟩)

end Go.Proofs.YthmnchemfigneaaGreat.D
