/-
  Write, its loop. No condition beyond the disk's own.
-/
import Derived.Test.YtjkhcfdflcndkaaD7
namespace Go.Proofs.Ytjkhcfdflcndkaa.D
open Go.RowKit Go.Maps Go.Shelf
set_option linter.unusedVariables false
set_option linter.unusedSimpArgs false

theorem wrs_step (m k : Nat) (l : List UInt8) (s : St) : wrs (m + 1) k l s = if (s.wr1 k (l.take 64)).step.2 then ((s.wr1 k (l.take 64)).step.1.dies s.kept, true) else wrs m (k + 1) (l.drop 64) (s.wr1 k (l.take 64)).step.1 := rfl

set_option maxHeartbeats 4000000 in
set_option maxRecDepth 100000 in
theorem write_go (w : World) (g bm : Nat) (s : St) (h : At w g bm s) (hs : s.Ok) (A : Nat) (l : List UInt8) (hd : s.dead = false) (hm : l.length % 64 = 0)
    (hat : A + l.length / 64 ≤ s.n) : WriteC w g bm s A l := by
  have HE := hid (show s.write A l = ((wrs (l.length / 64) A l s).1, errOf (wrs (l.length / 64) A l s).2) by
    rw [St.write, if_neg (by simp [hd]), if_neg (by simp [hm]), if_neg (by omega)]; simp)
  have HA := hid h
  have HCNT := hid (count_c w g bm s h hs)
  obtain ⟨⟨kv, h1, h2⟩, _⟩ := h
  have c4 : w.cell? ⟨g, 4, none⟩ = some (.bool false) := hd ▸ cell_at h1 4
  have n2 : (l.length : Int) % 64 = 0 := by omega
  have hn : s.n ≤ 4096 := hs.n2
  have hn0 : 0 < s.n := hs.n1
  obtain ⟨m, hmm⟩ : ∃ m, m = l.length / 64 := ⟨_, rfl⟩
  have n3 : (l.length : Int) / 64 = m := by omega
  have hlm : l.length = 64 * m := by omega
  have HLM := hid hlm
  rw [← hmm] at HE hat
  have HS := hid hs
  have hA4096 : A ≤ 4096 := by omega
  have hlen : l.length ≤ 9223372036854775807 := by omega
  have hm2 : m ≤ 4096 := by omega
  have b1 : (A : Int) ≤ s.n := by omega
  have b2 : (m : Int) ≤ (s.n : Int) - A := by omega
  have d1 : decide ((A : Int) < 0) = false := decide_eq_false (by omega)
  have d2 : decide (s.n < A) = false := decide_eq_false (by omega)
  have d3 : decide ((s.n : Int) - A < m) = false := decide_eq_false (by omega)
  clear h1 h2 hs hd hm hlm hmm
  unfold WriteC
  rw [HE.out]
  go_enter Try.func31, Try.ntmps31
  go_wp2_with (first | fail | (go_at_call 42; refine HCNT.out.mono ?_; rintro e w' ⟨rfl, rfl⟩))
  go_loopw [40, 6] (fun v v6 wr => ∃ k : Nat, v = .int .i64 k ∧ v6 = .int .i64 0 ∧ k ≤ m ∧ ∃ sk : St, Hid (wrs (m - k) (A + k) (l.drop (64 * k)) sk = wrs m A l s) ∧ Hid sk.Ok ∧ Hid (sk.n = s.n) ∧ Hid (At wr g bm sk) ∧ Hid (Fr (fun i => i = g ∨ i = bm) w' wr)) (fun i _ _ => m - (intOf i).toNat)
  case atStart => exact ⟨0, rfl, rfl, by omega, s, hid (by simp), HS, hid rfl, HA, hid (Fr.refl _ _)⟩
  case round =>
    obtain ⟨k, rfl, rfl, hk, sk, HW, HSK, HN, HAK, HF⟩ := hrel
    by_cases hend : k = m
    · subst hend
      have hw := HW.out
      rw [Nat.sub_self, wrs] at hw
      have HW2 := hid hw
      clear hw
      go_wp2_with fail
      go_ret
      rw [← HW2.out]
      exact ⟨rfl, ⟨bm, HAK.out, Or.inl rfl⟩, HF.out⟩
    · have hk' : k < m := by omega
      obtain ⟨q, hq⟩ : ∃ q, m - k = q + 1 := ⟨m - k - 1, by omega⟩
      have hw := HW.out
      have HQ := hid hq
      rw [hq, wrs_step] at hw
      have h64 : 64 * k + 64 ≤ l.length := by have := HLM.out; omega
      have hl64 : ((l.drop (64 * k)).take 64).length = 64 := by rw [List.length_take, List.length_drop]; omega
      obtain ⟨w2, hrun, hA2, hf2⟩ := upd_un HAK.out.drew HSK.out (A + k) (by omega) _ hl64
      have hsl := slice_str (P := Try.prog) 9 Try.underlying9 wr.drew l ((k : Int) * 64) ((k : Int) * 64 + 64) (by omega) (by omega) (by omega)
      have e1 : ((k : Int) * 64).toNat = 64 * k := by omega
      have e2 : ((k : Int) * 64 + 64).toNat - 64 * k = 64 := by omega
      have e3 : (((A + k : Nat)) : Int) = (A : Int) + k := by omega
      rw [e1, e2] at hsl
      rw [e3] at hrun
      obtain ⟨⟨kv', d1, _⟩, _⟩ := HAK.out
      have c1 : wr.cell? ⟨g, 1, none⟩ = some (.map (some bm)) := cell_at d1 1
      have hOk2 : (sk.wr1 (A + k) ((l.drop (64 * k)).take 64)).Ok := wr1_ok HSK.out (by have := HN.out; omega) hl64
      have HF2 := hid (HF.out.drew.trans hf2 (fun i _ e => Or.inr e))
      have HST := hid (step_c w2 g bm _ hA2 hOk2)
      have HO2 := hid hOk2
      obtain ⟨L, hL⟩ : ∃ L, L = (l.drop (64 * k)).take 64 := ⟨_, rfl⟩
      rw [← hL] at hrun hsl HST HO2 hw
      have HW2 := hid hw
      have HLL := hid hL
      have ex1 : IntKind.i64.wrap ((k : Int) * 64) = (k : Int) * 64 := by rw [IntKind.wrap_i64]; omega
      have ex2 : IntKind.i64.wrap ((k : Int) * 64 + 64) = (k : Int) * 64 + 64 := by rw [IntKind.wrap_i64]; omega
      have ex3 : IntKind.i64.wrap ((A : Int) + k) = (A : Int) + k := by rw [IntKind.wrap_i64]; omega
      clear hw hL d1 hOk2 hA2 hf2 e1 e2 e3 hend hq hl64
      go_wp2_with fail
      go_region
      go_wp2_with fail
      refine HST.out.mono ?_
      rintro e w3 ⟨rfl, hA3, hf3⟩
      have HF3 := hid (HF2.out.trans hf3 (fun i _ e => Or.inl e))
      have HA3 := hid hA3
      have HO3 := hid (step_ok HO2.out)
      obtain ⟨⟨kv3, d3, i3⟩, _⟩ := hA3
      have c3 : w3.cell? ⟨g, 3, none⟩ = some kv3 := cell_at d3 3
      have hw := HW2.out
      cases hgo : (sk.wr1 (A + k) L).step.2 with
      | true =>
        rw [hgo, if_pos rfl] at hw
        have HW3 := hid hw
        have HDIE := hid (dies_c w3 g bm _ HA3.out HO3.out kv3 sk.kept (by rw [step_kept] at i3; exact i3.toV))
        obtain ⟨ka, kc, rfl, _⟩ := i3
        clear hw hgo d3 hf3
        go_wp2_with fail
        refine HDIE.out.mono ?_
        rintro e w4 ⟨rfl, hA4, hf4⟩
        have HA4 := hid hA4
        have HF4 := hid hf4
        clear hA4 hf4
        go_wp2_with fail
        go_ret
        obtain ⟨bm', h41, h42⟩ := HA4.out
        rw [← HW3.out]
        exact ⟨rfl, ⟨bm', h41, Or.inr (Nat.le_trans HF3.out.size h42)⟩, HF3.out.trans HF4.out (fun i _ e => Or.inl e)⟩
      | false =>
        rw [hgo, if_neg (by simp)] at hw
        have HW3 := hid hw
        clear hw hgo d3 hf3 i3 c3
        go_wp2_with fail
        have hs3 : (sk.wr1 (A + k) L).step.1.n = sk.n := step_n _
        have e5 : m - (k + 1) = q := by have := HQ.out; omega
        go_roundw
        case rel =>
          refine ⟨k + 1, rfl, rfl, by omega, _, hid ?_, HO3, hid (hs3.trans HN.out), HA3, HF3⟩
          rw [e5, ← HW3.out, List.drop_drop]
          congr 1
        case measure => simp [intOf]; omega

end Go.Proofs.Ytjkhcfdflcndkaa.D
