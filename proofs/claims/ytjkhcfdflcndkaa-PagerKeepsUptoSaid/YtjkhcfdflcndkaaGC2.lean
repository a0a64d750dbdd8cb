/-
  A pager's Commit: what is in memory on its way; the case of a wrong number. No condition beyond the sizes that are named.
-/
import Derived.Test.YtjkhcfdflcndkaaGC
namespace Go.Proofs.Ytjkhcfdflcndkaa.D
open Go.RowKit Go.Maps Go.Shelf
set_option linter.unusedVariables false
set_option linter.unusedSimpArgs false

/-- A pager and its disk, the closure's cell, the new set. -/
structure CI (w0 W : World) (p g bm0 bm ml mt x B : Nat) (P : PSt) (S : St) (f : Int → Bool) : Prop where
  pd : PD W p g bm ml mt P S
  box : W.heap[x]? = some (.cells #[.pointer (some ⟨p, 0, none⟩)] 22)
  set : SetAt W B f
  n1 : B ≠ bm ∧ B ≠ ml ∧ B ≠ mt
  low : w0.heap.size ≤ B ∧ w0.heap.size ≤ x
  bml : bm = bm0 ∨ w0.heap.size ≤ bm
  fr : Fr (inPD p g bm0 ml mt) w0 W

section
variable {w0 W W' : World} {p g bm0 bm ml mt x B : Nat} {P P' : PSt} {S S' : St} {f : Int → Bool}

theorem CI.ne (h : CI w0 W p g bm0 bm ml mt x B P S f) : B ≠ p ∧ B ≠ g ∧ ¬ inPD p g bm ml mt x ∧ B < W.heap.size := by
  obtain ⟨es, c, hb⟩ := h.set.isMap
  obtain ⟨cd, hd⟩ := h.pd.da.isDisk
  refine ⟨?_, ?_, h.pd.apart h.box (by decide) (by decide), lt_of_at hb⟩
  · rintro rfl
    rw [h.pd.pa.1] at hb
    cases hb
  · rintro rfl
    rw [hd] at hb
    cases hb

theorem CI.stay (h : CI w0 W p g bm0 bm ml mt x B P S f) (hf : Fr (fun _ => False) W W') : CI w0 W' p g bm0 bm ml mt x B P S f :=
  ⟨h.pd.stay hf, hf.at h.box (fun f => f), h.set.stay hf, h.n1, h.low, h.bml, h.fr.trans hf (fun _ _ f => f.elim)⟩

theorem CI.dturn (h : CI w0 W p g bm0 bm ml mt x B P S f) {bm' : Nat} (hA : At W' g bm' S') (hb : bm' = bm ∨ W.heap.size ≤ bm') (hf : Fr (fun i => i = g ∨ i = bm) W W') : CI w0 W' p g bm0 bm' ml mt x B P S' f := by
  obtain ⟨n1, n2, n3, n4⟩ := h.ne
  obtain ⟨m1, m2, m3⟩ := h.n1
  have hl := h.low
  have hbm := h.bml
  have hs := h.fr.size
  refine ⟨h.pd.dturn hA hb hf, hf.at h.box (fun e => n3 (by unfold inPD; omega)), h.set.keep hf (by omega), ⟨by omega, m2, m3⟩, h.low, by omega, h.fr.trans hf (fun i hi e => ?_)⟩
  unfold inPD
  omega

theorem CI.pturn (h : CI w0 W p g bm0 bm ml mt x B P S f) (hD : PD W' p g bm ml mt P' S) (hf : Fr (· = p) W W') : CI w0 W' p g bm0 bm ml mt x B P' S f := by
  obtain ⟨n1, n2, n3, n4⟩ := h.ne
  refine ⟨hD, hf.at h.box (fun e => n3 (Or.inl e)), h.set.keep hf n1, h.n1, h.low, h.bml, h.fr.trans hf (fun i hi e => Or.inl e)⟩

theorem CI.turned (h : CI w0 W p g bm0 bm ml mt x B P S f) : PTurn w0 W p g bm0 ml mt P S := ⟨bm, ml, h.pd, h.bml, Or.inl rfl, h.fr⟩
end

section
variable (w : World) (p g bm ml mt : Nat) (P : PSt) (S : St) (h : PD w p g bm ml mt P S) (root fr : Int) (v : Value) (l : List Int)
include h

set_option maxHeartbeats 4000000 in
set_option maxRecDepth 100000 in
theorem pcommit_form (hp : P.pages ≤ 4096) (hv : IntsV w v l) (hl : ∀ x ∈ l, -9223372036854775808 ≤ x ∧ x ≤ 9223372036854775807) (r1 : -9223372036854775808 ≤ root) (r2 : root ≤ 9223372036854775807) (hd : P.dead = false) (hm : P.mayCommit root l = true) (hbad : fr < 1 ∨ 1152921504606846976 < fr ∨ 1152921504606846976 ≤ P.gen) : PCommitC w p g bm ml mt P S root fr v l := by
  have HD := hid h
  have HE := hid (show P.commit S root fr l = (P, S, 190) by unfold PSt.commit; rw [if_neg (by simp [hd]), if_neg (by simp [hm]), if_pos hbad])
  have hf1 : Fr (fun _ => False) w (w.alloc (.cells #[.pointer (some ⟨p, 0, none⟩)] 22)) := (Fr.refl _ w).alloc _
  have hnew := (MapKept.heap_alloc w (.cells #[.pointer (some ⟨p, 0, none⟩)] 22)).1
  obtain ⟨w1, hw1⟩ : ∃ w1, w1 = w.alloc (.cells #[.pointer (some ⟨p, 0, none⟩)] 22) := ⟨_, rfl⟩
  rw [← hw1] at hf1 hnew
  obtain ⟨x, hx⟩ : ∃ x, x = w.heap.size := ⟨_, rfl⟩
  rw [← hx] at hnew
  have HD1 := hid (h.stay hf1)
  have k8 : w1.cell? ⟨p, 8, none⟩ = some (.bool false) := hd ▸ cell_at HD1.out.pa.1 8
  have HSET := hid (set_c w1 v l 35 #[] #[.pointer (some ⟨x, 0, none⟩)] (fun i => P.is i && P.used i) P.pages (hv.stay hf1) hl (may_cl HD1.out hnew) (fun i hi => is_true (by simp at hi; exact hi.1)) hp)
  have HF1 := hid hf1
  have HX := hid hnew
  have hmf : ∀ (fn : Fn) (first cap : Array Value) (w : World), (Instr.makeFunc fn first cap).run Try.prog w = .ok (.func fn first cap) w := fun _ _ _ _ => rfl
  have HLK := hid (fun (W : World) (b : Nat) (f : Int → Bool) (hs : SetAt W b f) => hs.look root r1 r2)
  obtain ⟨a, cap, rfl, _⟩ := hv
  have HM := hid hm
  obtain ⟨G, hG⟩ : ∃ G : Int, G = (P.gen : Int) := ⟨_, rfl⟩
  have hbad : fr < 1 ∨ 1152921504606846976 < fr ∨ 1152921504606846976 ≤ G := by omega
  have HBAD := hid hbad
  have HG := hid hG
  unfold PCommitC
  rw [HE.out]
  rw [hw1] at k8
  have HW1 := hid hw1
  have HXE := hid hx
  clear h hd hf1 hnew hm hw1 hx hl hbad hG
  go_enter Try.func14, Try.ntmps14
  go_wp2_with fail
  rw [← HW1.out, ← HXE.out]
  refine HSET.out.mono ?_
  rintro e w2 ⟨hf, h1, h2⟩
  have HF := hid (HF1.out.trans hf (fun _ _ f => f))
  have hm := HM.out
  unfold PSt.mayCommit at hm
  simp only [Bool.and_eq_true, Bool.or_eq_true, decide_eq_true_eq] at hm
  obtain ⟨hok, hroot⟩ := hm
  obtain ⟨B, rfl, hB, _⟩ := h1 hok
  have hlk := HLK.out _ _ _ hB
  have hfa : Fr (fun _ => False) w2 (w2.alloc (.cells #[] 59)) := (Fr.refl _ w2).alloc _
  have hPD3 := (HD1.out.stay hf).stay hfa
  have j0 : (w2.alloc (.cells #[] 59)).cell? ⟨x, 0, none⟩ = some (.pointer (some ⟨p, 0, none⟩)) := cell_at (hfa.at (hf.at HX.out (fun f => f)) (fun f => f)) 0
  have j5 : (w2.alloc (.cells #[] 59)).cell? ⟨p, 5, none⟩ = some (.int .i64 G) := by rw [HG.out]; exact cell_at hPD3.pa.1 5
  obtain ⟨u, hu⟩ : ∃ u, u = l.contains root := ⟨_, rfl⟩
  rw [← hu] at hlk
  have hru : ((root == -1) = true ∧ (root != -1) = false) ∨ ((root == -1) = false ∧ (root != -1) = true ∧ u = true) := by
    by_cases e : root = -1
    · left; subst e; decide
    · right
      refine ⟨by simpa using e, by simpa using e, ?_⟩
      rcases hroot with h | h
      · exact absurd h e
      · rw [hu]; exact h
  have HRU := hid hru
  clear hB h1 h2 hok hroot hu hfa hPD3 hru hf k8
  rcases HRU.out with ⟨e1, e2⟩ | ⟨e1, e2, rfl⟩
  · by_cases b1 : fr < 1
    · have d1 : decide (fr < 1) = true := decide_eq_true b1
      go_wp2_with fail
      go_ret
      exact ⟨rfl, PTurn.self HD.out (HF.out.alloc _)⟩
    have d1 : decide (fr < 1) = false := decide_eq_false b1
    by_cases b2 : 1152921504606846976 < fr
    · have d2 : decide (1152921504606846976 < fr) = true := decide_eq_true b2
      go_wp2_with fail
      go_ret
      exact ⟨rfl, PTurn.self HD.out (HF.out.alloc _)⟩
    have d2 : decide (1152921504606846976 < fr) = false := decide_eq_false b2
    have b3 : 1152921504606846976 ≤ G := by have := HBAD.out; omega
    have d3 : decide (1152921504606846976 ≤ G) = true := decide_eq_true b3
    go_wp2_with fail
    go_ret
    exact ⟨rfl, PTurn.self HD.out (HF.out.alloc _)⟩
  · by_cases b1 : fr < 1
    · have d1 : decide (fr < 1) = true := decide_eq_true b1
      go_wp2_with fail
      go_ret
      exact ⟨rfl, PTurn.self HD.out (HF.out.alloc _)⟩
    have d1 : decide (fr < 1) = false := decide_eq_false b1
    by_cases b2 : 1152921504606846976 < fr
    · have d2 : decide (1152921504606846976 < fr) = true := decide_eq_true b2
      go_wp2_with fail
      go_ret
      exact ⟨rfl, PTurn.self HD.out (HF.out.alloc _)⟩
    have d2 : decide (1152921504606846976 < fr) = false := decide_eq_false b2
    have b3 : 1152921504606846976 ≤ G := by have := HBAD.out; omega
    have d3 : decide (1152921504606846976 ≤ G) = true := decide_eq_true b3
    go_wp2_with fail
    go_ret
    exact ⟨rfl, PTurn.self HD.out (HF.out.alloc _)⟩
end

end Go.Proofs.Ytjkhcfdflcndkaa.D
