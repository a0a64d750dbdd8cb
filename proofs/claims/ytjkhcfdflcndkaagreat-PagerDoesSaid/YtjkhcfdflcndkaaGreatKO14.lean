/-
  A pager's Commit: what is in memory on its way; the case of a wrong number. No condition beyond the sizes that are named.
-/
import Derived.Test.YtjkhcfdflcndkaaGreatKO13
import Derived.Deep.RegionHeld3
import Derived.BigRegion
namespace Go.Proofs.YtjkhcfdflcndkaaGreat.D
open Go.RowKit Go.Maps Go.Shelf
set_option linter.unusedVariables false
set_option linter.unusedSimpArgs false

/-- A pager and its disk, the closure's cell, the new set. -/
structure CI (w0 W : World) (p g bm0 bm ml mt x B : Nat) (P : PSt) (S : St) (f : Int → Bool) : Prop where
  pd : PD W p g bm ml mt P S
  box : W.heap[x]? = some (.cells #[.pointer (some ⟨p, 0, none⟩)] 29)
  set : SetAt W B f
  n1 : B ≠ bm ∧ B ≠ ml ∧ B ≠ mt
  low : w0.heap.size ≤ B ∧ w0.heap.size ≤ x
  bml : bm = bm0 ∨ w0.heap.size ≤ bm
  fr : Fr (inPD p g bm0 ml mt) w0 W

section
variable {w0 W W' : World} {p g bm0 bm ml mt x B : Nat} {P P' : PSt} {S S' : St} {f : Int → Bool}

theorem CI.ne (h : CI w0 W p g bm0 bm ml mt x B P S f) : B ≠ p ∧ B ≠ g ∧ ¬ inPD p g bm ml mt x ∧ B < W.heap.size := by
  obtain ⟨es, c, hb⟩ := h.set.isMap
  obtain ⟨cd, hd⟩ := h.pd.da.isDisk
  refine ⟨?_, ?_, h.pd.apart h.box (by decide) (by decide), lt_of_at hb⟩
  · rintro rfl
    rw [h.pd.pa.1] at hb
    cases hb
  · rintro rfl
    rw [hd] at hb
    cases hb

theorem CI.stay (h : CI w0 W p g bm0 bm ml mt x B P S f) (hf : Fr (fun _ => False) W W') : CI w0 W' p g bm0 bm ml mt x B P S f :=
  ⟨h.pd.stay hf, hf.at h.box (fun f => f), h.set.stay hf, h.n1, h.low, h.bml, h.fr.trans hf (fun _ _ f => f.elim)⟩

theorem CI.dturn (h : CI w0 W p g bm0 bm ml mt x B P S f) {bm' : Nat} (hA : At W' g bm' S') (hb : bm' = bm ∨ W.heap.size ≤ bm') (hf : Fr (fun i => i = g ∨ i = bm) W W') : CI w0 W' p g bm0 bm' ml mt x B P S' f := by
  obtain ⟨n1, n2, n3, n4⟩ := h.ne
  obtain ⟨m1, m2, m3⟩ := h.n1
  have hl := h.low
  have hbm := h.bml
  have hs := h.fr.size
  refine ⟨h.pd.dturn hA hb hf, hf.at h.box (fun e => n3 (by unfold inPD; omega)), h.set.keep hf (by omega), ⟨by omega, m2, m3⟩, h.low, by omega, h.fr.trans hf (fun i hi e => ?_)⟩
  unfold inPD
  omega

theorem CI.pturn (h : CI w0 W p g bm0 bm ml mt x B P S f) (hD : PD W' p g bm ml mt P' S) (hf : Fr (· = p) W W') : CI w0 W' p g bm0 bm ml mt x B P' S f := by
  obtain ⟨n1, n2, n3, n4⟩ := h.ne
  refine ⟨hD, hf.at h.box (fun e => n3 (Or.inl e)), h.set.keep hf n1, h.n1, h.low, h.bml, h.fr.trans hf (fun i hi e => Or.inl e)⟩

theorem CI.turned (h : CI w0 W p g bm0 bm ml mt x B P S f) : PTurn w0 W p g bm0 ml mt P S := ⟨bm, ml, h.pd, h.bml, Or.inl rfl, h.fr⟩
end

section
variable (w : World) (p g bm ml mt : Nat) (P : PSt) (S : St) (h : PD w p g bm ml mt P S) (root fr : Int) (v : Value) (l : List Int)
include h

set_option maxHeartbeats 4000000 in
set_option maxRecDepth 100000 in
theorem pcommit_form (hp : P.pages ≤ 4096) (hv : IntsV w v l) (hl : ∀ x ∈ l, -9223372036854775808 ≤ x ∧ x ≤ 9223372036854775807) (r1 : -9223372036854775808 ≤ root) (r2 : root ≤ 9223372036854775807) (hd : P.dead = false) (hm : P.mayCommit root l = true) (hbad : fr < 1 ∨ 1152921504606846976 < fr ∨ 1152921504606846976 ≤ P.gen) : PCommitC w p g bm ml mt P S root fr v l := by
  have HD := hid h
  have HE := hid (show P.commit S root fr l = (P, S, 190) by unfold PSt.commit; rw [if_neg (by simp [hd]), if_neg (by simp [hm]), if_pos hbad])
  have hf1 : Fr (fun _ => False) w (w.alloc (.cells #[.pointer (some ⟨p, 0, none⟩)] 29)) := (Fr.refl _ w).alloc _
  have hnew := (MapKept.heap_alloc w (.cells #[.pointer (some ⟨p, 0, none⟩)] 29)).1
  obtain ⟨w1, hw1⟩ : ∃ w1, w1 = w.alloc (.cells #[.pointer (some ⟨p, 0, none⟩)] 29) := ⟨_, rfl⟩
  rw [← hw1] at hf1 hnew
  obtain ⟨x, hx⟩ : ∃ x, x = w.heap.size := ⟨_, rfl⟩
  rw [← hx] at hnew
  have HD1 := hid (h.stay hf1)
  have k8 : w1.cell? ⟨p, 8, none⟩ = some (.bool false) := hd ▸ cell_at HD1.out.pa.1 8
  have HSET := hid (set_c w1 v l 68 #[] #[.pointer (some ⟨x, 0, none⟩)] (fun i => P.is i && P.used i) P.pages (hv.stay hf1) hl (may_cl HD1.out hnew) (fun i hi => is_true (by simp at hi; exact hi.1)) hp)
  have HF1 := hid hf1
  have HX := hid hnew
  have hmf : ∀ (fn : Fn) (first cap : Array Value) (w : World), (Instr.makeFunc fn first cap).run Tryz.prog w = .ok (.func fn first cap) w := fun _ _ _ _ => rfl
  have HLK := hid (fun (W : World) (b : Nat) (f : Int → Bool) (hs : SetAt W b f) => hs.look root r1 r2)
  obtain ⟨a, cap, rfl, _⟩ := hv
  have HM := hid hm
  obtain ⟨G, hG⟩ : ∃ G : Int, G = (P.gen : Int) := ⟨_, rfl⟩
  have hbad : fr < 1 ∨ 1152921504606846976 < fr ∨ 1152921504606846976 ≤ G := by omega
  have HBAD := hid hbad
  have HG := hid hG
  unfold PCommitC
  rw [HE.out]
  rw [hw1] at k8
  have HW1 := hid hw1
  have HXE := hid hx
  clear h hd hf1 hnew hm hw1 hx hl hbad hG
  go_enter Tryz.func27, Tryz.ntmps27
  go_wp2_with fail
  rw [← HW1.out, ← HXE.out]
  refine HSET.out.mono ?_
  rintro e w2 ⟨hf, h1, h2⟩
  have HF := hid (HF1.out.trans hf (fun _ _ f => f))
  have hm := HM.out
  unfold PSt.mayCommit at hm
  simp only [Bool.and_eq_true, Bool.or_eq_true, decide_eq_true_eq] at hm
  obtain ⟨hok, hroot⟩ := hm
  obtain ⟨B, rfl, hB, _⟩ := h1 hok
  have hlk := HLK.out _ _ _ hB
  have hfa : Fr (fun _ => False) w2 (w2.alloc (.cells #[] 94)) := (Fr.refl _ w2).alloc _
  have hPD3 := (HD1.out.stay hf).stay hfa
  have j0 : (w2.alloc (.cells #[] 94)).cell? ⟨x, 0, none⟩ = some (.pointer (some ⟨p, 0, none⟩)) := cell_at (hfa.at (hf.at HX.out (fun f => f)) (fun f => f)) 0
  have j5 : (w2.alloc (.cells #[] 94)).cell? ⟨p, 5, none⟩ = some (.int .i64 G) := by rw [HG.out]; exact cell_at hPD3.pa.1 5
  obtain ⟨u, hu⟩ : ∃ u, u = l.contains root := ⟨_, rfl⟩
  rw [← hu] at hlk
  have hru : ((root == -1) = true ∧ (root != -1) = false) ∨ ((root == -1) = false ∧ (root != -1) = true ∧ u = true) := by
    by_cases e : root = -1
    · left; subst e; decide
    · right
      refine ⟨by simpa using e, by simpa using e, ?_⟩
      rcases hroot with h | h
      · exact absurd h e
      · rw [hu]; exact h
  have HRU := hid hru
  clear hB h1 h2 hok hroot hu hfa hPD3 hru hf k8
  rcases HRU.out with ⟨e1, e2⟩ | ⟨e1, e2, rfl⟩
  · by_cases b1 : fr < 1
    · have d1 : decide (fr < 1) = true := decide_eq_true b1
      go_wp2_with fail
      go_ret
      exact ⟨rfl, PTurn.self HD.out (HF.out.alloc _)⟩
    have d1 : decide (fr < 1) = false := decide_eq_false b1
    by_cases b2 : 1152921504606846976 < fr
    · have d2 : decide (1152921504606846976 < fr) = true := decide_eq_true b2
      go_wp2_with fail
      go_ret
      exact ⟨rfl, PTurn.self HD.out (HF.out.alloc _)⟩
    have d2 : decide (1152921504606846976 < fr) = false := decide_eq_false b2
    have b3 : 1152921504606846976 ≤ G := by have := HBAD.out; omega
    have d3 : decide (1152921504606846976 ≤ G) = true := decide_eq_true b3
    go_wp2_with fail
    go_ret
    exact ⟨rfl, PTurn.self HD.out (HF.out.alloc _)⟩
  · by_cases b1 : fr < 1
    · have d1 : decide (fr < 1) = true := decide_eq_true b1
      go_wp2_with fail
      go_ret
      exact ⟨rfl, PTurn.self HD.out (HF.out.alloc _)⟩
    have d1 : decide (fr < 1) = false := decide_eq_false b1
    by_cases b2 : 1152921504606846976 < fr
    · have d2 : decide (1152921504606846976 < fr) = true := decide_eq_true b2
      go_wp2_with fail
      go_ret
      exact ⟨rfl, PTurn.self HD.out (HF.out.alloc _)⟩
    have d2 : decide (1152921504606846976 < fr) = false := decide_eq_false b2
    have b3 : 1152921504606846976 ≤ G := by have := HBAD.out; omega
    have d3 : decide (1152921504606846976 ≤ G) = true := decide_eq_true b3
    go_wp2_with fail
    go_ret
    exact ⟨rfl, PTurn.self HD.out (HF.out.alloc _)⟩
end

end Go.Proofs.YtjkhcfdflcndkaaGreat.D

/-
  A pager's Commit: the case that writes. No condition beyond the sizes that are named.
-/
namespace Go.Proofs.YtjkhcfdflcndkaaGreat.D
open Go.RowKit Go.Maps Go.Shelf
set_option linter.unusedVariables false
set_option linter.unusedSimpArgs false

theorem told_zero (P : PSt) : P.told 0 = P := by
  unfold PSt.told
  have e : (P.dead || (0 : Int) == 2) = P.dead := by simp
  rw [e]

theorem ci_cells {w0 W : World} {p g bm0 bm ml mt x B : Nat} {P : PSt} {S : St} {f : Int → Bool} (h : CI w0 W p g bm0 bm ml mt x B P S f) :
    W.cell? ⟨x, 0, none⟩ = some (.pointer (some ⟨p, 0, none⟩)) ∧ W.cell? ⟨p, 0, none⟩ = some (.pointer (some ⟨g, 0, none⟩)) := ⟨cell_at h.box 0, cell_at h.pd.pa.1 0⟩

theorem CI.drew {w0 W : World} {p g bm0 bm ml mt x B : Nat} {P : PSt} {S : St} {f : Int → Bool} (h : CI w0 W p g bm0 bm ml mt x B P S f) : CI w0 W.drew p g bm0 bm ml mt x B P S f := h.stay ((Fr.refl (fun _ => False) W).drew)

theorem ci_stored {w0 W : World} {p g bm0 bm ml mt x B : Nat} {P : PSt} {S : St} {f : Int → Bool} (h : CI w0 W p g bm0 bm ml mt x B P S f) (n F : Nat) (r : Int) (a b : Int) (ha : a = (n : Int)) (hb : b = (F : Int)) {W' : World}
    (hW : W' = ((((W.setCell ⟨p, 5, none⟩ (.int .i64 a)).setCell ⟨p, 3, none⟩ (.int .i64 r)).setCell ⟨p, 4, none⟩ (.int .i64 b)).setCell ⟨p, 6, none⟩ (.map (some B))).drew) :
    PD W' p g bm B mt { P with gen := n, root := r, from_ := F, live := f } S ∧ W'.heap[x]? = some (.cells #[.pointer (some ⟨p, 0, none⟩)] 29) ∧ Fr (inPD p g bm0 ml mt) w0 W' := by
  subst ha hb hW
  obtain ⟨n1, n2, n3, n4⟩ := h.ne
  obtain ⟨m1, m2, m3⟩ := h.n1
  have hne := h.pd.ne
  have hpa := h.pd.pa
  have hfs : Fr (· = p) W (((((W.setCell ⟨p, 5, none⟩ (.int .i64 (n : Int))).setCell ⟨p, 3, none⟩ (.int .i64 r)).setCell ⟨p, 4, none⟩ (.int .i64 (F : Int))).setCell ⟨p, 6, none⟩ (.map (some B))).drew) :=
    ((((Fr.refl (· = p) W).setCell _ (fun _ => rfl) _).setCell _ (fun _ => rfl) _).setCell _ (fun _ => rfl) _).setCell _ (fun _ => rfl) _ |>.drew
  refine ⟨⟨⟨?_, h.set.keep hfs n1, hpa.2.2.1.keep hfs (fun e => hne.2.2.2.1 e.symm), m3⟩, h.pd.da.keep hfs (fun e => hne.1 e.symm) (fun e => hne.2.1 e.symm) (fun c cur hb e => ?_), fun e => m1 e.symm, h.pd.n2⟩, hfs.at h.box (fun e => n3 (Or.inl e)), h.fr.trans hfs (fun i hi e => Or.inl e)⟩
  · show ((((W.setCell ⟨p, 5, none⟩ (.int .i64 (n : Int))).setCell ⟨p, 3, none⟩ (.int .i64 r)).setCell ⟨p, 4, none⟩ (.int .i64 (F : Int))).setCell ⟨p, 6, none⟩ (.map (some B))).heap[p]? = _
    rw [set_at (set_at (set_at (set_at hpa.1 5 _) 3 _) 4 _) 6 _]
    rfl
  · subst e
    rw [hpa.1] at hb
    injection hb with hb
    injection hb with _ e
    exact absurd e (by decide)

section
variable (w : World) (p g bm ml mt : Nat) (P : PSt) (S : St) (h : PD w p g bm ml mt P S) (root fr : Int) (v : Value) (l : List Int)
include h

set_option maxHeartbeats 8000000 in
set_option maxRecDepth 100000 in
theorem pcommit_go (hS : S.Ok) (hP : P.Ok S.n) (hv : IntsV w v l) (hl : ∀ x ∈ l, -9223372036854775808 ≤ x ∧ x ≤ 9223372036854775807) (hd : P.dead = false) (hm : P.mayCommit root l = true) (hgood : ¬ (fr < 1 ∨ 1152921504606846976 < fr ∨ 1152921504606846976 ≤ P.gen)) : PCommitC w p g bm ml mt P S root fr v l := by
  have HD := hid h
  have HE := hid (show P.commit S root fr l = P.goes S root fr l by unfold PSt.commit; rw [if_neg (by simp [hd]), if_neg (by simp [hm]), if_neg hgood])
  have hp : P.pages ≤ 4096 := hP.p2
  have hf1 : Fr (fun _ => False) w (w.alloc (.cells #[.pointer (some ⟨p, 0, none⟩)] 29)) := (Fr.refl _ w).alloc _
  have hnew := (MapKept.heap_alloc w (.cells #[.pointer (some ⟨p, 0, none⟩)] 29)).1
  obtain ⟨w1, hw1⟩ : ∃ w1, w1 = w.alloc (.cells #[.pointer (some ⟨p, 0, none⟩)] 29) := ⟨_, rfl⟩
  rw [← hw1] at hf1 hnew
  obtain ⟨x, hx⟩ : ∃ x, x = w.heap.size := ⟨_, rfl⟩
  rw [← hx] at hnew
  have HD1 := hid (h.stay hf1)
  have k8 : w1.cell? ⟨p, 8, none⟩ = some (.bool false) := hd ▸ cell_at HD1.out.pa.1 8
  have HSET := hid (set_c w1 v l 68 #[] #[.pointer (some ⟨x, 0, none⟩)] (fun i => P.is i && P.used i) P.pages (hv.stay hf1) hl (may_cl HD1.out hnew) (fun i hi => is_true (by simp at hi; exact hi.1)) hp)
  have HF1 := hid hf1
  have HX := hid hnew
  have hmf : ∀ (fn : Fn) (first cap : Array Value) (w : World), (Instr.makeFunc fn first cap).run Tryz.prog w = .ok (.func fn first cap) w := fun _ _ _ _ => rfl
  have HRT : Hid (-1 ≤ root ∧ root < 4096 ∧ setOk (fun i => P.is i && P.used i) l = true ∧ (root = -1 ∨ l.contains root = true)) := by
    have hm' := hm
    unfold PSt.mayCommit at hm'
    simp only [Bool.and_eq_true, Bool.or_eq_true, decide_eq_true_eq] at hm'
    obtain ⟨h1, h2⟩ := hm'
    have h3 : -1 ≤ root ∧ root < 4096 := by
      rcases h2 with h2 | h2
      · omega
      · have := ((setOk_iff _ l).1 h1).1 root (List.contains_iff_mem.1 h2)
        simp only [Bool.and_eq_true] at this
        have := is_true this.1
        omega
    exact ⟨h3.1, h3.2, h1, h2⟩
  have r1 : -1 ≤ root := HRT.out.1
  have r2 : root < 4096 := HRT.out.2.1
  have HLK := hid (fun (W : World) (b : Nat) (f : Int → Bool) (hs : SetAt W b f) => hs.look root (by omega) (by omega))
  obtain ⟨a, cap, rfl, _⟩ := hv
  obtain ⟨G, hG⟩ : ∃ G : Int, G = (P.gen : Int) := ⟨_, rfl⟩
  obtain ⟨FR, rfl⟩ : ∃ FR : Nat, fr = FR := ⟨fr.toNat, by omega⟩
  obtain ⟨rp, hrp⟩ : ∃ rp : Nat, root + 1 = rp := ⟨(root + 1).toNat, by omega⟩
  have hg1 : G < 1152921504606846976 := by omega
  have hg0 : 0 ≤ G := by omega
  obtain ⟨FI, hFI⟩ : ∃ FI : Int, FI = (FR : Int) := ⟨_, rfl⟩
  have hf0 : 1 ≤ FI := by omega
  have hf2 : FI ≤ 1152921504606846976 := by omega
  have HG := hid hG
  have HRP := hid hrp
  have HFI := hid hFI
  have HHD := hid (fun W : World => show Calls Tryz.prog 52 #[.int .i64 (G + 1), .int .i64 root, .int .i64 FI] W fun e w' => e = .returned (.string (bs (headB (P.gen + 1) rp FR))) ∧ Fr (fun _ => False) W w' from by
    have := head_c W (P.gen + 1) rp FR root hrp (by omega) (by omega) (by omega)
    rw [show ((P.gen + 1 : Nat) : Int) = G + 1 by omega, ← hFI] at this
    exact this)
  have HSO := hid hS
  unfold PCommitC
  rw [HE.out, ← hFI]
  rw [hw1] at k8
  have HW1 := hid hw1
  have HXE := hid hx
  clear h hd hf1 hnew hm hw1 hx hl hG hrp hFI hgood hP hp hS
  go_enter Tryz.func27, Tryz.ntmps27
  go_wp2_with fail
  rw [← HW1.out, ← HXE.out]
  refine HSET.out.mono ?_
  rintro e w2 ⟨hf, h1, h2⟩
  have HF := hid (HF1.out.trans hf (fun _ _ f => f))
  obtain ⟨B, rfl, hB, hBs⟩ := h1 HRT.out.2.2.1
  have hlk := HLK.out _ _ _ hB
  have hfa : Fr (fun _ => False) w2 (w2.alloc (.cells #[] 94)) := (Fr.refl _ w2).alloc _
  have hPD3 := (HD1.out.stay hf).stay hfa
  have hBl : w.heap.size ≤ B := Nat.le_trans HF1.out.size hBs
  have hC : CI w (w2.alloc (.cells #[] 94)) p g bm bm ml mt x B P S (fun i => l.contains i) := by
    have hl := HD.out.lt
    exact ⟨hPD3, hfa.at (hf.at HX.out (fun f => f)) (fun f => f), hB.stay hfa, by omega, ⟨hBl, by rw [HXE.out]; exact Nat.le_refl _⟩, Or.inl rfl, fr_no (HF.out.trans hfa (fun _ _ f => f))⟩
  have HC := hid hC
  obtain ⟨j0, _⟩ := ci_cells hC
  have j5 : (w2.alloc (.cells #[] 94)).cell? ⟨p, 5, none⟩ = some (.int .i64 G) := by rw [HG.out]; exact cell_at hPD3.pa.1 5
  obtain ⟨u, hu⟩ : ∃ u, u = l.contains root := ⟨_, rfl⟩
  rw [← hu] at hlk
  have hru : ((root == -1) = true ∧ (root != -1) = false) ∨ ((root == -1) = false ∧ (root != -1) = true ∧ u = true) := by
    by_cases e : root = -1
    · left; subst e; decide
    · right
      refine ⟨by simpa using e, by simpa using e, ?_⟩
      rcases HRT.out.2.2.2 with h | h
      · exact absurd h e
      · rw [hu]; exact h
  have HRU := hid hru
  obtain ⟨w3, hw3⟩ : ∃ w3, w3 = w2.alloc (.cells #[] 94) := ⟨_, rfl⟩
  have HW3 := hid hw3
  clear hB h1 h2 hu hfa hPD3 hru hf k8 hC hBl hBs hw3
  rw [← HW3.out] at HC
  have HSY := hid (fun (W : World) (bm' : Nat) (hA : At W g bm' S) => sync_c W g bm' S hA HSO.out)
  obtain ⟨R1, hR1⟩ : ∃ R, R = S.sync := ⟨_, rfl⟩
  rw [← hR1] at HSY
  have HSO1 := hid (show R1.1.Ok from hR1 ▸ (sync_ok HSO.out).1)
  obtain ⟨K2, hK2⟩ : ∃ K2 : Nat, K2 = (P.gen + 1) % 2 := ⟨_, rfl⟩
  have HK2 := hid hK2
  have hk2 : K2 < 2 := by omega
  have HWR := hid (fun (W : World) (bm' : Nat) (hA : At W g bm' R1.1) => show Calls Tryz.prog 53 #[.pointer (some ⟨g, 0, none⟩), .int .i64 (K2 : Int), .string (bs (headB (P.gen + 1) rp FR))] W fun e w' => e = .returned (.int .i64 (R1.1.write (K2 : Int) (headB (P.gen + 1) rp FR)).2) ∧ (∃ bm'', At w' g bm'' (R1.1.write (K2 : Int) (headB (P.gen + 1) rp FR)).1 ∧ (bm'' = bm' ∨ W.heap.size ≤ bm'')) ∧ Fr (fun i => i = g ∨ i = bm') W w' from
    write_c W g bm' R1.1 hA HSO1.out (K2 : Int) (by omega) (by omega) _ (by rw [headB_len]; decide))
  obtain ⟨H, hH⟩ : ∃ H, H = headB (P.gen + 1) rp FR := ⟨_, rfl⟩
  rw [← hH] at HWR HHD
  obtain ⟨R2, hR2⟩ : ∃ R, R = R1.1.write (K2 : Int) H := ⟨_, rfl⟩
  rw [← hR2] at HWR
  have HSO2 := hid (show R2.1.Ok from hR2 ▸ (write_ok HSO1.out _ _).1)
  have HSY2 := hid (fun (W : World) (bm' : Nat) (hA : At W g bm' R2.1) => sync_c W g bm' R2.1 hA HSO2.out)
  obtain ⟨R3, hR3⟩ : ∃ R, R = R2.1.sync := ⟨_, rfl⟩
  rw [← hR3] at HSY2
  have HGO := hid (show P.goes S root (FR : Int) l = if R1.2 ≠ 0 then (P.told R1.2, R1.1, R1.2) else if R2.2 ≠ 0 then (P.told R2.2, R2.1, R2.2) else if R3.2 ≠ 0 then (P.told R3.2, R3.1, R3.2)
      else ({ P with gen := P.gen + 1, root := root, from_ := FR, live := fun i => l.contains i, taken := fun _ => false }, R3.1, 0) by
    have e1 : P.head S.sync.1 root (FR : Int) = R2 := by
      unfold PSt.head
      rw [hR2, hR1, hH, hK2, show (root + 1).toNat = rp by have := HRP.out; omega, Int.toNat_natCast]
    unfold PSt.goes
    rw [e1, ← hR1, ← hR3, Int.toNat_natCast])
  have x5 : IntKind.i64.wrap (K2 : Int) = K2 := by rw [IntKind.wrap_i64]; omega
  have x6 : (G + 1) % 2 = (K2 : Int) := by have := HG.out; omega
  have x7 : Int.tmod (G + 1) 2 = (K2 : Int) := by rw [Int.tmod_eq_emod_of_nonneg (by omega)]; exact x6
  have d1 : decide (FI < 1) = false := decide_eq_false (by omega)
  have d2 : decide (1152921504606846976 < FI) = false := decide_eq_false (by omega)
  have d3 : decide (1152921504606846976 ≤ G) = false := decide_eq_false (by omega)
  clear hR1 hR2 hR3 hH hK2
  rcases HRU.out with ⟨e1, e2⟩ | ⟨e1, e2, rfl⟩
  all_goals
    go_wp2_with fail
    rw [← HW3.out]
    have hC0 := HC.out.drew
    go_region_held3 (fun w' => w'.cell? ⟨x, 0, none⟩ = some (.pointer (some ⟨p, 0, none⟩)) ∧ w'.cell? ⟨p, 0, none⟩ = some (.pointer (some ⟨g, 0, none⟩)))
      (first | exact ci_cells hC0 | exact ci_cells hC4 | exact ci_cells hC5 | exact ci_cells (by assumption) | go_keep)
      (first
        | (go_at_call 54; refine (HSY.out _ _ hC0.pd.da).mono ?_; rintro e w4 ⟨rfl, ⟨bm4, hA4, hb4⟩, hf4⟩; have hC4 := hC0.dturn hA4 hb4 hf4)
        | (go_at_call 63; refine (ptold_d _ p g bm4 ml mt P R1.1 hC4.pd R1.2).mono ?_; rintro e w5 ⟨rfl, hD5, hf5⟩; have hC5 := hC4.pturn hD5 hf5))
    have HC5 := hid hC5
    rename_i hHeld
    clear hHeld hC5 hC4 hC0 hf4 hf5 hA4 hb4 hD5 j0 j5
    obtain ⟨c1, hc1⟩ : ∃ c1, c1 = R1.2 := ⟨_, rfl⟩
    rw [← hc1] at HC5 HGO ⊢
    have HC1 := hid hc1
    clear hc1
    by_cases z1 : c1 = 0
    rotate_left
    · have q : (c1 == 0) = false := by simpa using z1
      have q2 : (c1 != 0) = true := by simpa using z1
      have HZ := hid (show P.goes S root (FR : Int) l = (P.told c1, R1.1, c1) by rw [HGO.out, if_pos z1])
      clear z1
      go_wp2_with fail
      go_ret
      rw [HFI.out, HZ.out]
      exact ⟨rfl, HC5.out.turned⟩
    have hc5 := HC5.out
    have hgo := HGO.out
    rw [z1, told_zero] at hc5
    rw [if_neg (by simp [z1])] at hgo
    subst z1
    have HC6 := hid hc5
    have HGO2 := hid hgo
    obtain ⟨i0, _⟩ := ci_cells hc5
    have i5 : w5.cell? ⟨p, 5, none⟩ = some (.int .i64 G) := by rw [HG.out]; exact cell_at hc5.pd.pa.1 5
    have hC6 := hc5.drew
    clear hc5 hgo HC5 HGO
    go_wp2_with fail
    go_region_held3 (fun w' => w'.cell? ⟨x, 0, none⟩ = some (.pointer (some ⟨p, 0, none⟩)) ∧ w'.cell? ⟨p, 0, none⟩ = some (.pointer (some ⟨g, 0, none⟩)))
      (first | exact ci_cells hC6 | exact ci_cells hC7 | exact ci_cells hC8 | exact ci_cells hC9 | exact ci_cells (by assumption) | go_keep)
      (first
        | (go_at_call 52; refine (HHD.out _).mono ?_; rintro e w7 ⟨rfl, hf7⟩; have hC7 := hC6.stay hf7)
        | (go_at_call 53; refine (HWR.out _ _ hC7.pd.da).mono ?_; rintro e w8 ⟨rfl, ⟨bm8, hA8, hb8⟩, hf8⟩; have hC8 := hC7.dturn hA8 hb8 hf8)
        | (go_at_call 63; refine (ptold_d _ p g bm8 ml mt P R2.1 hC8.pd R2.2).mono ?_; rintro e w9 ⟨rfl, hD9, hf9⟩; have hC9 := hC8.pturn hD9 hf9))
    have HC9 := hid hC9
    rename_i hHeld
    clear hHeld hC6 hC7 hC8 hC9 hf7 hf8 hf9 hA8 hb8 hD9 i0 i5
    obtain ⟨c2, hc2⟩ : ∃ c2, c2 = R2.2 := ⟨_, rfl⟩
    rw [← hc2] at HC9 HGO2 ⊢
    have HC2 := hid hc2
    clear hc2
    by_cases z2 : c2 = 0
    rotate_left
    · have q : (c2 == 0) = false := by simpa using z2
      have q2 : (c2 != 0) = true := by simpa using z2
      have HZ := hid (show P.goes S root (FR : Int) l = (P.told c2, R2.1, c2) by rw [HGO2.out, if_pos z2])
      clear z2
      go_wp2_with fail
      go_ret
      rw [HFI.out, HZ.out]
      exact ⟨rfl, HC9.out.turned⟩
    have hc9 := HC9.out
    have hgo := HGO2.out
    rw [z2, told_zero] at hc9
    rw [if_neg (by simp [z2])] at hgo
    subst z2
    have HC10 := hid hc9
    have HGO3 := hid hgo
    have hC10 := hc9.drew
    clear hc9 hgo HC9 HGO2
    go_wp2_with fail
    go_region_held3 (fun w' => w'.cell? ⟨x, 0, none⟩ = some (.pointer (some ⟨p, 0, none⟩)) ∧ w'.cell? ⟨p, 0, none⟩ = some (.pointer (some ⟨g, 0, none⟩)))
      (first | exact ci_cells hC10 | exact ci_cells hC11 | exact ci_cells hC12 | exact ci_cells (by assumption) | go_keep)
      (first
        | (go_at_call 54; refine (HSY2.out _ _ hC10.pd.da).mono ?_; rintro e w11 ⟨rfl, ⟨bm11, hA11, hb11⟩, hf11⟩; have hC11 := hC10.dturn hA11 hb11 hf11)
        | (go_at_call 63; refine (ptold_d _ p g bm11 ml mt P R3.1 hC11.pd R3.2).mono ?_; rintro e w12 ⟨rfl, hD12, hf12⟩; have hC12 := hC11.pturn hD12 hf12))
    have HC12 := hid hC12
    rename_i hHeld
    clear hHeld hC10 hC11 hC12 hf11 hf12 hA11 hb11 hD12
    obtain ⟨c3, hc3⟩ : ∃ c3, c3 = R3.2 := ⟨_, rfl⟩
    rw [← hc3] at HC12 HGO3 ⊢
    have HC3 := hid hc3
    clear hc3
    by_cases z3 : c3 = 0
    rotate_left
    · have q : (c3 == 0) = false := by simpa using z3
      have q2 : (c3 != 0) = true := by simpa using z3
      have HZ := hid (show P.goes S root (FR : Int) l = (P.told c3, R3.1, c3) by rw [HGO3.out, if_pos z3])
      clear z3
      go_wp2_with fail
      go_ret
      rw [HFI.out, HZ.out]
      exact ⟨rfl, HC12.out.turned⟩
    have hc12 := HC12.out
    have hgo := HGO3.out
    rw [z3, told_zero] at hc12
    rw [if_neg (by simp [z3])] at hgo
    subst z3
    have HC13 := hid hc12
    have HGO4 := hid hgo
    obtain ⟨i0, _⟩ := ci_cells hc12
    have i3 : w12.cell? ⟨p, 3, none⟩ = some (.int .i64 P.root) := cell_at hc12.pd.pa.1 3
    have i4 : w12.cell? ⟨p, 4, none⟩ = some (.int .i64 P.from_) := cell_at hc12.pd.pa.1 4
    have i5 : w12.cell? ⟨p, 5, none⟩ = some (.int .i64 P.gen) := cell_at hc12.pd.pa.1 5
    have i6 : w12.cell? ⟨p, 6, none⟩ = some (.map (some ml)) := cell_at hc12.pd.pa.1 6
    have f3 : w12.frozen? ⟨p, 3, none⟩ = false := frozen_at hc12.pd.pa.1 3
    have f4 : w12.frozen? ⟨p, 4, none⟩ = false := frozen_at hc12.pd.pa.1 4
    have f5 : w12.frozen? ⟨p, 5, none⟩ = false := frozen_at hc12.pd.pa.1 5
    have f6 : w12.frozen? ⟨p, 6, none⟩ = false := frozen_at hc12.pd.pa.1 6
    have hxp : ¬ (x = p) := fun e => hc12.ne.2.2.1 (Or.inl e)
    clear hc12 hgo HC12 HGO3
    go_wp2_with fail
    go_region
    obtain ⟨w13, hw13⟩ : ∃ w13, w13 = ((((w12.setCell ⟨p, 5, none⟩ (.int .i64 (G + 1))).setCell ⟨p, 3, none⟩ (.int .i64 root)).setCell ⟨p, 4, none⟩ (.int .i64 FI)).setCell ⟨p, 6, none⟩ (.map (some B))).drew := ⟨_, rfl⟩
    rw [← hw13]
    obtain ⟨hP13, hX13, hF13⟩ := ci_stored HC13.out (P.gen + 1) FR root (G + 1) FI (by have := HG.out; omega) HFI.out hw13
    have HP13 := hid hP13
    have HF13 := hid hF13
    have HDR := hid (pdrop_c w13 p g bm11 B mt _ R3.1 hP13)
    have i0 : w13.cell? ⟨x, 0, none⟩ = some (.pointer (some ⟨p, 0, none⟩)) := cell_at hX13 0
    clear hP13 hF13 hX13 hw13 i3 i4 i5 i6 f3 f4 f5 f6 hxp
    go_wp2_with fail
    refine HDR.out.mono ?_
    rintro e w14 ⟨rfl, hP14, hF14⟩
    go_wp2_with fail
    go_ret
    rw [HFI.out, HGO4.out]
    refine ⟨rfl, bm11, B, hP14, HC13.out.bml, Or.inr HC13.out.low.1, HF13.out.trans hF14 (fun i hi e => ?_)⟩
    unfold inPD
    omega

theorem pcommit_c (hS : S.Ok) (hP : P.Ok S.n) (hv : IntsV w v l) (hl : ∀ x ∈ l, -9223372036854775808 ≤ x ∧ x ≤ 9223372036854775807) (r1 : -9223372036854775808 ≤ root) (r2 : root ≤ 9223372036854775807) : PCommitC w p g bm ml mt P S root fr v l := by
  cases hd : P.dead with
  | true => exact pcommit_dead w p g bm ml mt P S h root fr v l hd
  | false =>
    cases hm : P.mayCommit root l with
    | false => exact pcommit_not w p g bm ml mt P S h root fr v l hP.p2 hv hl r1 r2 hd hm
    | true =>
      by_cases hb : fr < 1 ∨ 1152921504606846976 < fr ∨ 1152921504606846976 ≤ P.gen
      · exact pcommit_form w p g bm ml mt P S h root fr v l hP.p2 hv hl r1 r2 hd hm hb
      · exact pcommit_go w p g bm ml mt P S h root fr v l hS hP hv hl hd hm hb
end

end Go.Proofs.YtjkhcfdflcndkaaGreat.D
