/-
  stands. No condition beyond the sizes that are named.
-/
import Derived.Test.YtjkhcfdflcndkaaGV
namespace Go.Proofs.Ytjkhcfdflcndkaa.D
open Go.RowKit Go.Maps Go.Shelf
set_option linter.unusedVariables false
set_option linter.unusedSimpArgs false

theorem stands_not {P : PSt} {S : St} {L : Lst} (h : ¬ (liveOk P S L.pages = true ∧ P.root = L.root ∧ (P.from_ : Int) = L.fr ∧ liveL P S L.pages = L.bytes)) : standsP P S L = false := by
  rw [Bool.eq_false_iff]
  intro hs
  unfold standsP at hs
  simp only [Bool.and_eq_true, decide_eq_true_eq] at hs
  exact h ⟨hs.1.1.1, hs.1.1.2, hs.1.2, hs.2⟩
theorem stands_yes {P : PSt} {S : St} {L : Lst} (h1 : liveOk P S L.pages = true) (h2 : P.root = L.root) (h3 : (P.from_ : Int) = L.fr) (h4 : liveL P S L.pages = L.bytes) : standsP P S L = true := by
  unfold standsP
  simp only [Bool.and_eq_true, decide_eq_true_eq]
  exact ⟨⟨⟨h1, h2⟩, h3⟩, h4⟩

set_option maxHeartbeats 8000000 in
set_option maxRecDepth 100000 in
theorem stands_c (w : World) (p g bm ml mt : Nat) (P : PSt) (S : St) (h : PD w p g bm ml mt P S) (hS : S.Ok) (hP : P.Ok S.n) (L : Lst) (vp vb : Value) (hv : IntsV w vp L.pages) (hb : TV w vb L.bytes) (hl : L.pages.length ≤ 1099511627776) :
    Calls Try.prog 18 #[.pointer (some ⟨p, 0, none⟩), .agg #[.int .i64 L.root, .int .i64 L.fr, vp, vb]] w fun e w' => e = .returned (.bool (standsP P S L)) ∧ Fr (fun _ => False) w w' := by
  obtain ⟨rt, fr, pgs, by_⟩ := L
  simp only at hv hb hl ⊢
  obtain ⟨x, hx⟩ : ∃ x, x = w.heap.size := ⟨_, rfl⟩
  have hf1 : Fr (fun _ => False) w (w.alloc (.cells #[.int .i64 rt, .int .i64 fr, vp, vb] 42)) := (Fr.refl _ w).alloc _
  have hnew := (MapKept.heap_alloc w (.cells #[.int .i64 rt, .int .i64 fr, vp, vb] 42)).1
  obtain ⟨w1, hw1⟩ : ∃ w1, w1 = w.alloc (.cells #[.int .i64 rt, .int .i64 fr, vp, vb] 42) := ⟨_, rfl⟩
  rw [← hw1] at hf1 hnew
  rw [← hx] at hnew
  have HLV := hid (live_c w1 p g bm ml mt P S (h.stay hf1) hS hP vp pgs (hv.stay hf1) hl)
  have HF1 := hid hf1
  have HX1 := hid hnew
  have HD1 := hid (h.stay hf1)
  have HTB := hid (hb.stay hf1)
  have HW1 := hid hw1
  have HXE := hid hx
  have k2 : w1.cell? ⟨x, 2, none⟩ = some vp := cell_at hnew 2
  rw [hw1, hx] at k2
  obtain ⟨ap, cpp, rfl, _, _⟩ := hv
  obtain ⟨ab, cpb, rfl, hbl, _⟩ := hb
  clear h hS hP hf1 hnew hw1 hx
  go_enter Try.func18, Try.ntmps18
  go_wp2_with fail
  rw [← HW1.out, ← HXE.out]
  refine HLV.out.mono ?_
  rintro e w2 ⟨hf2, h1, h2⟩
  have HF2 := hid (HF1.out.trans hf2 (fun _ _ f => f))
  have HX2 := hid (hf2.at HX1.out (fun f => f))
  have HD2 := hid (HD1.out.stay hf2)
  have HTB2 := hid (HTB.out.stay hf2)
  have H1 := hid h1
  have H2 := hid h2
  clear hf2 h1 h2 k2
  have k0 : w2.cell? ⟨x, 0, none⟩ = some (.int .i64 rt) := cell_at HX2.out 0
  have k1 : w2.cell? ⟨x, 1, none⟩ = some (.int .i64 fr) := cell_at HX2.out 1
  have k3 : w2.cell? ⟨x, 3, none⟩ = some (.slice ab by_.length cpb) := cell_at HX2.out 3
  have HRT := hid (fun q => show Calls Try.prog 24 #[.pointer (some ⟨p, 0, none⟩)] (w2.drewN q) fun e w' => e = .returned (.int .i64 P.root) ∧ w' = w2.drewN q from root_c (w2.drewN q) p g ml mt P (HD2.out.stay fr_drewN).pa)
  obtain ⟨F, hF⟩ : ∃ F : Int, F = (P.from_ : Int) := ⟨_, rfl⟩
  have HFM := hid (fun q => show Calls Try.prog 25 #[.pointer (some ⟨p, 0, none⟩)] (w2.drewN q) fun e w' => e = .returned (.int .i64 F) ∧ w' = w2.drewN q from hF ▸ from_c (w2.drewN q) p g ml mt P (HD2.out.stay fr_drewN).pa)
  have HF := hid hF
  clear hF
  cases hok : liveOk P S pgs with
  | false =>
    have HE := hid (show standsP P S ⟨rt, fr, pgs, by_⟩ = false from stands_not (fun h => by rw [hok] at h; cases h.1))
    have he := H2.out hok
    subst he
    clear hok
    go_wp2_with fail
    go_quiet (first | fail)
    go_wp2_with fail
    go_ret
    rw [HE.out]
    exact ⟨rfl, HF2.out.trans fr_drewN (fun _ _ f => f)⟩
  | true =>
    obtain ⟨v, rfl, hT⟩ := H1.out hok
    have HOK := hid hok
    have hnl : (liveL P S pgs).length ≤ 9223372036854775807 := by unfold liveL; rw [List.length_map]; omega
    have HTV := hid (hT.tv hnl)
    obtain ⟨av, cv, rfl, _, _⟩ := hT.tv hnl
    clear hok hT
    by_cases c1 : P.root = rt
    rotate_left
    · have HE := hid (show standsP P S ⟨rt, fr, pgs, by_⟩ = false from stands_not (fun h => c1 h.2.1))
      have q : (P.root == rt) = false := by simpa using c1
      have q2 : (P.root != rt) = true := by simpa using c1
      clear c1
      go_wp2_with fail
      go_quiet (first | (go_at_call 24; exact Calls.quiet_of_same (HRT.out _)) | (go_at_call 25; exact Calls.quiet_of_same (HFM.out _)))
      go_wp2_with fail
      go_ret
      rw [HE.out]
      exact ⟨rfl, HF2.out.trans fr_drewN (fun _ _ f => f)⟩
    have q1 : (P.root == rt) = true := by simpa using c1
    have q1' : (P.root != rt) = false := by simpa using c1
    by_cases c2 : F = fr
    rotate_left
    · have HE := hid (show standsP P S ⟨rt, fr, pgs, by_⟩ = false from stands_not (fun h => c2 (HF.out.trans h.2.2.1)))
      have q : (F == fr) = false := by simpa using c2
      have q2 : (F != fr) = true := by simpa using c2
      clear c2 c1
      go_wp2_with fail
      go_quiet (first | (go_at_call 24; exact Calls.quiet_of_same (HRT.out _)) | (go_at_call 25; exact Calls.quiet_of_same (HFM.out _)))
      go_wp2_with fail
      go_ret
      rw [HE.out]
      exact ⟨rfl, HF2.out.trans fr_drewN (fun _ _ f => f)⟩
    have q2 : (F == fr) = true := by simpa using c2
    have q2' : (F != fr) = false := by simpa using c2
    obtain ⟨A, hA⟩ : ∃ A, A = liveL P S pgs := ⟨_, rfl⟩
    rw [← hA] at HTV ⊢
    have HA := hid hA
    have HC := hid (And.intro c1 c2)
    clear hA c1 c2
    by_cases c3 : A.length = by_.length
    rotate_left
    · have HE := hid (show standsP P S ⟨rt, fr, pgs, by_⟩ = false from stands_not (fun h => c3 (by rw [HA.out, h.2.2.2])))
      have q : ((A.length : Int) == (by_.length : Int)) = false := by rw [Bool.eq_false_iff]; intro e; simp at e; omega
      have q3 : ((A.length : Int) != (by_.length : Int)) = true := by simp; omega
      clear c3
      go_wp2_with fail
      go_quiet (first | (go_at_call 24; exact Calls.quiet_of_same (HRT.out _)) | (go_at_call 25; exact Calls.quiet_of_same (HFM.out _)))
      go_wp2_with fail
      go_ret
      rw [HE.out]
      exact ⟨rfl, HF2.out.trans fr_drewN (fun _ _ f => f)⟩
    have q3 : ((A.length : Int) == (by_.length : Int)) = true := by simp [c3]
    have q3' : ((A.length : Int) != (by_.length : Int)) = false := by simp [c3]
    obtain ⟨n, hn⟩ : ∃ n, n = A.length := ⟨_, rfl⟩
    have hn2 : by_.length = n := by omega
    rw [hn2] at q3 q3' k3 hbl
    rw [← hn] at q3 q3' ⊢
    have HL := hid (And.intro hn hn2)
    clear c3 hn hn2
    go_wp2_with fail
    go_quiet (first | (go_at_call 24; exact Calls.quiet_of_same (HRT.out _)) | (go_at_call 25; exact Calls.quiet_of_same (HFM.out _)))
    have HF3 := hid (HF2.out.trans fr_drewN (fun _ _ f => f) : Fr (fun _ => False) w (w2.drewN nq))
    have HX3 := hid (show (w2.drewN nq).heap[x]? = _ from HX2.out)
    have HTV3 := hid (HTV.out.stay (fr_drewN (n := nq)))
    have HTB3 := hid (HTB2.out.stay (fr_drewN (n := nq)))
    obtain ⟨w3, hw3⟩ : ∃ w3, w3 = w2.drewN nq := ⟨_, rfl⟩
    rw [← hw3] at HF3 HX3 HTV3 HTB3 ⊢
    clear hw3 k0 k1 k3 HTV HTB HTB2 HX2 HX1
    go_wp2_with fail
    go_loopw [7] (fun v wr => ∃ k : Nat, v = .int .i64 k ∧ k ≤ n ∧ Hid (∀ j, j < k → A.getD j [] = by_.getD j []) ∧ Hid (Fr (fun _ => False) w3 wr)) (fun v _ => n - (intOf v).toNat)
    case atStart => exact ⟨0, rfl, by omega, hid (fun j hj => by omega), hid (Fr.refl _ _)⟩
    case round =>
      obtain ⟨k, rfl, hk, HE, HFr⟩ := hrel
      by_cases hend : k = n
      · have HX := hid (show A = by_ from list_ext_getD (by have := HL.out; omega) (fun j hj => HE.out j (by have := HL.out; omega)))
        have HZ := hid (show standsP P S ⟨rt, fr, pgs, by_⟩ = true from stands_yes HOK.out HC.out.1 (HF.out.symm.trans HC.out.2) (HA.out.symm.trans HX.out))
        subst hend
        go_wp2_with fail
        go_ret
        rw [HZ.out]
        exact ⟨rfl, HF3.out.trans HFr.out (fun _ _ f => f)⟩
      · have hk' : k < n := by omega
        obtain ⟨p1, c1, e1, _, gg1⟩ := HTV3.out
        injection e1 with e1 z1 z2
        subst e1
        clear z1 z2
        obtain ⟨p2, c2, e2, _, gg2⟩ := HTB3.out
        injection e2 with e2 z1 z2
        subst e2
        clear z1 z2
        obtain ⟨b1, o1, rfl, g1⟩ : ∃ b o, av = some ⟨b, o, none⟩ ∧ ∀ j, j < A.length → w3.cell? ⟨b, o + j, none⟩ = some (.string (bs (A.getD j []))) := by
          rcases gg1 with h | h
          · have := HL.out; rw [h] at this; simp at this; omega
          · exact h
        obtain ⟨b2, o2, rfl, g2⟩ : ∃ b o, ab = some ⟨b, o, none⟩ ∧ ∀ j, j < by_.length → w3.cell? ⟨b, o + j, none⟩ = some (.string (bs (by_.getD j []))) := by
          rcases gg2 with h | h
          · have := HL.out; rw [h] at this; simp at this; omega
          · exact h
        obtain ⟨s, hs⟩ : ∃ s, s = A.getD k [] := ⟨_, rfl⟩
        obtain ⟨t, ht⟩ : ∃ t, t = by_.getD k [] := ⟨_, rfl⟩
        have d1 : wr.cell? ⟨b1, o1 + k, none⟩ = some (.string (bs s)) := hs ▸ cells_stay2 HFr.out (g1 k (by have := HL.out; omega))
        have d2 : wr.cell? ⟨b2, o2 + k, none⟩ = some (.string (bs t)) := ht ▸ cells_stay2 HFr.out (g2 k (by have := HL.out; omega))
        have k3 : wr.cell? ⟨x, 3, none⟩ = some (.slice (some ⟨b2, o2, none⟩) n cpb) := by
          rw [cell_at (HFr.out.at HX3.out (fun f => f)) 3, ← HL.out.2]
          rfl
        by_cases hxy : s = t
        · have HS := hid (show ∀ j, j < k + 1 → A.getD j [] = by_.getD j [] from fun j hj => by
            by_cases e : j = k
            · subst e; rw [← hs, ← ht, hxy]
            · exact HE.out j (by omega))
          have qq : (s == t) = true := by simpa using hxy
          have qq2 : (!s == t) = false := by rw [qq]; rfl
          clear g1 g2 gg1 gg2 hs ht hxy hend
          go_wp2_with fail
          go_quiet (fail)
          go_wp2_with fail
          go_roundw
          case rel => exact ⟨k + 1, by go_num, by omega, HS, hid (HFr.out.trans fr_drewN (fun _ _ f => f))⟩
          case measure => simp [intOf]; omega
        · have HX := hid (show A ≠ by_ from fun e => hxy (by rw [hs, ht, e]))
          have HZ := hid (show standsP P S ⟨rt, fr, pgs, by_⟩ = false from stands_not (fun h => HX.out (HA.out.trans h.2.2.2)))
          have qq : (s == t) = false := by simpa using hxy
          have qq2 : (!s == t) = true := by rw [qq]; rfl
          clear g1 g2 gg1 gg2 hs ht hxy hend
          go_wp2_with fail
          go_quiet (fail)
          go_wp2_with fail
          go_ret
          rw [HZ.out]
          exact ⟨rfl, (HF3.out.trans HFr.out (fun _ _ f => f)).trans fr_drewN (fun _ _ f => f)⟩

end Go.Proofs.Ytjkhcfdflcndkaa.D
