/-
  The document's pager: Open. No condition beyond the sizes that are named.
-/
import Derived.Test.YtjkhcfdflcndkaaGreatKO29
namespace Go.Proofs.YtjkhcfdflcndkaaGreat.D
open Go.RowKit Go.Maps Go.Shelf
set_option linter.unusedVariables false
set_option linter.unusedSimpArgs false

def ROpenPost (w : World) (m b1 b2 : Nat) (S : St) (f c : Int) (e : Ending) (w' : World) : Prop :=
  Fr (fun _ => False) w w' ∧ (∀ P, (openP S f c).1 = some P → ∃ q ub, e = .returned (.tuple #[.pointer (some ⟨q, 0, none⟩), .int .i64 0]) ∧ RPD w' q m ub b1 b2 P S ∧ w.heap.size ≤ q ∧ w.heap.size ≤ ub) ∧
    ((openP S f c).1 = none → e = .returned (.tuple #[.pointer none, .int .i64 (openP S f c).2]))
def ROpenC (w : World) (m b1 b2 : Nat) (S : St) (f c : Int) : Prop := Calls Tryz.prog 7 #[.pointer (some ⟨m, 0, none⟩), .int .i64 f, .int .i64 c] w (ROpenPost w m b1 b2 S f c)

set_option maxRecDepth 100000 in
theorem rpopen_bad (w : World) (m b1 b2 : Nat) (S : St) (h : RA w m b1 b2 S) (hs : S.Ok) (f c : Int) (hf : -9223372036854775808 ≤ f) (hf2 : f ≤ 9223372036854775807) (he : pchk S f c 1 ≠ 0) : ROpenC w m b1 b2 S f c := by
  have HC := hid (rform_c w m b1 b2 S h hs f c 1 hf hf2)
  have HE := hid (show openP S f c = (none, pchk S f c 1) by unfold openP; rw [if_pos he])
  unfold ROpenC
  clear h hs
  obtain ⟨C, hC⟩ : ∃ C, C = pchk S f c 1 := ⟨_, rfl⟩
  rw [← hC] at HC HE he
  have q : (C == 0) = false := by simpa using he
  have q2 : (C != 0) = true := by simpa using he
  clear hC he
  go_enter Tryz.func7, Tryz.ntmps7
  go_wp2_with fail
  refine HC.out.mono ?_
  rintro e w2 ⟨rfl, rfl⟩
  go_wp2_with fail
  go_ret2
  refine ⟨Fr.refl _ _, fun P hP => ?_, fun _ => ?_⟩
  · rw [HE.out] at hP; cases hP
  · rw [HE.out]; rfl

theorem pick_bad {S : St} {N i : Nat} (h : ¬ headOk N i (S.sec i) = true) : pickTo S N (i + 1) = pickTo S N i := by
  show better (pickTo S N i) (parseP N i (S.sec i)) = _
  rw [parse_bad h]
  unfold better
  rw [if_neg (by simp)]
theorem num4 (l : List UInt8) : numP (l.take 4) = (val (l.take 4) : Int) := by
  rcases num_cases (l.take 4) with h | ⟨_, h⟩
  · exact h
  · have := val4 l; omega

def rpc (m F N ub : Nat) (h : Nat × Int × Nat) : Array Value := #[.pointer (some ⟨m, 0, none⟩), .int .i64 F, .int .i64 N, .int .i64 h.2.1, .int .i64 h.2.2, .int .i64 h.1, .slice (some ⟨ub, 0, none⟩) N N, .bool false]

set_option maxHeartbeats 16000000 in
set_option maxRecDepth 100000 in
theorem rpopen_go (w : World) (m b1 b2 : Nat) (S : St) (h : RA w m b1 b2 S) (hs : S.Ok) (f c : Int) (hf : -9223372036854775808 ≤ f) (hf2 : f ≤ 9223372036854775807) (he : pchk S f c 1 = 0) : ROpenC w m b1 b2 S f c := by
  have HC := hid (rform_c w m b1 b2 S h hs f c 1 hf hf2)
  rw [he] at HC
  obtain ⟨p1, p2, p3, p4, p5, p6, p7⟩ := pchk_ok he
  obtain ⟨F, rfl⟩ : ∃ F : Nat, f = F := ⟨f.toNat, by omega⟩
  obtain ⟨N, rfl⟩ : ∃ N : Nat, c = N := ⟨c.toNat, by omega⟩
  have hN : N ≤ 4096 := by omega
  have hmi := mk_ints N hN w
  have HZU := hid (zeros_use w N)
  have HA := hid h
  have HS2 := hid hs
  have h2n : 2 ≤ S.n := by omega
  have HE := hid (show openP S (F : Int) (N : Int) = if (pickTo S N 2).1 = 0 then (none, 190) else (some (PSt.of F N (pickTo S N 2)), 0) by
    unfold openP
    rw [if_neg (by rw [he]; decide), pickTo_two]
    simp only [Int.toNat_natCast])
  have hz : (w.alloc (.cells (Array.replicate N (.int .i64 0)) 3)).heap.size = w.heap.size + 1 := by simp
  have hfa : Fr (fun _ => False) w (w.alloc (.cells (Array.replicate N (.int .i64 0)) 3)) := (Fr.refl _ w).alloc _
  have hq1 := (MapKept.heap_alloc (w.alloc (.cells (Array.replicate N (.int .i64 0)) 3)) (.cells (rpc m F N w.heap.size (0, 0, 0)) 40)).1
  rw [hz] at hq1
  have HQ0 := hid hq1
  have HF0 := hid (hfa.alloc (.cells (rpc m F N w.heap.size (0, 0, 0)) 40))
  have HU0 := hid (HZU.out.keep ((Fr.refl (fun _ => False) (w.alloc (.cells (Array.replicate N (.int .i64 0)) 3))).alloc (.cells (rpc m F N w.heap.size (0, 0, 0)) 40)) (fun f => f))
  unfold ROpenC
  clear h hs he p1 p2 p3 p4 p5 p6 p7 hz hfa hq1 HZU
  go_enter Tryz.func7, Tryz.ntmps7
  go_wp2_with fail
  refine HC.out.mono ?_
  rintro e w2 ⟨rfl, rfl⟩
  go_wp2_with fail
  obtain ⟨B, hB⟩ : ∃ B, B = w2.heap.size := ⟨_, rfl⟩
  have HB := hid hB
  rw [← hB] at HQ0 HF0 HU0 ⊢
  clear hB hmi
  go_loopw [10] (fun v10 wr => ∃ i : Nat, v10 = .int .i64 i ∧ i ≤ 2 ∧ Hid (wr.heap[B + 1]? = some (.cells (rpc m F N B (pickTo S N i)) 40) ∧ UseAt wr B N (fun _ => 0)) ∧ Hid (Fr (fun _ => False) w2 wr)) (fun v _ => 2 - (intOf v).toNat)
  case atStart => exact ⟨0, rfl, by omega, hid ⟨HQ0.out, HU0.out⟩, HF0⟩
  case round =>
    obtain ⟨i, rfl, hi, HQ, HF⟩ := hrel
    have c5 : wr.cell? ⟨B + 1, 5, none⟩ = some (.int .i64 (pickTo S N i).1) := cell_at HQ.out.1 5
    have hpl := pick_le S N i
    by_cases hend : i = 2
    · subst hend
      obtain ⟨g, hg⟩ : ∃ g, g = (pickTo S N 2).1 := ⟨_, rfl⟩
      rw [← hg] at c5 hpl HE
      by_cases hg0 : g = 0
      · have HZ := hid (show openP S (F : Int) (N : Int) = (none, 190) by rw [HE.out, if_pos hg0])
        subst hg0
        clear hg
        go_wp2_with fail
        go_ret2
        refine ⟨HF.out, fun P hP => ?_, fun _ => ?_⟩
        · rw [HZ.out] at hP; cases hP
        · rw [HZ.out]; rfl
      · have HZ := hid (show openP S (F : Int) (N : Int) = (some (PSt.of F N (pickTo S N 2)), 0) by rw [HE.out, if_neg hg0])
        have q : ((g : Int) == 0) = false := by rw [Bool.eq_false_iff]; intro e; simp at e; exact hg0 e
        have HG := hid hg
        clear hg hg0
        go_wp2_with fail
        go_ret2
        refine ⟨HF.out, fun P hP => ?_, fun h0 => ?_⟩
        · rw [HZ.out] at hP
          injection hP with hP
          subst hP
          refine ⟨B + 1, B, rfl, ⟨⟨⟨N, ?_⟩, ?_⟩, RC.stay HA.out HF.out⟩, by have := HB.out; omega, by have := HB.out; omega⟩
          · rw [HQ.out.1]
            rfl
          · exact HQ.out.2.congr (fun j hj => by simp [useOf, PSt.of, none_])
        · rw [HZ.out] at h0; cases h0
    · have hi' : i < 2 := by omega
      have HSEC := hid (rsec_c wr m b1 b2 S (RC.stay HA.out HF.out) HS2.out i (by omega))
      have hl64 := sec_length HS2.out (i := i) (by omega)
      obtain ⟨s, hs⟩ : ∃ s, s = S.sec i := ⟨_, rfl⟩
      rw [← hs] at HSEC hl64
      have HSS := hid hs
      obtain ⟨G, hG⟩ : ∃ G : Int, G = numP ((s.drop 4).take 8) := ⟨_, rfl⟩
      obtain ⟨R, hR⟩ : ∃ R : Int, R = numP ((s.drop 12).take 4) := ⟨_, rfl⟩
      obtain ⟨F1, hF1⟩ : ∃ F1 : Int, F1 = numP ((s.drop 16).take 8) := ⟨_, rfl⟩
      have hGc : (G = (gOf s : Int)) ∨ (G = -1 ∧ 1152921504606846976 < gOf s) := by rw [hG]; exact num_cases _
      have hRc : R = (rOf s : Int) := by rw [hR]; exact num4 _
      have hFc : (F1 = (fOf s : Int)) ∨ (F1 = -1 ∧ 1152921504606846976 < fOf s) := by rw [hF1]; exact num_cases _
      have hR4 : rOf s < 4294967296 := val4 _
      have R0 : 0 ≤ R := by omega
      have R1 : R < 4294967296 := by omega
      obtain ⟨s1, hs1⟩ : ∃ s1, s1 = (s.drop 4).take 8 := ⟨_, rfl⟩
      obtain ⟨s2, hs2⟩ : ∃ s2, s2 = (s.drop 12).take 4 := ⟨_, rfl⟩
      obtain ⟨s3, hs3⟩ : ∃ s3, s3 = (s.drop 16).take 8 := ⟨_, rfl⟩
      have sl1 : ∀ W, (Instr.slice 9 (.string (bs s)) (some (.int .i64 4)) (some (.int .i64 12)) none).run Tryz.prog W = .ok (.string (bs s1)) W := fun W => by
        rw [hs1]; exact slice_bs (P := Tryz.prog) 9 Tryz.underlying9 W s 4 12 (by omega) (by omega) 4 12 rfl rfl
      have sl2 : ∀ W, (Instr.slice 9 (.string (bs s)) (some (.int .i64 12)) (some (.int .i64 16)) none).run Tryz.prog W = .ok (.string (bs s2)) W := fun W => by
        rw [hs2]; exact slice_bs (P := Tryz.prog) 9 Tryz.underlying9 W s 12 16 (by omega) (by omega) 12 16 rfl rfl
      have sl3 : ∀ W, (Instr.slice 9 (.string (bs s)) (some (.int .i64 16)) (some (.int .i64 24)) none).run Tryz.prog W = .ok (.string (bs s3)) W := fun W => by
        rw [hs3]; exact slice_bs (P := Tryz.prog) 9 Tryz.underlying9 W s 16 24 (by omega) (by omega) 16 24 rfl rfl
      have H1 := hid (show ∀ W, Calls Tryz.prog 48 #[.string (bs s1)] W fun e w' => e = .returned (.int .i64 G) ∧ w' = W from fun W => by rw [hG, ← hs1]; exact rnumber_c W s1 (by rw [hs1, List.length_take]; omega))
      have H2 := hid (show ∀ W, Calls Tryz.prog 48 #[.string (bs s2)] W fun e w' => e = .returned (.int .i64 R) ∧ w' = W from fun W => by rw [hR, ← hs2]; exact rnumber_c W s2 (by rw [hs2, List.length_take]; omega))
      have H3 := hid (show ∀ W, Calls Tryz.prog 48 #[.string (bs s3)] W fun e w' => e = .returned (.int .i64 F1) ∧ w' = W from fun W => by rw [hF1, ← hs3]; exact rnumber_c W s3 (by rw [hs3, List.length_take]; omega))
      have HOK := hid (show headOk N i (S.sec i) = true ↔ 1 ≤ G ∧ G ≤ 1152921504606846976 ∧ G % 2 = (i : Int) ∧ R - 1 < (N : Int) ∧ 1 ≤ F1 ∧ F1 ≤ 1152921504606846976 ∧ s = headB (gOf s) (rOf s) (fOf s) by
        rw [← hs]
        unfold headOk
        simp only [Bool.and_eq_true, decide_eq_true_eq]
        constructor
        · rintro ⟨⟨⟨⟨⟨⟨h1, h2⟩, h3⟩, h4⟩, h5⟩, h6⟩, h7⟩
          exact ⟨by omega, by omega, by omega, by omega, by omega, by omega, h7⟩
        · rintro ⟨h1, h2, h3, h4, h5, h6, h7⟩
          exact ⟨⟨⟨⟨⟨⟨by omega, by omega⟩, by omega⟩, by omega⟩, by omega⟩, by omega⟩, h7⟩)
      have HGC := hid hGc
      have HRC := hid hRc
      have HFC := hid hFc
      have xr : IntKind.i64.wrap (R - 1) = R - 1 := by rw [IntKind.wrap_i64]; omega
      obtain ⟨g, hg⟩ : ∃ g, g = (pickTo S N i).1 := ⟨_, rfl⟩
      rw [← hg] at c5 hpl
      have HG := hid hg
      clear hG hR hF1 hGc hRc hFc hR4 hs1 hs2 hs3 hs hend hg
      go_wp2_with fail
      refine HSEC.out.mono ?_
      rintro e w3 ⟨rfl, rfl⟩
      by_cases b1 : G < 1
      · have d1 : decide (G < 1) = true := decide_eq_true b1
        have HE := hid (show pickTo S N (i + 1) = pickTo S N i from pick_bad (fun h => by have := HOK.out.1 h; omega))
        clear HOK
        go_wp2_with fail
        go_quiet (first | (go_at_call 48; first | (with_reducible exact Calls.quiet_of_same (H1.out _)) | (with_reducible exact Calls.quiet_of_same (H2.out _)) | (with_reducible exact Calls.quiet_of_same (H3.out _))))
        go_wp2_with fail
        exact ⟨⟨i + 1, by go_num, by omega, hid (by rw [HE.out]; exact ⟨HQ.out.1, HQ.out.2.keep fr_drewN (fun f => f)⟩), hid (fr_dn HF.out)⟩, by simp [intOf]; omega⟩
      have d1 : decide (G < 1) = false := decide_eq_false b1
      by_cases b2 : 1152921504606846976 < G
      · have d2 : decide (1152921504606846976 < G) = true := decide_eq_true b2
        have HE := hid (show pickTo S N (i + 1) = pickTo S N i from pick_bad (fun h => by have := HOK.out.1 h; omega))
        clear HOK
        go_wp2_with fail
        go_quiet (first | (go_at_call 48; first | (with_reducible exact Calls.quiet_of_same (H1.out _)) | (with_reducible exact Calls.quiet_of_same (H2.out _)) | (with_reducible exact Calls.quiet_of_same (H3.out _))))
        go_wp2_with fail
        exact ⟨⟨i + 1, by go_num, by omega, hid (by rw [HE.out]; exact ⟨HQ.out.1, HQ.out.2.keep fr_drewN (fun f => f)⟩), hid (fr_dn HF.out)⟩, by simp [intOf]; omega⟩
      have d2 : decide (1152921504606846976 < G) = false := decide_eq_false b2
      have xt : Int.tmod G 2 = G % 2 := Int.tmod_eq_emod_of_nonneg (by omega)
      have xw : IntKind.i64.wrap (G % 2) = G % 2 := by rw [IntKind.wrap_i64]; omega
      have xu : IntKind.i64.wrap (Int.tmod G 2) = G % 2 := by rw [xt, xw]
      by_cases b3 : G % 2 ≠ (i : Int)
      · have d3 : (G % 2 != (i : Int)) = true := by simpa using b3
        have d3b : (G % 2 == (i : Int)) = false := by simpa using b3
        have HE := hid (show pickTo S N (i + 1) = pickTo S N i from pick_bad (fun h => by have := HOK.out.1 h; omega))
        clear HOK
        go_wp2_with fail
        go_quiet (first | (go_at_call 48; first | (with_reducible exact Calls.quiet_of_same (H1.out _)) | (with_reducible exact Calls.quiet_of_same (H2.out _)) | (with_reducible exact Calls.quiet_of_same (H3.out _))))
        go_wp2_with fail
        exact ⟨⟨i + 1, by go_num, by omega, hid (by rw [HE.out]; exact ⟨HQ.out.1, HQ.out.2.keep fr_drewN (fun f => f)⟩), hid (fr_dn HF.out)⟩, by simp [intOf]; omega⟩
      have d3 : (G % 2 != (i : Int)) = false := by simpa using b3
      have d3b : (G % 2 == (i : Int)) = true := by simpa using b3
      by_cases b4 : (N : Int) ≤ R - 1
      · have d4 : decide ((N : Int) ≤ R - 1) = true := decide_eq_true b4
        have HE := hid (show pickTo S N (i + 1) = pickTo S N i from pick_bad (fun h => by have := HOK.out.1 h; omega))
        clear HOK
        go_wp2_with fail
        go_quiet (first | (go_at_call 48; first | (with_reducible exact Calls.quiet_of_same (H1.out _)) | (with_reducible exact Calls.quiet_of_same (H2.out _)) | (with_reducible exact Calls.quiet_of_same (H3.out _))))
        go_wp2_with fail
        exact ⟨⟨i + 1, by go_num, by omega, hid (by rw [HE.out]; exact ⟨HQ.out.1, HQ.out.2.keep fr_drewN (fun f => f)⟩), hid (fr_dn HF.out)⟩, by simp [intOf]; omega⟩
      have d4 : decide ((N : Int) ≤ R - 1) = false := decide_eq_false b4
      by_cases b5 : F1 < 1
      · have d5 : decide (F1 < 1) = true := decide_eq_true b5
        have HE := hid (show pickTo S N (i + 1) = pickTo S N i from pick_bad (fun h => by have := HOK.out.1 h; omega))
        clear HOK
        go_wp2_with fail
        go_quiet (first | (go_at_call 48; first | (with_reducible exact Calls.quiet_of_same (H1.out _)) | (with_reducible exact Calls.quiet_of_same (H2.out _)) | (with_reducible exact Calls.quiet_of_same (H3.out _))))
        go_wp2_with fail
        exact ⟨⟨i + 1, by go_num, by omega, hid (by rw [HE.out]; exact ⟨HQ.out.1, HQ.out.2.keep fr_drewN (fun f => f)⟩), hid (fr_dn HF.out)⟩, by simp [intOf]; omega⟩
      have d5 : decide (F1 < 1) = false := decide_eq_false b5
      by_cases b6 : 1152921504606846976 < F1
      · have d6 : decide (1152921504606846976 < F1) = true := decide_eq_true b6
        have HE := hid (show pickTo S N (i + 1) = pickTo S N i from pick_bad (fun h => by have := HOK.out.1 h; omega))
        clear HOK
        go_wp2_with fail
        go_quiet (first | (go_at_call 48; first | (with_reducible exact Calls.quiet_of_same (H1.out _)) | (with_reducible exact Calls.quiet_of_same (H2.out _)) | (with_reducible exact Calls.quiet_of_same (H3.out _))))
        go_wp2_with fail
        exact ⟨⟨i + 1, by go_num, by omega, hid (by rw [HE.out]; exact ⟨HQ.out.1, HQ.out.2.keep fr_drewN (fun f => f)⟩), hid (fr_dn HF.out)⟩, by simp [intOf]; omega⟩
      have d6 : decide (1152921504606846976 < F1) = false := decide_eq_false b6
      have hgf : G = (gOf s : Int) := by rcases HGC.out with h | h <;> omega
      have hff : F1 = (fOf s : Int) := by rcases HFC.out with h | h <;> omega
      have hrr := HRC.out
      obtain ⟨T, hT⟩ : ∃ T, T = headB (gOf s) (rOf s) (fOf s) := ⟨_, rfl⟩
      have HH := hid (fun W : World => show Calls Tryz.prog 49 #[.int .i64 G, .int .i64 (R - 1), .int .i64 F1] W fun e w' => e = .returned (.string (bs T)) ∧ Fr (fun _ => False) W w' from by
        rw [hgf, hff, hT]
        exact rhead_c W (gOf s) (rOf s) (fOf s) (R - 1) (by omega) (by omega) (by omega) (by omega))
      have HGF := hid (And.intro hgf (And.intro hff hrr))
      rw [← hT] at HOK
      clear hgf hff hrr hT
      by_cases hst : s = T
      rotate_left
      · have HE := hid (show pickTo S N (i + 1) = pickTo S N i from pick_bad (fun h => hst (HOK.out.1 h).2.2.2.2.2.2))
        have qq : (s != T) = true := by simpa using hst
        have qq2 : (s == T) = false := by simpa using hst
        clear HOK hst
        go_wp2_with fail
        go_quiet (first | (go_at_call 48; first | (with_reducible exact Calls.quiet_of_same (H1.out _)) | (with_reducible exact Calls.quiet_of_same (H2.out _)) | (with_reducible exact Calls.quiet_of_same (H3.out _))))
        go_wp2_with fail
        refine (HH.out _).mono ?_
        rintro e w4 ⟨rfl, hf4⟩
        have HF4 := hid ((fr_dn HF.out).trans hf4 (fun _ _ f => f))
        have HK := hid (fr_drewN.trans hf4 (fun _ _ f => f))
        clear hf4
        go_wp2_with fail
        exact ⟨⟨i + 1, by go_num, by omega, hid (by rw [HE.out]; exact ⟨HK.out.at HQ.out.1 (fun f => f), HQ.out.2.keep HK.out (fun f => f)⟩), HF4⟩, by simp [intOf]; omega⟩
      have qq : (s != T) = false := by simpa using hst
      have qq2 : (s == T) = true := by simpa using hst
      have HPA := hid (show parseP N i (S.sec i) = (gOf s, (rOf s : Int) - 1, fOf s) by
        unfold parseP
        rw [if_pos (HOK.out.2 ⟨by omega, by omega, by omega, by omega, by omega, by omega, hst⟩), ← HSS.out])
      have HBT := hid (show pickTo S N (i + 1) = if g < gOf s then (gOf s, (rOf s : Int) - 1, fOf s) else pickTo S N i by
        show better (pickTo S N i) (parseP N i (S.sec i)) = _
        rw [HPA.out]
        unfold better
        rw [← HG.out])
      clear HOK hst
      by_cases hgg : g < gOf s
      · have dg : decide ((g : Int) < G) = true := decide_eq_true (by have := HGF.out.1; omega)
        have HE := hid (HBT.out.trans (if_pos hgg))
        clear hgg
        go_wp2_with fail
        go_quiet (first | (go_at_call 48; first | (with_reducible exact Calls.quiet_of_same (H1.out _)) | (with_reducible exact Calls.quiet_of_same (H2.out _)) | (with_reducible exact Calls.quiet_of_same (H3.out _))))
        go_wp2_with fail
        refine (HH.out _).mono ?_
        rintro e w4 ⟨rfl, hf4⟩
        have HF4 := hid ((fr_dn HF.out).trans hf4 (fun _ _ f => f))
        have HK := hid (fr_drewN.trans hf4 (fun _ _ f => f))
        have h4 := HK.out.at HQ.out.1 (fun f => f)
        have HU4 := hid (HQ.out.2.keep HK.out (fun f => f))
        have e5 : w4.cell? ⟨B + 1, 5, none⟩ = some (.int .i64 g) := by rw [cell_at h4 5, HG.out]; rfl
        have f5 : w4.frozen? ⟨B + 1, 5, none⟩ = false := frozen_at h4 5
        have h5 := set_at h4 5 (.int .i64 G)
        have e3 : (w4.setCell ⟨B + 1, 5, none⟩ (.int .i64 G)).cell? ⟨B + 1, 3, none⟩ = some (.int .i64 (pickTo S N i).2.1) := cell_at h5 3
        have f3 : (w4.setCell ⟨B + 1, 5, none⟩ (.int .i64 G)).frozen? ⟨B + 1, 3, none⟩ = false := frozen_at h5 3
        have h6 := set_at h5 3 (.int .i64 (R - 1))
        have e4 : ((w4.setCell ⟨B + 1, 5, none⟩ (.int .i64 G)).setCell ⟨B + 1, 3, none⟩ (.int .i64 (R - 1))).cell? ⟨B + 1, 4, none⟩ = some (.int .i64 (pickTo S N i).2.2) := cell_at h6 4
        have f4 : ((w4.setCell ⟨B + 1, 5, none⟩ (.int .i64 G)).setCell ⟨B + 1, 3, none⟩ (.int .i64 (R - 1))).frozen? ⟨B + 1, 4, none⟩ = false := frozen_at h6 4
        have h7 := set_at h6 4 (.int .i64 F1)
        have H7 := hid h7
        have HFS := hid (((fr_set1 w4 (B + 1) 5 (.int .i64 G)).trans (fr_set1 _ (B + 1) 3 (.int .i64 (R - 1))) (fun _ _ e => e)).trans (fr_set1 _ (B + 1) 4 (.int .i64 F1)) (fun _ _ e => e))
        clear hf4 h4 h5 h6 h7 c5
        go_wp2_with fail
        refine ⟨⟨i + 1, by go_num, by omega, hid ⟨?_, HU4.out.keep HFS.out (by omega)⟩, hid (((HF4.out.setCell _ (fun h => ?_) _).setCell _ (fun h => ?_) _).setCell _ (fun h => ?_) _)⟩, by simp [intOf]; omega⟩
        · rw [H7.out, HE.out, HGF.out.1, HGF.out.2.1, HGF.out.2.2]
          rfl
        all_goals
          have := HB.out
          simp at h
          omega
      · have dg : decide ((g : Int) < G) = false := decide_eq_false (by have := HGF.out.1; omega)
        have HE := hid (HBT.out.trans (if_neg hgg))
        clear hgg
        go_wp2_with fail
        go_quiet (first | (go_at_call 48; first | (with_reducible exact Calls.quiet_of_same (H1.out _)) | (with_reducible exact Calls.quiet_of_same (H2.out _)) | (with_reducible exact Calls.quiet_of_same (H3.out _))))
        go_wp2_with fail
        refine (HH.out _).mono ?_
        rintro e w4 ⟨rfl, hf4⟩
        have HF4 := hid ((fr_dn HF.out).trans hf4 (fun _ _ f => f))
        have HK := hid (fr_drewN.trans hf4 (fun _ _ f => f))
        have e5 : w4.cell? ⟨B + 1, 5, none⟩ = some (.int .i64 g) := by rw [cell_at (HK.out.at HQ.out.1 (fun f => f)) 5, HG.out]; rfl
        clear hf4 c5
        go_wp2_with fail
        exact ⟨⟨i + 1, by go_num, by omega, hid (by rw [HE.out]; exact ⟨HK.out.at HQ.out.1 (fun f => f), HQ.out.2.keep HK.out (fun f => f)⟩), HF4⟩, by simp [intOf]; omega⟩

theorem rpopen_c (w : World) (m b1 b2 : Nat) (S : St) (h : RA w m b1 b2 S) (hs : S.Ok) (f c : Int) (hf : -9223372036854775808 ≤ f) (hf2 : f ≤ 9223372036854775807) : ROpenC w m b1 b2 S f c := by
  by_cases he : pchk S f c 1 = 0
  · exact rpopen_go w m b1 b2 S h hs f c hf hf2 he
  · exact rpopen_bad w m b1 b2 S h hs f c hf hf2 he

end Go.Proofs.YtjkhcfdflcndkaaGreat.D

/-
  The law's disks: the program's and the document's, of an image that is made to fit. No condition beyond the sizes that are named.
-/
namespace Go.Proofs.YtjkhcfdflcndkaaGreat.D
open Go.RowKit Go.Maps Go.Shelf
set_option linter.unusedVariables false
set_option linter.unusedSimpArgs false

theorem slice_to {P : Program} (t : TypeId) (ht : P.underlying t = some .string) (w : World) (l : List UInt8) (b : Int) (h1 : 0 ≤ b) (h2 : b ≤ l.length) :
    (Instr.slice t (.string (bs l)) none (some (.int .i64 b)) none).run P w = .ok (.string (bs (l.take b.toNat))) w := by
  have hz : (bs l).size = l.length := by simp [bs, ByteArray.size]
  have eb : (b.toNat : Int) = b := Int.toNat_of_nonneg (by omega)
  have hx : (bs l).extract 0 b.toNat = bs (l.take b.toNat) := by
    apply ByteArray.ext
    simp [bs, ByteArray.data_extract]
  simp [Instr.slice, run_underlying ht, Instr.sliceBounds, run_sliceBound, hz, h1, h2, eb, Result.andThen]
  exact hx
theorem addBs (l m : List UInt8) : (bs l) ++ (bs m) = bs (l ++ m) := by
  apply ByteArray.ext
  simp [bs]

/-- The image that is made to fit. -/
def imgOf (l : List UInt8) : List UInt8 := l.take 7680 ++ zero (64 - (l.take 7680).length % 64)
theorem imgOf_ok (l : List UInt8) : IsImage (imgOf l) := by
  have h : (imgOf l).length = (l.take 7680).length + (64 - (l.take 7680).length % 64) := by simp [imgOf, zero]
  have h2 : (l.take 7680).length ≤ 7680 := by rw [List.length_take]; omega
  exact ⟨by omega, by omega, by omega⟩

set_option maxHeartbeats 4000000 in
set_option maxRecDepth 100000 in
theorem disks_c (w : World) (l : List UInt8) (hl : l.length ≤ 9223372036854775807) :
    Calls Tryz.prog 5 #[.string (bs l)] w fun e w' => ∃ g bm m b1 b2 N, e = .returned (.tuple #[.pointer (some ⟨g, 0, none⟩), .pointer (some ⟨m, 0, none⟩)]) ∧ DJ w w' g bm m b1 b2 N (news (imgOf l)) (news (imgOf l)) := by
  have hz : (bs l).size = l.length := by simp [bs, ByteArray.size]
  obtain ⟨q, hq⟩ : ∃ q, q = min l.length 7680 := ⟨_, rfl⟩
  have hmin : ∀ w, (Builtin.min_ #[3, 3] 3 #[.int .i64 (l.length : Int), .int .i64 7680]).run Tryz.prog w = .ok (.int .i64 (q : Int)) w := by
    intro w
    rw [run_min_int2]
    congr 2
    split <;> omega
  obtain ⟨T, hT⟩ : ∃ T, T = l.take q := ⟨_, rfl⟩
  have hTl : T.length = q := by rw [hT, List.length_take]; omega
  have hq2 : q ≤ 7680 := by omega
  have hs1 : ∀ w, (Instr.slice 9 (.string (bs l)) none (some (.int .i64 (q : Int))) none).run Tryz.prog w = .ok (.string (bs T)) w := fun w => by
    have := slice_to (P := Tryz.prog) 9 Tryz.underlying9 w l (q : Int) (by omega) (by omega)
    rwa [Int.toNat_natCast, ← hT] at this
  obtain ⟨z, hzz⟩ : ∃ z, z = 64 - q % 64 := ⟨_, rfl⟩
  have hz64 : z ≤ 64 := by omega
  have ez : (64 : Int) - (T.length : Int) % 64 = (z : Int) := by rw [hTl]; omega
  have hmk := mkz z (by omega) w
  have hms := mks z w
  have eim : T ++ zero z = imgOf l := by
    have e1 : T = l.take 7680 := by
      rw [hT, hq]
      by_cases h : l.length ≤ 7680
      · rw [Nat.min_eq_left h, List.take_length, List.take_of_length_le h]
      · rw [Nat.min_eq_right (by omega)]
    unfold imgOf
    rw [← e1, hzz, hTl]
  have hst : Value.string (bs T ++ bs (zero z)) = Value.string (bs (imgOf l)) := by rw [addBs, eim]
  have HOK := hid (imgOf_ok l)
  obtain ⟨im, him⟩ : ∃ im, im = imgOf l := ⟨_, rfl⟩
  rw [← him] at hst HOK ⊢
  have HST := hid hst
  have lz : (zero z).length ≤ 64 := by simp [zero]; omega
  have lT : T.length ≤ 7680 := by omega
  have HN1 := hid (fun W : World => new_c W im HOK.out)
  have HN2 := hid (fun W : World => rnew_c W im HOK.out)
  have HF0 := hid (show Fr (fun _ => False) w (w.alloc (.cells (bytesOf (zero z)).toArray 5)) from (Fr.refl _ w).alloc _)
  clear hq hT hTl hzz eim hst him
  go_enter Tryz.func5, Tryz.ntmps5
  go_wp2_with fail
  rw [show bs T ++ bs (zero z) = bs im from by have := HST.out; simpa using this]
  refine (HN1.out _).mono ?_
  rintro e w2 ⟨g, bm, rfl, hA2, hg2, hb2, hf2⟩
  have HA2 := hid hA2
  have HL2 := hid (And.intro hg2 hb2)
  have HF2 := hid (HF0.out.trans hf2 (fun _ _ f => f))
  clear hA2 hg2 hb2 hf2
  go_wp2_with fail
  refine (HN2.out _).mono ?_
  rintro e w3 ⟨m, rfl, hA3, hb3⟩
  have HA3 := hid hA3
  have HB3 := hid hb3
  clear hA3 hb3
  go_wp2_with fail
  go_ret2
  obtain ⟨b1, b2, hra, l1, l2, l3⟩ := RAt.ra HOK.out HA3.out
  have hf3 : Fr (fun _ => False) w2 w3 := Fr.below HB3.out _
  have h1 := HF0.out.size
  have h2 := HF2.out.size
  obtain ⟨g1, g2⟩ := HL2.out
  exact ⟨g, bm, m, b1, b2, (news im).n, rfl, HA2.out.stay hf3, hra, news_ok HOK.out, news_ok HOK.out, ⟨rfl, rfl⟩, HF2.out.trans hf3 (fun _ _ f => f), by omega, by omega, by omega, by omega, by omega⟩

end Go.Proofs.YtjkhcfdflcndkaaGreat.D
