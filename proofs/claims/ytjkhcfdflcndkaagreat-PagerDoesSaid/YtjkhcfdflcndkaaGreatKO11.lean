/-
  A pager's Live. No condition beyond the sizes that are named.
-/
import Derived.Test.YtjkhcfdflcndkaaGreatKO10
import Derived.BigQuiet
namespace Go.Proofs.YtjkhcfdflcndkaaGreat.D
open Go.RowKit Go.Maps Go.Shelf
set_option linter.unusedVariables false
set_option linter.unusedSimpArgs false

theorem is_enter (args : Array Value) (w : World) : (callFunc 66 args).run Tryz.prog w = .ok (.enter 66 args) w := by kernel_rfl

theorem is_true {P : PSt} {k : Int} (h : P.is k = true) : 0 ≤ k ∧ k < P.pages := by unfold PSt.is at h; simpa using h

theorem may_is {w : World} {p g bm ml mt : Nat} {P : PSt} {S : St} (h : PD w p g bm ml mt P S) : May w 66 #[.pointer (some ⟨p, 0, none⟩)] #[] P.is := by
  refine ⟨is_enter, fun i w' h1 h2 hf => ?_⟩
  have hl := h.lt
  have hP : PAt w' p g ml mt P := ⟨hf.at h.pa.1 (by omega), h.pa.2.1.keep hf (by omega), h.pa.2.2.1.keep hf (by omega), h.pa.2.2.2⟩
  exact (is_c w' p g ml mt P hP i).mono (fun e w'' x => ⟨x.1, x.2 ▸ Fr.refl _ _⟩)

set_option maxRecDepth 100000 in
theorem plive_c (w : World) (p g bm ml mt : Nat) (P : PSt) (S : St) (h : PD w p g bm ml mt P S) (hp : P.pages ≤ 4096) (v : Value) (l : List Int) (hv : IntsV w v l) (hl : ∀ x ∈ l, -9223372036854775808 ≤ x ∧ x ≤ 9223372036854775807) :
    Calls Tryz.prog 23 #[.pointer (some ⟨p, 0, none⟩), v] w fun e w' => e = .returned (.int .i64 (P.setLive l).2) ∧ PTurn w w' p g bm ml mt (P.setLive l).1 S := by
  have HSET := hid (set_c w v l 66 #[.pointer (some ⟨p, 0, none⟩)] #[] P.is P.pages hv hl (may_is h) (fun i hi => is_true hi) hp)
  have HD := hid h
  have hmf : ∀ (fn : Fn) (first cap : Array Value) (w : World), (Instr.makeFunc fn first cap).run Tryz.prog w = .ok (.func fn first cap) w := fun _ _ _ _ => rfl
  obtain ⟨a, cap, rfl, _⟩ := hv
  clear h hp hl
  cases hok : setOk P.is l with
  | false =>
    have HE := hid (show P.setLive l = (P, 191) by unfold PSt.setLive; rw [if_neg (by simp [hok])])
    have HOK := hid hok
    rw [HE.out]
    clear hok
    go_enter Tryz.func23, Tryz.ntmps23
    go_wp2_with fail
    refine HSET.out.mono ?_
    rintro e w2 ⟨hf, _, h2⟩
    have HF := hid hf
    rcases h2 HOK.out with rfl | ⟨B, rfl, _⟩
    · clear h2 hf
      go_wp2_with fail
      go_ret
      exact ⟨rfl, PTurn.self HD.out HF.out⟩
    · clear h2 hf
      go_wp2_with fail
      go_ret
      exact ⟨rfl, PTurn.self HD.out HF.out⟩
  | true =>
    have HE := hid (show P.setLive l = ({ P with live := fun i => l.contains i }, 0) by unfold PSt.setLive; rw [if_pos hok])
    have HOK := hid hok
    rw [HE.out]
    clear hok
    go_enter Tryz.func23, Tryz.ntmps23
    go_wp2_with fail
    refine HSET.out.mono ?_
    rintro e w2 ⟨hf, h1, _⟩
    have HF := hid hf
    obtain ⟨B, rfl, hB, hBs⟩ := h1 HOK.out
    have HB := hid hB
    have HD2 := hid (HD.out.stay hf)
    have c6 : w2.cell? ⟨p, 6, none⟩ = some (.map (some ml)) := cell_at HD2.out.pa.1 6
    have f6 : w2.frozen? ⟨p, 6, none⟩ = false := frozen_at HD2.out.pa.1 6
    clear h1 hf hB
    go_wp2_with fail
    go_ret
    have hd := HD2.out
    have hl := HD.out.lt
    have hf3 := fr_set1 w2 p 6 (.map (some B))
    obtain ⟨es, ck, hm⟩ := HB.out.isMap
    have hpB : B ≠ p := by omega
    have hne := hd.ne
    refine ⟨rfl, bm, B, ?_, Or.inl rfl, Or.inr hBs, (fr_no HF.out).trans hf3 (fun i _ e => Or.inl e)⟩
    have hpt : PAt (w2.setCell ⟨p, 6, none⟩ (.map (some B))) p g B mt { P with live := fun i => l.contains i } := by
      refine ⟨?_, HB.out.keep hf3 hpB, hd.pa.2.2.1.keep hf3 (by omega), by omega⟩
      rw [set_at hd.pa.1 6]
      rfl
    have hd3 : PD (w2.setCell ⟨p, 6, none⟩ (.map (some B))) p g bm ml mt P S → True := fun _ => trivial
    refine ⟨hpt, hd.da.keep hf3 (by omega) (by omega) (fun b cur hb' e => ?_), by omega, hd.n2⟩
    subst e
    rw [hd.pa.1] at hb'
    injection hb' with hb'
    injection hb' with _ e
    exact absurd e (by decide)

end Go.Proofs.YtjkhcfdflcndkaaGreat.D

/-
  A pager's parse: what a head's bytes tell. No condition beyond the sizes that are named.
-/
namespace Go.Proofs.YtjkhcfdflcndkaaGreat.D
open Go.RowKit Go.Maps Go.Shelf
set_option linter.unusedVariables false
set_option linter.unusedSimpArgs false

theorem fr_drewN {w : World} {n : Nat} : Fr (fun _ => False) w (w.drewN n) := ⟨rfl, rfl, rfl, Nat.le_refl _, fun _ _ _ => rfl⟩

theorem slice_bs {P : Program} (t : TypeId) (ht : P.underlying t = some .string) (w : World) (l : List UInt8) (a b : Nat) (h1 : a ≤ b) (h2 : b ≤ l.length) (A B : Int) (hA : A = (a : Int)) (hB : B = (b : Int)) :
    (Instr.slice t (.string (bs l)) (some (.int .i64 A)) (some (.int .i64 B)) none).run P w = .ok (.string (bs ((l.drop a).take (b - a)))) w := by
  subst hA hB
  have := slice_str t ht w l (a : Int) (b : Int) (by omega) (by omega) (by omega)
  simpa using this

theorem val8 (l : List UInt8) : val (l.take 8) < 18446744073709551616 := by
  have h1 := val_lt (l.take 8)
  have h2 : (l.take 8).length ≤ 8 := by rw [List.length_take]; omega
  exact Nat.lt_of_lt_of_le h1 (Nat.pow_le_pow_right (n := 256) (by omega) h2)
theorem val4 (l : List UInt8) : val (l.take 4) < 4294967296 := by
  have h1 := val_lt (l.take 4)
  have h2 : (l.take 4).length ≤ 4 := by rw [List.length_take]; omega
  exact Nat.lt_of_lt_of_le h1 (Nat.pow_le_pow_right (n := 256) (by omega) h2)

theorem parse_bad {pages a : Nat} {s : List UInt8} (h : ¬ headOk pages a s = true) : parseP pages a s = (0, 0, 0) := by unfold parseP; rw [if_neg h]

def ParseC (w : World) (p pages a : Nat) (s : List UInt8) : Prop :=
  Calls Tryz.prog 45 #[.pointer (some ⟨p, 0, none⟩), .string (bs s), .int .i64 (a : Int)] w fun e w' =>
    e = .returned (.tuple #[.int .i64 ((parseP pages a s).1 : Nat), .int .i64 (parseP pages a s).2.1, .int .i64 ((parseP pages a s).2.2 : Nat)]) ∧ Fr (fun _ => False) w w'

set_option maxHeartbeats 16000000 in
set_option maxRecDepth 100000 in
theorem parse_c (w : World) (p pages a : Nat) (s : List UInt8) (hs : s.length = 64) (hp : pages ≤ 4096) (ha : a < 2) (c2 : w.cell? ⟨p, 2, none⟩ = some (.int .i64 pages)) : ParseC w p pages a s := by
  obtain ⟨G, hG⟩ : ∃ G : Int, G = (gOf s : Int) := ⟨_, rfl⟩
  obtain ⟨R, hR⟩ : ∃ R : Int, R = (rOf s : Int) := ⟨_, rfl⟩
  obtain ⟨F, hF⟩ : ∃ F : Int, F = (fOf s : Int) := ⟨_, rfl⟩
  obtain ⟨A, hA⟩ : ∃ A : Int, A = (a : Int) := ⟨_, rfl⟩
  obtain ⟨N, hN⟩ : ∃ N : Int, N = (pages : Int) := ⟨_, rfl⟩
  have g8 := val8 (s.drop 4)
  have r4 := val4 (s.drop 12)
  have f8 := val8 (s.drop 16)
  have G0 : 0 ≤ G := by omega
  have G1 : G < 18446744073709551616 := by rw [hG]; unfold gOf; omega
  have R0 : 0 ≤ R := by omega
  have R1 : R < 4294967296 := by rw [hR]; unfold rOf; omega
  have F0 : 0 ≤ F := by omega
  have F1 : F < 18446744073709551616 := by rw [hF]; unfold fOf; omega
  have N0 : 0 ≤ N := by omega
  have N1 : N ≤ 4096 := by omega
  have A0 : 0 ≤ A := by omega
  have A1 : A < 2 := by omega
  obtain ⟨s1, hs1⟩ : ∃ s1, s1 = (s.drop 4).take 8 := ⟨_, rfl⟩
  obtain ⟨s2, hs2⟩ : ∃ s2, s2 = (s.drop 12).take 4 := ⟨_, rfl⟩
  obtain ⟨s3, hs3⟩ : ∃ s3, s3 = (s.drop 16).take 8 := ⟨_, rfl⟩
  have sl1 : ∀ W, (Instr.slice 9 (.string (bs s)) (some (.int .i64 4)) (some (.int .i64 12)) none).run Tryz.prog W = .ok (.string (bs s1)) W := fun W => by
    rw [hs1]; exact slice_bs (P := Tryz.prog) 9 Tryz.underlying9 W s 4 12 (by omega) (by omega) 4 12 rfl rfl
  have sl2 : ∀ W, (Instr.slice 9 (.string (bs s)) (some (.int .i64 12)) (some (.int .i64 16)) none).run Tryz.prog W = .ok (.string (bs s2)) W := fun W => by
    rw [hs2]; exact slice_bs (P := Tryz.prog) 9 Tryz.underlying9 W s 12 16 (by omega) (by omega) 12 16 rfl rfl
  have sl3 : ∀ W, (Instr.slice 9 (.string (bs s)) (some (.int .i64 16)) (some (.int .i64 24)) none).run Tryz.prog W = .ok (.string (bs s3)) W := fun W => by
    rw [hs3]; exact slice_bs (P := Tryz.prog) 9 Tryz.underlying9 W s 16 24 (by omega) (by omega) 16 24 rfl rfl
  have H1 := hid (show ∀ W, Calls Tryz.prog 84 #[.string (bs s1)] W fun e w' => e = .returned (.int .u64 G) ∧ w' = W from fun W => by
    rw [hG, show gOf s = val s1 by rw [hs1]; rfl]; exact small_c W s1 (by rw [hs1, List.length_take]; omega))
  have H2 := hid (show ∀ W, Calls Tryz.prog 84 #[.string (bs s2)] W fun e w' => e = .returned (.int .u64 R) ∧ w' = W from fun W => by
    rw [hR, show rOf s = val s2 by rw [hs2]; rfl]; exact small_c W s2 (by rw [hs2, List.length_take]; omega))
  have H3 := hid (show ∀ W, Calls Tryz.prog 84 #[.string (bs s3)] W fun e w' => e = .returned (.int .u64 F) ∧ w' = W from fun W => by
    rw [hF, show fOf s = val s3 by rw [hs3]; rfl]; exact small_c W s3 (by rw [hs3, List.length_take]; omega))
  have HOK := hid (show headOk pages a s = true ↔ 1 ≤ G ∧ G ≤ 1152921504606846976 ∧ G % 2 = A ∧ R ≤ N ∧ 1 ≤ F ∧ F ≤ 1152921504606846976 ∧ s = headB (gOf s) (rOf s) (fOf s) by
    unfold headOk
    simp only [Bool.and_eq_true, decide_eq_true_eq]
    constructor
    · rintro ⟨⟨⟨⟨⟨⟨h1, h2⟩, h3⟩, h4⟩, h5⟩, h6⟩, h7⟩
      exact ⟨by omega, by omega, by omega, by omega, by omega, by omega, h7⟩
    · rintro ⟨h1, h2, h3, h4, h5, h6, h7⟩
      exact ⟨⟨⟨⟨⟨⟨by omega, by omega⟩, by omega⟩, by omega⟩, by omega⟩, by omega⟩, h7⟩)
  have HV := hid (And.intro hG (And.intro hR (And.intro hF (And.intro hA hN))))
  have wp : ∀ k : Nat, k = pages → (k : Int) = N := fun k hk => by omega
  unfold ParseC
  rw [← hA]
  rw [← hN] at c2
  have HS := hid hs
  clear hG hR hF hA hN g8 r4 f8 hs1 hs2 hs3 wp hs
  by_cases b1 : G < 1
  · have d1 : decide (G < 1) = true := decide_eq_true b1
    have HE := hid (parse_bad (pages := pages) (a := a) (s := s) (fun h => by have := HOK.out.1 h; omega))
    rw [HE.out]
    clear HOK
    go_enter Tryz.func45, Tryz.ntmps45
    go_wp2_with fail
    go_quiet (first | (go_at_call 84; first | (with_reducible exact Calls.quiet_of_same (H1.out _)) | (with_reducible exact Calls.quiet_of_same (H2.out _)) | (with_reducible exact Calls.quiet_of_same (H3.out _))))
    go_wp2_with fail
    go_ret3
    exact ⟨rfl, fr_drewN⟩
  have d1 : decide (G < 1) = false := decide_eq_false b1
  by_cases b2 : 1152921504606846976 < G
  · have d2 : decide (1152921504606846976 < G) = true := decide_eq_true b2
    have HE := hid (parse_bad (pages := pages) (a := a) (s := s) (fun h => by have := HOK.out.1 h; omega))
    rw [HE.out]
    clear HOK
    go_enter Tryz.func45, Tryz.ntmps45
    go_wp2_with fail
    go_quiet (first | (go_at_call 84; first | (with_reducible exact Calls.quiet_of_same (H1.out _)) | (with_reducible exact Calls.quiet_of_same (H2.out _)) | (with_reducible exact Calls.quiet_of_same (H3.out _))))
    go_wp2_with fail
    go_ret3
    exact ⟨rfl, fr_drewN⟩
  have d2 : decide (1152921504606846976 < G) = false := decide_eq_false b2
  have x3 : IntKind.i64.wrap (G % 2) = G % 2 := by rw [IntKind.wrap_i64]; omega
  by_cases b3 : G % 2 ≠ A
  · have d3 : (G % 2 != A) = true := by simpa using b3
    have HE := hid (parse_bad (pages := pages) (a := a) (s := s) (fun h => by have := HOK.out.1 h; omega))
    rw [HE.out]
    clear HOK
    go_enter Tryz.func45, Tryz.ntmps45
    go_wp2_with fail
    go_quiet (first | (go_at_call 84; first | (with_reducible exact Calls.quiet_of_same (H1.out _)) | (with_reducible exact Calls.quiet_of_same (H2.out _)) | (with_reducible exact Calls.quiet_of_same (H3.out _))))
    go_wp2_with fail
    go_ret3
    exact ⟨rfl, fr_drewN⟩
  have d3 : (G % 2 != A) = false := by simp at b3; simp [b3]
  by_cases b4 : N < R
  · have d4 : decide (N < R) = true := decide_eq_true b4
    have HE := hid (parse_bad (pages := pages) (a := a) (s := s) (fun h => by have := HOK.out.1 h; omega))
    rw [HE.out]
    clear HOK
    go_enter Tryz.func45, Tryz.ntmps45
    go_wp2_with fail
    go_quiet (first | (go_at_call 84; first | (with_reducible exact Calls.quiet_of_same (H1.out _)) | (with_reducible exact Calls.quiet_of_same (H2.out _)) | (with_reducible exact Calls.quiet_of_same (H3.out _))))
    go_wp2_with fail
    go_ret3
    exact ⟨rfl, fr_drewN⟩
  have d4 : decide (N < R) = false := decide_eq_false b4
  by_cases b5 : F < 1
  · have d5 : decide (F < 1) = true := decide_eq_true b5
    have HE := hid (parse_bad (pages := pages) (a := a) (s := s) (fun h => by have := HOK.out.1 h; omega))
    rw [HE.out]
    clear HOK
    go_enter Tryz.func45, Tryz.ntmps45
    go_wp2_with fail
    go_quiet (first | (go_at_call 84; first | (with_reducible exact Calls.quiet_of_same (H1.out _)) | (with_reducible exact Calls.quiet_of_same (H2.out _)) | (with_reducible exact Calls.quiet_of_same (H3.out _))))
    go_wp2_with fail
    go_ret3
    exact ⟨rfl, fr_drewN⟩
  have d5 : decide (F < 1) = false := decide_eq_false b5
  by_cases b6 : 1152921504606846976 < F
  · have d6 : decide (1152921504606846976 < F) = true := decide_eq_true b6
    have HE := hid (parse_bad (pages := pages) (a := a) (s := s) (fun h => by have := HOK.out.1 h; omega))
    rw [HE.out]
    clear HOK
    go_enter Tryz.func45, Tryz.ntmps45
    go_wp2_with fail
    go_quiet (first | (go_at_call 84; first | (with_reducible exact Calls.quiet_of_same (H1.out _)) | (with_reducible exact Calls.quiet_of_same (H2.out _)) | (with_reducible exact Calls.quiet_of_same (H3.out _))))
    go_wp2_with fail
    go_ret3
    exact ⟨rfl, fr_drewN⟩
  have d6 : decide (1152921504606846976 < F) = false := decide_eq_false b6
  have e3 : G % 2 = A := by simpa using b3
  have HH := hid (fun W : World => head_c W (gOf s) (rOf s) (fOf s) (R - 1) (by have := HV.out; omega) (by have := HV.out; omega) (by have := HV.out; omega) (by have := HV.out; omega))
  obtain ⟨T, hT⟩ : ∃ T, T = headB (gOf s) (rOf s) (fOf s) := ⟨_, rfl⟩
  rw [← hT] at HH HOK
  rw [← HV.out.1, ← HV.out.2.2.1] at HH
  have HT := hid hT
  have x4 : IntKind.i64.wrap G = G := by rw [IntKind.wrap_i64]; omega
  have x5 : IntKind.i64.wrap R = R := by rw [IntKind.wrap_i64]; omega
  have x6 : IntKind.i64.wrap F = F := by rw [IntKind.wrap_i64]; omega
  have x7 : IntKind.i64.wrap (R - 1) = R - 1 := by rw [IntKind.wrap_i64]; omega
  clear hT b3
  by_cases hst : s = T
  · have HE := hid (show parseP pages a s = (gOf s, (rOf s : Int) - 1, fOf s) by
      unfold parseP
      rw [if_pos (HOK.out.2 ⟨by omega, by omega, e3, by omega, by omega, by omega, hst⟩)])
    have qq : (s != T) = false := by simpa using hst
    have qq2 : (s == T) = true := by simpa using hst
    rw [HE.out]
    simp only []
    rw [← HV.out.1, ← HV.out.2.1, ← HV.out.2.2.1]
    clear HOK hst e3
    go_enter Tryz.func45, Tryz.ntmps45
    go_wp2_with fail
    go_quiet (first | (go_at_call 84; first | (with_reducible exact Calls.quiet_of_same (H1.out _)) | (with_reducible exact Calls.quiet_of_same (H2.out _)) | (with_reducible exact Calls.quiet_of_same (H3.out _))))
    go_wp2_with (first | fail | (go_at_call 52; refine (HH.out _).mono ?_; rintro e w3 ⟨rfl, hf3⟩))
    go_ret3
    exact ⟨rfl, fr_drewN.trans hf3 (fun _ _ f => f)⟩
  · have HE := hid (parse_bad (pages := pages) (a := a) (s := s) (fun h => hst (HOK.out.1 h).2.2.2.2.2.2))
    have qq : (s != T) = true := by simpa using hst
    have qq2 : (s == T) = false := by simpa using hst
    rw [HE.out]
    clear HOK hst e3
    go_enter Tryz.func45, Tryz.ntmps45
    go_wp2_with fail
    go_quiet (first | (go_at_call 84; first | (with_reducible exact Calls.quiet_of_same (H1.out _)) | (with_reducible exact Calls.quiet_of_same (H2.out _)) | (with_reducible exact Calls.quiet_of_same (H3.out _))))
    go_wp2_with (first | fail | (go_at_call 52; refine (HH.out _).mono ?_; rintro e w3 ⟨rfl, hf3⟩))
    go_ret3
    exact ⟨rfl, fr_drewN.trans hf3 (fun _ _ f => f)⟩

end Go.Proofs.YtjkhcfdflcndkaaGreat.D
