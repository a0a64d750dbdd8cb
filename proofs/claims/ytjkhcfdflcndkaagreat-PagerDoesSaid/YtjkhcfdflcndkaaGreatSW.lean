/-
  PagerDoes: what it computes. Scripts whose rows are not longer than 2^44.
-/
import Derived.Test.YtjkhcfdflcndkaaGreatS3
import Derived.Test.YtjkhcfdflcndkaaGreatKO30
import Derived.Test.YtjkhcfdflcndkaaGreatKO29
import Derived.Test.YtjkhcfdflcndkaaGreatKO13
import Derived.Test.YtjkhcfdflcndkaaGreatKO14
import Derived.Test.YtjkhcfdflcndkaaGreatKO11
import Derived.Test.YtjkhcfdflcndkaaGreatKO15
import Derived.Test.YtjkhcfdflcndkaaGreatKO06
import Derived.Deep.RegionHeld3
import Derived.Deep.DeepCutAuto
import Derived.Deep.CutBlock
import Derived.Deep.CutRange
import Derived.BigQuiet
namespace Go.Proofs.YtjkhcfdflcndkaaGreat.D
open Go.RowKit Go.Maps Go.Shelf
set_option linter.unusedVariables false
set_option linter.unusedSimpArgs false

theorem PD.besideA {w w' : World} {p g bm ml mt m b1 b2 : Nat} {P : PSt} {S R : St} (h : PD w p g bm ml mt P S) (hr : RA w m b1 b2 R) (hf : Fr (fun i => i = m ∨ i = b1 ∨ i = b2) w w') : PD w' p g bm ml mt P S := by
  obtain ⟨c, hc⟩ := h.da.isDisk
  have nm : ∀ b, (∃ es c, w.heap[b]? = some (.map es c)) → ¬ (b = m ∨ b = b1 ∨ b = b2) := by
    rintro b ⟨es, c, hb⟩
    obtain ⟨⟨c1, c2, kv, h1, _⟩, ⟨x, h3, _⟩, ⟨y, h4, _⟩, _⟩ := hr
    rintro (e | e | e) <;> subst e
    · rw [h1] at hb; cases hb
    · rw [h3] at hb; cases hb
    · rw [h4] at hb; cases hb
  exact h.keep hf (rcells_apart hr h.pa.1 (by decide) (by decide)) (rcells_apart hr hc (by decide) (by decide)) (nm _ h.da.isMap) (nm _ h.pa.2.1.isMap) (nm _ h.pa.2.2.1.isMap) (fun b cur hb => rcells_apart hr hb (by decide) (by decide))
theorem keepB {w0 w w' : World} {a b : Addr} {x y : Value} (h : w.cell? a = some x ∧ w.cell? b = some y ∧ Fr (fun _ => False) w0 w) (hf : Fr (fun _ => False) w w') : w'.cell? a = some x ∧ w'.cell? b = some y ∧ Fr (fun _ => False) w0 w' :=
  ⟨cells_stay2 hf h.1, cells_stay2 hf h.2.1, h.2.2.trans hf (fun _ _ f => f)⟩
theorem lastB {w0 w : World} {a b : Addr} {x y : Value} (h : w.cell? a = some x ∧ w.cell? b = some y ∧ Fr (fun _ => False) w0 w) : Fr (fun _ => False) w0 w := h.2.2

set_option maxHeartbeats 16000000 in
set_option maxRecDepth 100000 in
theorem pdoes_law (V : WV) (hV : WOk V) (A : Option Addr) (cap : Nat) (ops : List OpV) (w : World) (hS : ScriptAt w A ops) (hsz : ∀ (i : Nat) (o : OpV), ops[i]? = some o → o.kept.length * 8 ≤ 140737488355328 ∧ o.pages.length * 8 ≤ 140737488355328) :
    Calls Tryz.prog 4 #[.agg #[.string (bs V.im), .int .i64 V.first, .int .i64 V.count, .int .i64 V.from_, .slice A ops.length cap]] w fun e w' => e = .returned (.bool true) ∧ Fr (fun _ => False) w w' := by
  obtain ⟨im, f, c, n0⟩ := V
  obtain ⟨him, ⟨f1, f2⟩, ⟨c1, c2⟩, ⟨n1, n2⟩⟩ := hV
  simp only at him f1 f2 c1 c2 n1 n2 ⊢
  obtain ⟨bx, hbx⟩ : ∃ bx : Array Value, bx = #[.string (bs im), .int .i64 f, .int .i64 c, .int .i64 n0, .slice A ops.length cap] := ⟨_, rfl⟩
  obtain ⟨w1, hw1⟩ : ∃ w1, w1 = w.alloc (.cells #[.string (bs im), .int .i64 f, .int .i64 c, .int .i64 n0, .slice A ops.length cap] 24) := ⟨_, rfl⟩
  obtain ⟨x1, hx1⟩ : ∃ x1, x1 = w.heap.size := ⟨_, rfl⟩
  have HF1 := hid (show Fr (fun _ => False) w w1 from hw1 ▸ (Fr.refl _ w).alloc _)
  have hnew : w1.heap[x1]? = some (.cells #[.string (bs im), .int .i64 f, .int .i64 c, .int .i64 n0, .slice A ops.length cap] 24) := by rw [hw1, hx1]; exact (MapKept.heap_alloc w _).1
  have k0 : w1.cell? ⟨x1, 0, none⟩ = some (.string (bs im)) := cell_at hnew 0
  rw [← hbx] at hnew
  have HB1 := hid hnew
  have HBX := hid hbx
  have HX1 := hid hx1
  have HW1 := hid hw1
  rw [hw1, hx1] at k0
  have HDK := hid (disks_c w1 im him)
  have HSC := hid hS
  have hopl : ops.length ≤ 9223372036854775807 := hS.1
  have HSZ := hid hsz
  have HNM := hid (And.intro f1 f2)
  clear hbx hS hsz hnew hw1 hx1
  go_enter Tryz.func4, Tryz.ntmps4
  go_wp2_with fail
  rw [← HW1.out, ← HX1.out]
  refine HDK.out.mono ?_
  rintro e w2 ⟨g0, bm0, m, b10, b20, N, rfl, hdj⟩
  obtain ⟨S0, hS0⟩ : ∃ S, S = news (imgOf im) := ⟨_, rfl⟩
  rw [← hS0] at hdj
  have HDJ := hid hdj
  have HB2 := hid (hdj.fr.at HB1.out (fun f => f))
  have k1 : w2.cell? ⟨x1, 1, none⟩ = some (.int .i64 f) := by rw [cell_at HB2.out 1, HBX.out]; rfl
  have k2 : w2.cell? ⟨x1, 2, none⟩ = some (.int .i64 c) := by rw [cell_at HB2.out 2, HBX.out]; rfl
  have k3 : w2.cell? ⟨x1, 3, none⟩ = some (.int .i64 n0) := by rw [cell_at HB2.out 3, HBX.out]; rfl
  have HPF := hid (pformat_c w2 g0 bm0 S0 HDJ.out.at_ HDJ.out.ok f c n0 f1 f2)
  unfold PFmtC at HPF
  clear hdj hS0 k0 HDK
  go_wp2_with fail
  refine HPF.out.mono ?_
  intro e3 w3 hp3
  have HP3 := hid hp3
  have HR3 := hid (RC.beside HDJ.out.ra HDJ.out.at_ hp3.1)
  have hb3 := hp3.1.at HB2.out (cells_apart HDJ.out.at_ HB2.out (by decide))
  have j1 : w3.cell? ⟨x1, 1, none⟩ = some (.int .i64 f) := by rw [cell_at hb3 1, HBX.out]; rfl
  have j2 : w3.cell? ⟨x1, 2, none⟩ = some (.int .i64 c) := by rw [cell_at hb3 2, HBX.out]; rfl
  have j3 : w3.cell? ⟨x1, 3, none⟩ = some (.int .i64 n0) := by rw [cell_at hb3 3, HBX.out]; rfl
  have HB3 := hid hb3
  have HRF := hid (rpformat_c w3 m b10 b20 S0 HR3.out HDJ.out.rok f c n0 f1 f2)
  unfold RFmtC at HRF
  have HFO := hid (format_ok HDJ.out.ok f c n0)
  clear hp3 hb3 k1 k2 k3 HPF
  rcases format_two (S := S0) (f := f) (c := c) (n := n0) with ⟨h0, hc⟩ | ⟨P0, h0⟩
  · as_aux_lemma =>
      obtain ⟨h3, bm3, hA3, hbm3⟩ := HP3.out.2.2 h0
      obtain ⟨C, hC⟩ : ∃ C, C = (formatP S0 f c n0).2.2 := ⟨_, rfl⟩
      rw [← hC] at h3 hc
      subst h3
      have HC := hid hC
      have H0 := hid h0
      have q1 : (C == C) = true := by simp
      have q2 : (C == 0) = false := by simpa using hc
      have q3 : (C != 0) = true := by simpa using hc
      clear hC h0 hc hA3 hbm3
      go_wp2_with fail
      refine HRF.out.mono ?_
      intro e4 w4 hp4
      obtain ⟨h4, ht4⟩ := hp4.2.2 H0.out
      rw [← HC.out] at h4
      subst h4
      have HF4 := hid (show Fr (fun _ => False) w w4 by
        have hlo := HDJ.out.low
        have hs1 := HF1.out.size
        exact ((HF1.out.trans HDJ.out.fr (fun _ _ f => f)).trans HP3.out.1 (fun i hi e => by omega)).trans hp4.1 (fun i hi e => by omega))
      clear hp4 ht4 HRF j1 j2 j3
      go_wp2_with fail
      refine (fixed_c _).mono ?_
      rintro e w5 ⟨rfl, hf5⟩
      have HF5 := hid (HF4.out.trans hf5 (fun _ _ f => f))
      clear hf5
      go_wp2_with fail
      go_ret
      exact ⟨rfl, HF5.out⟩
  obtain ⟨p0, ml0, mt0, bm3, rfl, hpd3, l1, l2, l3, l4⟩ := HP3.out.2.1 P0 h0
  have HPD3 := hid hpd3
  have HL3 := hid (And.intro l1 (And.intro l2 (And.intro l3 l4)))
  have H0 := hid h0
  clear h0 hpd3 l1 l2 l3 l4
  go_wp2_with fail
  refine HRF.out.mono ?_
  intro e4 w4 hp4
  obtain ⟨q0, ub0, b14, b24, rfl, hrd4, l1, l2, l3, l4⟩ := hp4.2.1 P0 H0.out
  obtain ⟨S1, hS1⟩ : ∃ S1, S1 = (formatP S0 f c n0).2.1 := ⟨_, rfl⟩
  have HJ4 := hid (show DJP w w4 [(x1, bx, 24)] p0 g0 bm3 ml0 mt0 q0 m ub0 b14 b24 N P0 S1 P0 S1 from by
    have hlo := HDJ.out.low
    have hs1 := HF1.out.size
    have hs2 := HDJ.out.fr.size
    have hs3 := HP3.out.1.size
    have hl3 := HL3.out
    have hx1 := HX1.out
    have hok := HFO.out
    rw [← hS1] at hrd4 hok
    have hp3 := HPD3.out
    rw [← hS1] at hp3
    have hb4 := hp4.1.at HB3.out (rcells_apart HR3.out HB3.out (by decide) (by decide))
    refine ⟨hp3.besideA HR3.out hp4.1, hrd4, hok.1, ?_, hok.1, ?_, ⟨hok.2.1.trans HDJ.out.n.1, hok.2.1.trans HDJ.out.n.1⟩, ?_, ?_, by omega, by omega⟩
    · exact HDJ.out.n.1 ▸ hok.2.2 P0 H0.out
    · exact HDJ.out.n.1 ▸ hok.2.2 P0 H0.out
    · intro e he
      rcases List.mem_singleton.1 he with rfl
      exact ⟨hb4, Or.inl rfl⟩
    · exact ((HF1.out.trans HDJ.out.fr (fun _ _ f => f)).trans HP3.out.1 (fun i hi e => by omega)).trans hp4.1 (fun i hi e => by omega))
  clear hp4 hrd4 l1 l2 l3 l4 hS1 j1 j2 j3 HRF HPD3 HL3 HP3 HR3 HB3 HB2 HFO H0 HDJ HF1 HB1
  go_wp2_with fail
  go_loopw [2, 3, 5, 7, 9] (fun v2 v3 v5 v7 v9 wx => ∃ (i p g bm ml mt q ub b1 b2 : Nat) (P : PSt) (S : St), v2 = .bool false ∧ v3 = .pointer (some ⟨g, 0, none⟩) ∧ v5 = .pointer (some ⟨p, 0, none⟩) ∧ v7 = .pointer (some ⟨q, 0, none⟩) ∧ v9 = .int .i64 i ∧ i ≤ ops.length ∧
    Hid (DJP w wx [(x1, bx, 24)] p g bm ml mt q m ub b1 b2 N P S P S)) (fun _ _ _ _ v _ => ops.length - (intOf v).toNat)
  case atStart => exact ⟨0, p0, g0, bm3, ml0, mt0, q0, ub0, b14, b24, P0, S1, rfl, rfl, rfl, rfl, rfl, Nat.zero_le _, HJ4⟩
  case round =>
    obtain ⟨i, p, g, bm, ml, mt, q, ub, b1, b2, P, S, rfl, rfl, rfl, rfl, rfl, hi, HJ⟩ := hrel
    have k4 : wr.cell? ⟨x1, 4, none⟩ = some (.slice A ops.length cap) := by rw [cell_at HJ.out.box1 4]; show bx[4]? = _; rw [HBX.out]; rfl
    by_cases hend : i = ops.length
    · as_aux_lemma =>
        subst hend
        go_wp2_with fail
        refine (fixed_c _).mono ?_
        rintro e w8 ⟨rfl, hf8⟩
        have HF8 := hid (HJ.out.fr.trans hf8 (fun _ _ f => f))
        clear hf8
        go_wp2_with fail
        go_ret
        exact ⟨rfl, HF8.out⟩
    have hi' : i < ops.length := by omega
    have hsc := HSC.out.stay HJ.out.fr
    obtain ⟨b0, o0, hA, hp⟩ : ∃ b o, A = some ⟨b, o, none⟩ ∧ ∀ i q, ops[i]? = some q → OpOk wr q ∧
        wr.cell? ⟨b, o + i * 6, none⟩ = some (.int .i64 q.kind) ∧ wr.cell? ⟨b, o + i * 6 + 1, none⟩ = some (.int .i64 q.at_) ∧ wr.cell? ⟨b, o + i * 6 + 2, none⟩ = some (.int .i64 q.n) ∧ wr.cell? ⟨b, o + i * 6 + 3, none⟩ = some (.string (bs q.text)) ∧ wr.cell? ⟨b, o + i * 6 + 4, none⟩ = some q.pv ∧ wr.cell? ⟨b, o + i * 6 + 5, none⟩ = some q.kv := by
      rcases hsc.2 with h | h
      · subst h; simp at hi'
      · exact h
    subst hA
    obtain ⟨⟨kd, ka, kn, tx, pv, kv, pgs, kps⟩, hop⟩ : ∃ q, ops[i]? = some q := ⟨ops[i], by simp [hi']⟩
    obtain ⟨hok, q0, q1, q2, q3, q4, q5⟩ := hp i _ hop
    simp only at q0 q1 q2 q3 q4 q5
    have HOP := hid hok
    have HKL := hid (HSZ.out i _ hop)
    have hokW : OpOk w ⟨kd, ka, kn, tx, pv, kv, pgs, kps⟩ := by
      obtain ⟨b9, o9, h9, hq9⟩ : ∃ b o, (some ⟨b0, o0, none⟩ : Option Addr) = some ⟨b, o, none⟩ ∧ ∀ i q, ops[i]? = some q → OpOk w q := by
        rcases HSC.out.2 with h | ⟨b, o, h, hh⟩
        · subst h; simp at hi'
        · exact ⟨b, o, h, fun i q hq => (hh i q hq).1⟩
      exact hq9 i _ hop
    have HOW := hid hokW
    obtain ⟨pa, pc, epv, _⟩ := id hok.pg
    simp only at epv
    subst epv
    obtain ⟨ka2, kc2, ekv, _⟩ := id hok.kp
    simp only at ekv
    subst ekv
    obtain ⟨oc, hoc⟩ : ∃ oc : Array Value, oc = #[.int .i64 kd, .int .i64 ka, .int .i64 kn, .string (bs tx), .slice pa pgs.length pc, .slice ka2 kps.length kc2] := ⟨_, rfl⟩
    obtain ⟨w6, hw6⟩ : ∃ w6, w6 = wr.alloc (.cells #[.int .i64 kd, .int .i64 ka, .int .i64 kn, .string (bs tx), .slice pa pgs.length pc, .slice ka2 kps.length kc2] 47) := ⟨_, rfl⟩
    obtain ⟨bo, hbo⟩ : ∃ bo, bo = wr.heap.size := ⟨_, rfl⟩
    have hf6 : Fr (fun _ => False) wr w6 := hw6 ▸ (Fr.refl _ wr).alloc _
    have ho6 : w6.heap[bo]? = some (.cells oc 47) := by rw [hw6, hbo, hoc]; exact (MapKept.heap_alloc wr _).1
    have HJ6 := hid ((HJ.out.stay hf6).box ho6 (Or.inr rfl))
    have hk0 : w6.cell? ⟨bo, 0, none⟩ = some (.int .i64 kd) := by rw [cell_at ho6 0, hoc]; rfl
    have HOC := hid hoc
    have HW6 := hid hw6
    have HBO := hid hbo
    rw [hw6, hbo] at hk0
    clear hp hop hok hsc hend hokW hoc hw6 hbo hf6 ho6 HJ
    go_upto_block 2 with fail
    rw [← HW6.out, ← HBO.out]
    rw [← HW6.out, ← HBO.out] at hk0
    clear q0 q1 q2 q3 q4 q5 k4
    go_cut [2, 3, 5, 7, 9, 10, 11, 12, 13, 14] (fun s2 s3 s5 s7 s9 s10 s11 s12 s13 s14 wy => s2 = .bool false ∧ s9 = .int .i64 i ∧ s10 = .pointer (some ⟨bo, 0, none⟩) ∧ ∃ (p' g' bm' ml' mt' q' ub' b1' b2' : Nat) (P' : PSt) (S' : St) (cd xx : Int), s3 = .pointer (some ⟨g', 0, none⟩) ∧ s5 = .pointer (some ⟨p', 0, none⟩) ∧ s7 = .pointer (some ⟨q', 0, none⟩) ∧ s11 = .int .i64 cd ∧ s12 = .int .i64 cd ∧ s13 = .int .i64 xx ∧ s14 = .int .i64 xx ∧
      Hid (DJP w wy [(bo, oc, 47), (x1, bx, 24)] p' g' bm' ml' mt' q' m ub' b1' b2' N P' S' P' S'))
    case first =>
      have HSN := hid (HJ6.out.n.1)
      have HPK := hid (show P.Ok S.n from HJ6.out.n.1 ▸ HJ6.out.pok)
      have HPG := hid (show IntsV w6 (.slice pa pgs.length pc) pgs from HOW.out.pg.stay HJ6.out.fr)
      have HKP := hid (show IntsV w6 (.slice ka2 kps.length kc2) kps from HOW.out.kp.stay HJ6.out.fr)
      by_cases z0 : kd = 0
      · as_aux_lemma =>
          subst z0
          have HSO := hid (show S.Ok ∧ S.n = N ∧ P.alloc.1.Ok N from ⟨HJ6.out.ok, HSN.out, alloc_ok HJ6.out.pok⟩)
          have HC0 := hid (palloc_c w6 p g bm ml mt P S HJ6.out.pd HPK.out)
          have HR0 := hid (fun (bm' ml' : Nat) W P2 S2 (h : DJP w W [(bo, oc, 47), (x1, bx, 24)] p g bm' ml' mt q m ub b1 b2 N P2 S2 P S) => rpalloc_c W q m ub P h.rd.pa HPK.out.p1 HPK.out.p2)
          obtain ⟨X, hX⟩ : ∃ X, X = P.alloc := ⟨_, rfl⟩
          rw [← hX] at HC0 HSO
          simp only [← hX] at HR0
          clear hX
          have HC := hid (HC0.out.mono (fun e w' ⟨x1, x2, x3⟩ => show e = Ending.returned (.tuple #[.int .i64 X.2.1, .int .i64 X.2.2]) ∧ PTurn w6 w' p g bm ml mt X.1 S from ⟨x1, PTurn.ofM x2 x3⟩))
          have HR := hid (fun (bm' ml' : Nat) W (h : DJP w W [(bo, oc, 47), (x1, bx, 24)] p g bm' ml' mt q m ub b1 b2 N X.1 S P S) => (HR0.out bm' ml' W _ _ h).mono (fun e w' ⟨x1, u, x2, x3, x4⟩ => show e = Ending.returned (.tuple #[.int .i64 X.2.1, .int .i64 X.2.2]) ∧ RPTurn W w' q m ub b1 b2 X.1 S from ⟨x1, h.rd.pturn ⟨u, x2, x3, x4⟩⟩))
          clear HC0 HR0
          go_wp2_with fail
          refine HC.out.mono ?_
          rintro e w7 ⟨rfl, ht7⟩
          obtain ⟨bm7, ml7, hj7⟩ := HJ6.out.turn ht7 HSO.out
          have HJ7 := hid hj7
          clear ht7 hj7
          go_wp2_with fail
          refine (HR.out _ _ _ HJ7.out).mono ?_
          rintro e w8 ⟨rfl, ht8⟩
          obtain ⟨ub8, b18, b28, hj8⟩ := HJ7.out.rturn ht8 HSO.out
          have HJ8 := hid hj8
          clear ht8 hj8
          go_wp2_with fail
          go_meet
          exact ⟨rfl, rfl, rfl, p, g, bm7, ml7, mt, q, ub8, b18, b28, _, _, _, _, rfl, rfl, rfl, rfl, rfl, rfl, rfl, HJ8⟩
      by_cases z1 : kd = 1
      · as_aux_lemma =>
          subst z1
          have HC := hid (pwrite_c w6 p g bm ml mt P S HJ6.out.pd ka tx HJ6.out.ok HPK.out HOP.out.a1 HOP.out.a2 HOP.out.rl)
          have HSO := hid ((show (P.write S ka tx).2.1.Ok ∧ (P.write S ka tx).2.1.n = N ∧ (P.write S ka tx).1.Ok N from by have h := pwrite_ok HJ6.out.ok HPK.out ka tx; rw [HSN.out] at h; exact ⟨h.2.1, h.2.2, h.1⟩))
          have HR0 := hid (fun (bm' ml' : Nat) W P2 S2 (h : DJP w W [(bo, oc, 47), (x1, bx, 24)] p g bm' ml' mt q m ub b1 b2 N P2 S2 P S) => rpwrite_c W q m ub b1 b2 P S h.rd h.rok HPK.out ka tx HOP.out.rl)
          unfold PWriteC at HC
          obtain ⟨X, hX⟩ : ∃ X, X = P.write S ka tx := ⟨_, rfl⟩
          rw [← hX] at HC HSO
          simp only [← hX] at HR0
          clear hX
          have HR := hid (fun (bm' ml' : Nat) W (h : DJP w W [(bo, oc, 47), (x1, bx, 24)] p g bm' ml' mt q m ub b1 b2 N X.1 X.2.1 P S) => HR0.out bm' ml' W _ _ h)
          clear HR0
          have o1 : w6.cell? ⟨bo, 1, none⟩ = some (.int .i64 ka) := by rw [cell_at HJ6.out.box1 1]; show oc[1]? = _; rw [HOC.out]; rfl
          have o3 : w6.cell? ⟨bo, 3, none⟩ = some (.string (bs tx)) := by rw [cell_at HJ6.out.box1 3]; show oc[3]? = _; rw [HOC.out]; rfl
          go_wp2_with fail
          refine HC.out.mono ?_
          rintro e w7 ⟨rfl, ht7⟩
          obtain ⟨bm7, ml7, hj7⟩ := HJ6.out.turn ht7 HSO.out
          have HJ7 := hid hj7
          clear ht7 hj7
          have o1 : w7.cell? ⟨bo, 1, none⟩ = some (.int .i64 ka) := by rw [cell_at HJ7.out.box1 1]; show oc[1]? = _; rw [HOC.out]; rfl
          have o3 : w7.cell? ⟨bo, 3, none⟩ = some (.string (bs tx)) := by rw [cell_at HJ7.out.box1 3]; show oc[3]? = _; rw [HOC.out]; rfl
          go_wp2_with fail
          refine (HR.out _ _ _ HJ7.out).mono ?_
          rintro e w8 ⟨rfl, ht8⟩
          obtain ⟨ub8, b18, b28, hj8⟩ := HJ7.out.rturn ht8 HSO.out
          have HJ8 := hid hj8
          clear ht8 hj8
          go_wp2_with fail
          go_meet
          exact ⟨rfl, rfl, rfl, p, g, bm7, ml7, mt, q, ub8, b18, b28, _, _, _, 0, rfl, rfl, rfl, rfl, rfl, rfl, rfl, HJ8⟩
      by_cases z2 : kd = 2
      · as_aux_lemma =>
          subst z2
          have HC := hid (plive_c w6 p g bm ml mt P S HJ6.out.pd HPK.out.p2 (.slice pa pgs.length pc) pgs HPG.out HOP.out.pb)
          have HSO := hid ((show S.Ok ∧ S.n = N ∧ (P.setLive pgs).1.Ok N from ⟨HJ6.out.ok, HSN.out, live_ok HJ6.out.pok pgs⟩))
          have HR0 := hid (fun (bm' ml' : Nat) W P2 S2 (h : DJP w W [(bo, oc, 47), (x1, bx, 24)] p g bm' ml' mt q m ub b1 b2 N P2 S2 P S) => (rplive_c W q m ub P h.rd.pa HPK.out.p2 (.slice pa pgs.length pc) pgs (HOW.out.pg.stay h.fr)).mono (fun e w' ⟨x1, x2⟩ => show e = Ending.returned (.int .i64 (P.setLive pgs).2) ∧ RPTurn W w' q m ub b1 b2 (P.setLive pgs).1 S from ⟨x1, h.rd.pturn x2⟩))
          obtain ⟨X, hX⟩ : ∃ X, X = P.setLive pgs := ⟨_, rfl⟩
          rw [← hX] at HC HSO
          simp only [← hX] at HR0
          clear hX
          have HR := hid (fun (bm' ml' : Nat) W (h : DJP w W [(bo, oc, 47), (x1, bx, 24)] p g bm' ml' mt q m ub b1 b2 N X.1 S P S) => HR0.out bm' ml' W _ _ h)
          clear HR0
          have o4 : w6.cell? ⟨bo, 4, none⟩ = some (.slice pa pgs.length pc) := by rw [cell_at HJ6.out.box1 4]; show oc[4]? = _; rw [HOC.out]; rfl
          go_wp2_with fail
          refine HC.out.mono ?_
          rintro e w7 ⟨rfl, ht7⟩
          obtain ⟨bm7, ml7, hj7⟩ := HJ6.out.turn ht7 HSO.out
          have HJ7 := hid hj7
          clear ht7 hj7
          have o4 : w7.cell? ⟨bo, 4, none⟩ = some (.slice pa pgs.length pc) := by rw [cell_at HJ7.out.box1 4]; show oc[4]? = _; rw [HOC.out]; rfl
          go_wp2_with fail
          refine (HR.out _ _ _ HJ7.out).mono ?_
          rintro e w8 ⟨rfl, ht8⟩
          obtain ⟨ub8, b18, b28, hj8⟩ := HJ7.out.rturn ht8 HSO.out
          have HJ8 := hid hj8
          clear ht8 hj8
          go_wp2_with fail
          go_meet
          exact ⟨rfl, rfl, rfl, p, g, bm7, ml7, mt, q, ub8, b18, b28, _, _, _, 0, rfl, rfl, rfl, rfl, rfl, rfl, rfl, HJ8⟩
      by_cases z3 : kd = 3
      · as_aux_lemma =>
          subst z3
          have HC := hid ((pdrop_c w6 p g bm ml mt P S HJ6.out.pd).mono (fun e w' ⟨x1, x2, x3⟩ => show e = Ending.returned (.tuple #[]) ∧ PTurn w6 w' p g bm ml mt P.drop S from ⟨x1, PTurn.ofM x2 x3⟩))
          have HSO := hid (show S.Ok ∧ S.n = N ∧ P.drop.Ok N from ⟨HJ6.out.ok, HSN.out, drop_ok HJ6.out.pok⟩)
          have HR := hid (fun (bm' ml' : Nat) W (h : DJP w W [(bo, oc, 47), (x1, bx, 24)] p g bm' ml' mt q m ub b1 b2 N P.drop S P S) => (rpdrop_c W q m ub P h.rd.pa HPK.out.p2).mono (fun e w' ⟨x1, x2⟩ => show e = Ending.returned (.tuple #[]) ∧ RPTurn W w' q m ub b1 b2 P.drop S from ⟨x1, h.rd.pturn (x2.t ub)⟩))
          go_wp2_with fail
          refine HC.out.mono ?_
          rintro e w7 ⟨rfl, ht7⟩
          obtain ⟨bm7, ml7, hj7⟩ := HJ6.out.turn ht7 HSO.out
          have HJ7 := hid hj7
          clear ht7 hj7
          go_wp2_with fail
          refine (HR.out _ _ _ HJ7.out).mono ?_
          rintro e w8 ⟨rfl, ht8⟩
          obtain ⟨ub8, b18, b28, hj8⟩ := HJ7.out.rturn ht8 HSO.out
          have HJ8 := hid hj8
          clear ht8 hj8
          go_wp2_with fail
          go_meet
          exact ⟨rfl, rfl, rfl, p, g, bm7, ml7, mt, q, ub8, b18, b28, _, _, 0, 0, rfl, rfl, rfl, rfl, rfl, rfl, rfl, HJ8⟩
      by_cases z4 : kd = 4
      · as_aux_lemma =>
          subst z4
          have HC := hid (pcommit_c w6 p g bm ml mt P S HJ6.out.pd ka kn (.slice pa pgs.length pc) pgs HJ6.out.ok HPK.out HPG.out HOP.out.pb HOP.out.a1 HOP.out.a2)
          have HSO := hid ((show (P.commit S ka kn pgs).2.1.Ok ∧ (P.commit S ka kn pgs).2.1.n = N ∧ (P.commit S ka kn pgs).1.Ok N from by have h := commit_ok HJ6.out.ok HPK.out ka kn pgs; rw [HSN.out] at h; exact ⟨h.2.1, h.2.2, h.1⟩))
          have HR0 := hid (fun (bm' ml' : Nat) W P2 S2 (h : DJP w W [(bo, oc, 47), (x1, bx, 24)] p g bm' ml' mt q m ub b1 b2 N P2 S2 P S) => rpcommit_c W q m ub b1 b2 P S h.rd h.rok HPK.out ka kn (.slice pa pgs.length pc) pgs (HOW.out.pg.stay h.fr) (h.ints HOW.out.pg))
          unfold PCommitC at HC
          unfold RCommitC at HR0
          obtain ⟨X, hX⟩ : ∃ X, X = P.commit S ka kn pgs := ⟨_, rfl⟩
          rw [← hX] at HC HSO
          simp only [← hX] at HR0
          clear hX
          have HR := hid (fun (bm' ml' : Nat) W (h : DJP w W [(bo, oc, 47), (x1, bx, 24)] p g bm' ml' mt q m ub b1 b2 N X.1 X.2.1 P S) => HR0.out bm' ml' W _ _ h)
          clear HR0
          have o1 : w6.cell? ⟨bo, 1, none⟩ = some (.int .i64 ka) := by rw [cell_at HJ6.out.box1 1]; show oc[1]? = _; rw [HOC.out]; rfl
          have o2 : w6.cell? ⟨bo, 2, none⟩ = some (.int .i64 kn) := by rw [cell_at HJ6.out.box1 2]; show oc[2]? = _; rw [HOC.out]; rfl
          have o4 : w6.cell? ⟨bo, 4, none⟩ = some (.slice pa pgs.length pc) := by rw [cell_at HJ6.out.box1 4]; show oc[4]? = _; rw [HOC.out]; rfl
          go_wp2_with fail
          refine HC.out.mono ?_
          rintro e w7 ⟨rfl, ht7⟩
          obtain ⟨bm7, ml7, hj7⟩ := HJ6.out.turn ht7 HSO.out
          have HJ7 := hid hj7
          clear ht7 hj7
          have o1 : w7.cell? ⟨bo, 1, none⟩ = some (.int .i64 ka) := by rw [cell_at HJ7.out.box1 1]; show oc[1]? = _; rw [HOC.out]; rfl
          have o2 : w7.cell? ⟨bo, 2, none⟩ = some (.int .i64 kn) := by rw [cell_at HJ7.out.box1 2]; show oc[2]? = _; rw [HOC.out]; rfl
          have o4 : w7.cell? ⟨bo, 4, none⟩ = some (.slice pa pgs.length pc) := by rw [cell_at HJ7.out.box1 4]; show oc[4]? = _; rw [HOC.out]; rfl
          go_wp2_with fail
          refine (HR.out _ _ _ HJ7.out).mono ?_
          rintro e w8 ⟨rfl, ht8⟩
          obtain ⟨ub8, b18, b28, hj8⟩ := HJ7.out.rturn ht8 HSO.out
          have HJ8 := hid hj8
          clear ht8 hj8
          go_wp2_with fail
          go_meet
          exact ⟨rfl, rfl, rfl, p, g, bm7, ml7, mt, q, ub8, b18, b28, _, _, _, 0, rfl, rfl, rfl, rfl, rfl, rfl, rfl, HJ8⟩
      by_cases z5 : kd = 5
      · as_aux_lemma =>
          subst z5
          have HKG := hid (show kps ≠ [] → ∀ a x y, Value.slice ka2 kps.length kc2 = .slice (some a) x y → a.block ≠ m from by
            intro hk0 a x y ha e
            obtain ⟨a', c', e0, _, h2⟩ := HOW.out.kp
            rcases h2 with h2 | ⟨b, o, h2, h3⟩
            · exact hk0 h2
            · injection ha with ha _ _
              injection e0 with e0 _ _
              have hlt := World.block_lt_of_cell? w _ (h3 0 (by cases kps with | nil => exact absurd rfl hk0 | cons _ _ => simp))
              have hlo := HJ6.out.rlow
              rw [ha] at e0
              rw [h2] at e0
              injection e0 with e0
              rw [e0] at e
              simp only at e hlt
              omega)
          have HC := hid ((arm_c w6 g bm S HJ6.out.pd.da HJ6.out.ok kn HOP.out.n1 HOP.out.n2 _ kps HKP.out HKL.out.1).mono (fun e w' ⟨x1, x2, x3⟩ => show e = Ending.returned (.int .i64 (S.arm kn kps).2) ∧ PTurn w6 w' p g bm ml mt P (S.arm kn kps).1 from ⟨x1, HJ6.out.pd.dT x2 (Or.inl rfl) x3⟩))
          have HSO := hid ((show (S.arm kn kps).1.Ok ∧ (S.arm kn kps).1.n = N ∧ P.Ok N from ⟨(arm_ok HJ6.out.ok HOP.out.n2 kps).1, (arm_ok HJ6.out.ok HOP.out.n2 kps).2.trans HSN.out, HJ6.out.pok⟩))
          have HR0 := hid (fun (bm' ml' : Nat) W P2 S2 (h : DJP w W [(bo, oc, 47), (x1, bx, 24)] p g bm' ml' mt q m ub b1 b2 N P2 S2 P S) => (rarm_c W m b1 b2 S h.rd.ra h.rok kn HOP.out.n1 HOP.out.n2 (.slice ka2 kps.length kc2) kps (HOW.out.kp.stay h.fr) HKL.out.1 HKG.out).mono (fun e w' ⟨x1, x2⟩ => show e = Ending.returned (.int .i64 (S.arm kn kps).2) ∧ RPTurn W w' q m ub b1 b2 P (S.arm kn kps).1 from ⟨x1, h.rd.dturn x2⟩))
          obtain ⟨X, hX⟩ : ∃ X, X = S.arm kn kps := ⟨_, rfl⟩
          rw [← hX] at HC HSO
          simp only [← hX] at HR0
          clear hX
          have HR := hid (fun (bm' ml' : Nat) W (h : DJP w W [(bo, oc, 47), (x1, bx, 24)] p g bm' ml' mt q m ub b1 b2 N P X.1 P S) => HR0.out bm' ml' W _ _ h)
          clear HR0
          have o2 : w6.cell? ⟨bo, 2, none⟩ = some (.int .i64 kn) := by rw [cell_at HJ6.out.box1 2]; show oc[2]? = _; rw [HOC.out]; rfl
          have o5 : w6.cell? ⟨bo, 5, none⟩ = some (.slice ka2 kps.length kc2) := by rw [cell_at HJ6.out.box1 5]; show oc[5]? = _; rw [HOC.out]; rfl
          go_wp2_with fail
          refine HC.out.mono ?_
          rintro e w7 ⟨rfl, ht7⟩
          obtain ⟨bm7, ml7, hj7⟩ := HJ6.out.turn ht7 HSO.out
          have HJ7 := hid hj7
          clear ht7 hj7
          have o2 : w7.cell? ⟨bo, 2, none⟩ = some (.int .i64 kn) := by rw [cell_at HJ7.out.box1 2]; show oc[2]? = _; rw [HOC.out]; rfl
          have o5 : w7.cell? ⟨bo, 5, none⟩ = some (.slice ka2 kps.length kc2) := by rw [cell_at HJ7.out.box1 5]; show oc[5]? = _; rw [HOC.out]; rfl
          go_wp2_with fail
          refine (HR.out _ _ _ HJ7.out).mono ?_
          rintro e w8 ⟨rfl, ht8⟩
          obtain ⟨ub8, b18, b28, hj8⟩ := HJ7.out.rturn ht8 HSO.out
          have HJ8 := hid hj8
          clear ht8 hj8
          go_wp2_with fail
          go_meet
          exact ⟨rfl, rfl, rfl, p, g, bm7, ml7, mt, q, ub8, b18, b28, _, _, _, 0, rfl, rfl, rfl, rfl, rfl, rfl, rfl, HJ8⟩
      by_cases z6 : kd = 6
      · as_aux_lemma =>
          subst z6
          have HC := hid ((crash_c w6 g bm S HJ6.out.pd.da HJ6.out.ok _ kps HKP.out).mono (fun e w' ⟨x1, ⟨bm', x2, x4⟩, x3⟩ => show e = Ending.returned (.int .i64 (S.crash kps).2) ∧ PTurn w6 w' p g bm ml mt P (S.crash kps).1 from ⟨x1, HJ6.out.pd.dT x2 x4 x3⟩))
          have HSO := hid ((show (S.crash kps).1.Ok ∧ (S.crash kps).1.n = N ∧ P.Ok N from ⟨(crash_ok HJ6.out.ok kps).1, (crash_ok HJ6.out.ok kps).2.trans HSN.out, HJ6.out.pok⟩))
          have HR0 := hid (fun (bm' ml' : Nat) W P2 S2 (h : DJP w W [(bo, oc, 47), (x1, bx, 24)] p g bm' ml' mt q m ub b1 b2 N P2 S2 P S) => (rcrash_c W m b1 b2 S h.rd.ra h.rok (.slice ka2 kps.length kc2) kps (HOW.out.kp.stay h.fr)).mono (fun e w' ⟨x1, x2⟩ => show e = Ending.returned (.int .i64 (S.crash kps).2) ∧ RPTurn W w' q m ub b1 b2 P (S.crash kps).1 from ⟨x1, h.rd.dturn x2⟩))
          obtain ⟨X, hX⟩ : ∃ X, X = S.crash kps := ⟨_, rfl⟩
          rw [← hX] at HC HSO
          simp only [← hX] at HR0
          clear hX
          have HR := hid (fun (bm' ml' : Nat) W (h : DJP w W [(bo, oc, 47), (x1, bx, 24)] p g bm' ml' mt q m ub b1 b2 N P X.1 P S) => HR0.out bm' ml' W _ _ h)
          clear HR0
          have o5 : w6.cell? ⟨bo, 5, none⟩ = some (.slice ka2 kps.length kc2) := by rw [cell_at HJ6.out.box1 5]; show oc[5]? = _; rw [HOC.out]; rfl
          go_wp2_with fail
          refine HC.out.mono ?_
          rintro e w7 ⟨rfl, ht7⟩
          obtain ⟨bm7, ml7, hj7⟩ := HJ6.out.turn ht7 HSO.out
          have HJ7 := hid hj7
          clear ht7 hj7
          have o5 : w7.cell? ⟨bo, 5, none⟩ = some (.slice ka2 kps.length kc2) := by rw [cell_at HJ7.out.box1 5]; show oc[5]? = _; rw [HOC.out]; rfl
          go_wp2_with fail
          refine (HR.out _ _ _ HJ7.out).mono ?_
          rintro e w8 ⟨rfl, ht8⟩
          obtain ⟨ub8, b18, b28, hj8⟩ := HJ7.out.rturn ht8 HSO.out
          have HJ8 := hid hj8
          clear ht8 hj8
          go_wp2_with fail
          go_meet
          exact ⟨rfl, rfl, rfl, p, g, bm7, ml7, mt, q, ub8, b18, b28, _, _, _, 0, rfl, rfl, rfl, rfl, rfl, rfl, rfl, HJ8⟩
      by_cases z7 : kd = 7
      · as_aux_lemma =>
          subst z7
          have HC := hid ((revive_c w6 g bm S HJ6.out.pd.da).mono (fun e w' x => (show e = Ending.returned (.tuple #[]) ∧ PTurn w6 w' p g bm ml mt P S.revive from ⟨x.1, HJ6.out.pd.dT x.2.1 (Or.inl rfl) (x.2.2.mono (fun _ _ e => Or.inl e))⟩)))
          have HSO := hid (show S.revive.Ok ∧ S.revive.n = N ∧ P.Ok N from ⟨(revive_ok HJ6.out.ok).1, (revive_ok HJ6.out.ok).2.trans HSN.out, HJ6.out.pok⟩)
          have HR := hid (fun (bm' ml' : Nat) W (h : DJP w W [(bo, oc, 47), (x1, bx, 24)] p g bm' ml' mt q m ub b1 b2 N P S.revive P S) => (rrevive_c W m b1 b2 S.n S.armed (piece S.safe) (uns S) S.kept S.dead h.rd.ra).mono (fun e w' x => (show e = Ending.returned (.tuple #[]) ∧ RPTurn W w' q m ub b1 b2 P S.revive from ⟨x.1, h.rd.dturn ⟨⟨b1, b2, x.2.1, Or.inl rfl, Or.inl rfl⟩, x.2.2.mono (fun _ _ e => Or.inl e)⟩⟩)))
          go_wp2_with fail
          refine HC.out.mono ?_
          rintro e w7 ⟨rfl, ht7⟩
          obtain ⟨bm7, ml7, hj7⟩ := HJ6.out.turn ht7 HSO.out
          have HJ7 := hid hj7
          clear ht7 hj7
          go_wp2_with fail
          refine (HR.out _ _ _ HJ7.out).mono ?_
          rintro e w8 ⟨rfl, ht8⟩
          obtain ⟨ub8, b18, b28, hj8⟩ := HJ7.out.rturn ht8 HSO.out
          have HJ8 := hid hj8
          clear ht8 hj8
          go_wp2_with fail
          go_meet
          exact ⟨rfl, rfl, rfl, p, g, bm7, ml7, mt, q, ub8, b18, b28, _, _, 0, 0, rfl, rfl, rfl, rfl, rfl, rfl, rfl, HJ8⟩
      by_cases z8 : kd = 8
      · as_aux_lemma =>
          subst z8
          have x0 : w6.cell? ⟨x1, 0, none⟩ = some (.string (bs im)) := by rw [cell_at HJ6.out.box2 0]; show bx[0]? = _; rw [HBX.out]; rfl
          have xa : w6.cell? ⟨x1, 1, none⟩ = some (.int .i64 f) := by rw [cell_at HJ6.out.box2 1]; show bx[1]? = _; rw [HBX.out]; rfl
          have xb : w6.cell? ⟨x1, 2, none⟩ = some (.int .i64 c) := by rw [cell_at HJ6.out.box2 2]; show bx[2]? = _; rw [HBX.out]; rfl
          have xc : w6.cell? ⟨x1, 3, none⟩ = some (.int .i64 n0) := by rw [cell_at HJ6.out.box2 3]; show bx[3]? = _; rw [HBX.out]; rfl
          have xd : w6.cell? ⟨x1, 4, none⟩ = some (.slice (some ⟨b0, o0, none⟩) ops.length cap) := by rw [cell_at HJ6.out.box2 4]; show bx[4]? = _; rw [HBX.out]; rfl
          have HC := hid (opened_c w6 g bm m b1 b2 S HJ6.out.pd.da HJ6.out.rd.ra HJ6.out.ok im f c n0 (.slice (some ⟨b0, o0, none⟩) ops.length cap) HNM.out.1 HNM.out.2)
          go_wp2_with fail
          refine HC.out.mono ?_
          rintro e w7 ⟨hf7, hcase⟩
          have HF7 := hid hf7
          have HJ7 := hid (HJ6.out.stay hf7)
          clear x0 xa xb xc xd HC hf7
          rcases hcase with rfl | ⟨P2, p2, l2, t2, q2, u2, rfl, hop2, hpd2, hrd2, y1, y2, y3, y4⟩
          · go_wp2_with fail
            go_meet
            exact ⟨rfl, rfl, rfl, p, g, bm, ml, mt, q, ub, b1, b2, P, S, 0, 0, rfl, rfl, rfl, rfl, rfl, rfl, rfl, HJ7⟩
          · have hok2 : P2.Ok N := HSN.out ▸ open_ok f c P2 hop2
            have HJ8 := hid (HJ6.out.pagers HF7.out hpd2 hrd2 ⟨y1, y2, y3, y4⟩ ⟨hok2, hok2⟩)
            clear hop2 hpd2 hrd2 y1 y2 y3 y4 hok2
            go_wp2_with fail
            go_meet
            exact ⟨rfl, rfl, rfl, p2, g, bm, l2, t2, q2, u2, b1, b2, P2, S, 0, 0, rfl, rfl, rfl, rfl, rfl, rfl, rfl, HJ8⟩
      by_cases z9 : kd = 9
      · as_aux_lemma =>
          subst z9
          have HCL := hid (clone_c w6 g bm S HJ6.out.pd.da)
          go_wp2_with fail
          refine HCL.out.mono ?_
          rintro e w7 ⟨g2, bm2, rfl, hA7, hg2, hb2, hf7⟩
          have HA7 := hid hA7
          have HG7 := hid (And.intro hg2 hb2)
          have HF7 := hid hf7
          have HJ7 := hid (HJ6.out.stay hf7)
          have HPC := hid (pclone_c w7 p g g2 ml mt P HJ7.out.pd.pa)
          clear hA7 hg2 hb2 hf7 HCL
          go_wp2_with fail
          refine HPC.out.mono ?_
          rintro e w8 ⟨p2, l2, t2, rfl, hP8, hp2, hl2, ht2, hf8⟩
          have HF8 := hid hf8
          have HO8 := hid (HJ7.out.pd.stay hf8)
          have HM := hid (show (p < w6.heap.size ∧ g < w6.heap.size ∧ bm < w6.heap.size ∧ ml < w6.heap.size ∧ mt < w6.heap.size) ∧ (w6.heap.size ≤ p2 ∧ w6.heap.size ≤ g2 ∧ w6.heap.size ≤ bm2 ∧ w6.heap.size ≤ l2 ∧ w6.heap.size ≤ t2) from by
            have h1 := HJ6.out.pd.lt
            have h2 := HG7.out
            have h3 := HF7.out.size
            exact ⟨by omega, by omega⟩)
          have HJ8 := hid (show DJP w w8 [(bo, oc, 47), (x1, bx, 24)] p2 g2 bm2 l2 t2 q m ub b1 b2 N P S P S from by
            have h7 := HJ7.out.stay hf8
            have hs := HJ6.out.fr.size
            have hm := HM.out
            have hlt := HA7.out.low
            exact ⟨⟨hP8, HA7.out.stay hf8, by omega, by omega⟩, h7.rd, h7.ok, h7.pok, h7.rok, h7.qok, h7.n, h7.bx, h7.fr, by omega, h7.rlow⟩)
          have HPA := hid (palloc_c w8 p g bm ml mt P S HO8.out HPK.out)
          clear hP8 hp2 hl2 ht2 hf8 HPC
          obtain ⟨X, hX⟩ : ∃ X, X = P.alloc := ⟨_, rfl⟩
          rw [← hX] at HPA
          clear hX
          go_wp2_with fail
          refine HPA.out.mono ?_
          rintro e w9 ⟨rfl, hd9, hf9⟩
          have HJ9 := hid (HJ8.out.older HO8.out (hf9.mono (fun i _ e => by unfold inPD; omega)) w6.heap.size HM.out.1 HM.out.2 HJ6.out.low)
          have HO9 := hid hd9
          have HCR := hid (crash_c w9 g bm S HO9.out.da HJ6.out.ok (.slice none 0 0) [] ⟨none, 0, rfl, by simp, Or.inl rfl⟩)
          clear hd9 hf9 HPA
          go_wp2_with fail
          refine HCR.out.mono ?_
          rintro e w10 ⟨rfl, _, hf10⟩
          have HJ10 := hid (HJ9.out.older HO9.out (hf10.mono (fun i _ e => by unfold inPD; omega)) w6.heap.size HM.out.1 HM.out.2 HJ6.out.low)
          clear hf10 HCR
          go_wp2_with fail
          go_meet
          exact ⟨rfl, rfl, rfl, p2, g2, bm2, l2, t2, q, ub, b1, b2, P, S, 0, 0, rfl, rfl, rfl, rfl, rfl, rfl, rfl, HJ10⟩
      · as_aux_lemma =>
          go_wp2_with fail
          go_meet
          exact ⟨rfl, rfl, rfl, p, g, bm, ml, mt, q, ub, b1, b2, P, S, 0, 0, rfl, rfl, rfl, rfl, rfl, rfl, rfl, HJ6⟩
    case rest =>
      obtain ⟨rfl, rfl, rfl, p', g', bm', ml', mt', q', ub', b1', b2', P', S', cd, xx, rfl, rfl, rfl, rfl, rfl, rfl, rfl, HK⟩ := hcut
      obtain ⟨w7, hw7⟩ : ∃ w7, w7 = wc := ⟨_, rfl⟩
      rw [← hw7] at HK ⊢
      clear hw7
      have HKV := hid (HOW.out.kp.stay HK.out.fr)
      simp only at HKV
      have hI := hid (show ∀ w', Fr (fun _ => False) w7 w' → Calls Tryz.prog 15 #[.pointer (some ⟨g', 0, none⟩)] w' fun e w'' => e = .returned (.string (bs S'.image)) ∧ Fr (fun _ => False) w' w'' from fun w' hf => image_c w' g' bm' S' (HK.out.pd.da.stay hf) HK.out.ok)
      have hIR := hid (show ∀ w', Fr (fun _ => False) w7 w' → Calls Tryz.prog 16 #[.pointer (some ⟨m, 0, none⟩)] w' fun e w'' => e = .returned (.string (bs S'.image)) ∧ Fr (fun _ => False) w' w'' from fun w' hf => rimage_c w' m b1' b2' S' (RC.stay HK.out.rd.ra hf) HK.out.ok)
      have hA := hid (show ∀ w', Fr (fun _ => False) w7 w' → Calls Tryz.prog 39 #[.pointer (some ⟨g', 0, none⟩), .slice ka2 kps.length kc2] w' fun e w'' => e = .returned (.string (bs (S'.after kps))) ∧ Fr (fun _ => False) w' w'' from fun w' hf => after_c w' g' bm' S' (HK.out.pd.da.stay hf) HK.out.ok _ kps (HKV.out.stay hf))
      have hAR := hid (show ∀ w', Fr (fun _ => False) w7 w' → Calls Tryz.prog 40 #[.pointer (some ⟨m, 0, none⟩), .slice ka2 kps.length kc2] w' fun e w'' => e = .returned (.string (bs (S'.after kps))) ∧ Fr (fun _ => False) w' w'' from fun w' hf => rafter_c w' m b1' b2' S' (RC.stay HK.out.rd.ra hf) HK.out.ok _ kps (HKV.out.stay hf))
      have hAL := hid (show ∀ w', Fr (fun _ => False) w7 w' → Calls Tryz.prog 38 #[.pointer (some ⟨p', 0, none⟩), .pointer (some ⟨q', 0, none⟩), .int .i64 ka] w' fun e w'' => e = .returned (.bool true) ∧ Fr (fun _ => False) w' w'' from fun w' hf => alike_c w' p' g' bm' ml' mt' q' m ub' b1' b2' P' S' (HK.out.pd.stay hf) (HK.out.rd.stay hf) HK.out.ok (HK.out.n.1 ▸ HK.out.pok) ka)
      obtain ⟨I, hIe⟩ : ∃ I, I = S'.image := ⟨_, rfl⟩
      obtain ⟨J, hJe⟩ : ∃ J, J = S'.after kps := ⟨_, rfl⟩
      rw [← hIe] at hI hIR
      rw [← hJe] at hA hAR
      have k1 : w7.cell? ⟨bo, 1, none⟩ = some (.int .i64 ka) := by rw [cell_at HK.out.box1 1]; show oc[1]? = _; rw [HOC.out]; rfl
      have k5 : w7.cell? ⟨bo, 5, none⟩ = some (.slice ka2 kps.length kc2) := by rw [cell_at HK.out.box1 5]; show oc[5]? = _; rw [HOC.out]; rfl
      have q1 : (cd == cd) = true := by simp
      have q2 : (xx == xx) = true := by simp
      have hfw : Fr (fun _ => False) w7 w7.drew := (Fr.refl _ _).drew
      clear hIe hJe HKV hk0 HJ6
      go_upto_region 51 with fail
      go_region_held3 (fun w' => w'.cell? ⟨bo, 1, none⟩ = some (.int .i64 ka) ∧ w'.cell? ⟨bo, 5, none⟩ = some (.slice ka2 kps.length kc2) ∧ Fr (fun _ => False) w7 w')
        (first | exact ⟨k1, k5, hfw⟩ | exact keepB (by assumption) (by assumption) | go_keep)
        (first
          | (go_at_call 38; refine (hAL.out _ (lastB (by assumption))).mono ?_; rintro e w' ⟨rfl, hf'⟩)
          | (go_at_call 15; refine (hI.out _ (lastB (by assumption))).mono ?_; rintro e w' ⟨rfl, hf'⟩)
          | (go_at_call 16; refine (hIR.out _ (lastB (by assumption))).mono ?_; rintro e w' ⟨rfl, hf'⟩)
          | (go_at_call 39; refine (hA.out _ (lastB (by assumption))).mono ?_; rintro e w' ⟨rfl, hf'⟩)
          | (go_at_call 40; refine (hAR.out _ (lastB (by assumption))).mono ?_; rintro e w' ⟨rfl, hf'⟩))
      all_goals (
        rename_i hS
        have HK8 := hid ((HK.out.stay hS.2.2).unbox)
        go_wp2_with fail
        first | go_roundw | skip
        case measure => simp [intOf]; omega
        exact ⟨i + 1, p', g', bm', ml', mt', q', ub', b1', b2', P', S', rfl, rfl, rfl, rfl, (by go_num), by omega, HK8⟩)

end Go.Proofs.YtjkhcfdflcndkaaGreat.D
