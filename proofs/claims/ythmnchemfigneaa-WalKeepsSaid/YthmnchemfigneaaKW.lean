/-
  WalKeeps. No condition.
-/
import Derived.Test.YthmnchemfigneaaKI
namespace Go.Proofs.Ythmnchemfigneaa.D
open Go.RowKit Go.Maps Go.Shelf
set_option linter.unusedVariables false
set_option linter.unusedSimpArgs false

set_option maxHeartbeats 16000000 in
set_option maxRecDepth 100000 in
theorem keeps_law (V : WV) (hV : WOk V) (A : Option Addr) (cap : Nat) (ops : List (OpV × List Int)) (w : World) (hS : ScriptAt w A ops) (hsz : ∀ (i : Nat) (p : OpV × List Int), ops[i]? = some p → p.2.length * 8 ≤ 140737488355328 ∧ p.1.text.length ≤ 140737488355328) :
    Calls Try.prog 6 #[.agg #[.string (bs V.im), .int .i64 V.first, .int .i64 V.count, .int .i64 V.from_, .slice A ops.length cap]] w fun e w' => e = .returned (.bool true) ∧ Fr (fun _ => False) w w' := by
  obtain ⟨im, f, c, n0⟩ := V
  obtain ⟨him, ⟨f1, f2⟩, ⟨c1, c2⟩, _⟩ := hV
  simp only at him f1 f2 c1 c2 ⊢
  obtain ⟨bx, hbx⟩ : ∃ bx : Array Value, bx = #[.string (bs im), .int .i64 f, .int .i64 c, .int .i64 n0, .slice A ops.length cap] := ⟨_, rfl⟩
  have hf0 : Fr (fun _ => False) w (w.alloc (.cells #[.string (bs im), .int .i64 f, .int .i64 c, .int .i64 n0, .slice A ops.length cap] 32)) := (Fr.refl _ w).alloc _
  have HF0 := hid hf0
  have hnew := (MapKept.heap_alloc w (.cells #[.string (bs im), .int .i64 f, .int .i64 c, .int .i64 n0, .slice A ops.length cap] 32)).1
  obtain ⟨w1, hw1⟩ : ∃ w1, w1 = w.alloc (.cells #[.string (bs im), .int .i64 f, .int .i64 c, .int .i64 n0, .slice A ops.length cap] 32) := ⟨_, rfl⟩
  rw [← hw1] at hnew HF0
  have c0 : w1.cell? ⟨w.heap.size, 0, none⟩ = some (.string (bs im)) := cell_at hnew 0
  rw [← hbx] at hnew
  have HB1 := hid hnew
  have HBX := hid hbx
  have HDK := hid (disks_c w1 im him)
  have HSC := hid hS
  have hopl : ops.length ≤ 9223372036854775807 := hS.1
  have HSZ := hid hsz
  clear hf0 hnew hS hsz hbx
  go_enter Try.func6, Try.ntmps6
  go_wp2_with fail
  rw [← hw1]
  refine HDK.out.mono ?_
  rintro e w2 ⟨g, bm, m, b1, b2, N, rfl, hDJ⟩
  obtain ⟨S, hS⟩ : ∃ S, S = news (imgOf im) := ⟨_, rfl⟩
  rw [← hS] at hDJ
  have HS := hid hS
  have HA2 := hid hDJ.at_
  have HOK := hid hDJ.ok
  have hsn : S.n ≤ 4096 := hDJ.ok.n2
  have HF2 := hid (HF0.out.trans hDJ.fr (fun _ _ f => f))
  have HB2 := hid (hDJ.fr.at HB1.out (fun f => f))
  have hlow : w1.heap.size ≤ g ∧ w1.heap.size ≤ bm := by have := hDJ.low; omega
  have HLW := hid (show w.heap.size ≤ g ∧ w.heap.size ≤ bm by have := HF0.out.size; omega)
  have k1 : w2.cell? ⟨w.heap.size, 1, none⟩ = some (.int .i64 f) := by rw [cell_at HB2.out 1, HBX.out]; rfl
  have k2 : w2.cell? ⟨w.heap.size, 2, none⟩ = some (.int .i64 c) := by rw [cell_at HB2.out 2, HBX.out]; rfl
  obtain ⟨n, hn⟩ : ∃ n, n = S.n := ⟨_, rfl⟩
  have HNN := hid hn
  have HCNT := hid (fun q => (show Calls Try.prog 16 #[.pointer (some ⟨g, 0, none⟩)] (w2.drewN q) fun e w' => e = .returned (.int .i64 (n : Int)) ∧ w' = w2.drewN q from
    (count_c (w2.drewN q) g bm S HA2.out.drewN HOK.out).mono (fun e w' h => ⟨by rw [h.1, hn], h.2⟩)))
  have x1 : IntKind.i64.wrap ((n : Int) - f) = IntKind.i64.wrap ((n : Int) - f) := rfl
  clear hw1 c0 hS hDJ hlow hn x1
  go_wp2_with fail
  by_cases a0 : f < 0
  · as_aux_lemma =>
      have d0 : decide (f < 0) = true := decide_eq_true a0
      go_quiet (first | (go_at_call 16; exact Calls.quiet_of_same (HCNT.out _)))
      go_wp2_with fail
      refine (fixed_c _).mono ?_
      rintro e w3 ⟨rfl, hf3⟩
      have HF3 := hid ((HF2.out.trans fr_drewN (fun _ _ f => f)).trans hf3 (fun _ _ f => f))
      clear hf3
      go_wp2_with fail
      go_ret
      exact ⟨rfl, HF3.out⟩
  have d0 : decide (f < 0) = false := decide_eq_false a0
  by_cases a1 : c < 1
  · as_aux_lemma =>
      have d1 : decide (c < 1) = true := decide_eq_true a1
      go_quiet (first | (go_at_call 16; exact Calls.quiet_of_same (HCNT.out _)))
      go_wp2_with fail
      refine (fixed_c _).mono ?_
      rintro e w3 ⟨rfl, hf3⟩
      have HF3 := hid ((HF2.out.trans fr_drewN (fun _ _ f => f)).trans hf3 (fun _ _ f => f))
      clear hf3
      go_wp2_with fail
      go_ret
      exact ⟨rfl, HF3.out⟩
  have d1 : decide (c < 1) = false := decide_eq_false a1
  by_cases a2 : (n : Int) < f
  · as_aux_lemma =>
      have d2 : decide ((n : Int) < f) = true := decide_eq_true a2
      go_quiet (first | (go_at_call 16; exact Calls.quiet_of_same (HCNT.out _)))
      go_wp2_with fail
      refine (fixed_c _).mono ?_
      rintro e w3 ⟨rfl, hf3⟩
      have HF3 := hid ((HF2.out.trans fr_drewN (fun _ _ f => f)).trans hf3 (fun _ _ f => f))
      clear hf3
      go_wp2_with fail
      go_ret
      exact ⟨rfl, HF3.out⟩
  have d2 : decide ((n : Int) < f) = false := decide_eq_false a2
  have hn4 : n ≤ 4096 := by have := HNN.out; omega
  have x1 : IntKind.i64.wrap ((n : Int) - f) = (n : Int) - f := by rw [IntKind.wrap_i64]; omega
  by_cases a3 : (n : Int) - f < c
  · as_aux_lemma =>
      have d3 : decide ((n : Int) - f < c) = true := decide_eq_true a3
      go_quiet (first | (go_at_call 16; exact Calls.quiet_of_same (HCNT.out _)))
      go_wp2_with fail
      refine (fixed_c _).mono ?_
      rintro e w3 ⟨rfl, hf3⟩
      have HF3 := hid ((HF2.out.trans fr_drewN (fun _ _ f => f)).trans hf3 (fun _ _ f => f))
      clear hf3
      go_wp2_with fail
      go_ret
      exact ⟨rfl, HF3.out⟩
  have d3 : decide ((n : Int) - f < c) = false := decide_eq_false a3
  go_quiet (first | (go_at_call 16; exact Calls.quiet_of_same (HCNT.out _)))
  obtain ⟨F, rfl⟩ : ∃ F : Nat, f = F := ⟨f.toNat, by omega⟩
  obtain ⟨C, rfl⟩ : ∃ C : Nat, c = C := ⟨c.toNat, by omega⟩
  have hC1 : 1 ≤ C := by omega
  have hFC : F + C ≤ n := by omega
  have HFC := hid (show F + C ≤ S.n by have := HNN.out; omega)
  have HF3 := hid (HF2.out.trans fr_drewN (fun _ _ f => f) : Fr (fun _ => False) w (w2.drewN nq))
  have HA3 := hid (HA2.out.drewN (n := nq))
  have HB3 := hid (show (w2.drewN nq).heap[w.heap.size]? = some (.cells bx 32) from HB2.out)
  obtain ⟨w3, hw3⟩ : ∃ w3, w3 = w2.drewN nq := ⟨_, rfl⟩
  rw [← hw3] at HF3 HA3 HB3
  obtain ⟨R, hR⟩ : ∃ R, R = walRead S F C 1 := ⟨_, rfl⟩
  have H1 := hid (show Calls Try.prog 11 #[.pointer (some ⟨g, 0, none⟩), .int .i64 (F : Int), .int .i64 (C : Int), .int .i64 1] w3 fun e w' => ∃ v, e = .returned (.tuple #[v, .int .i64 R.2.1, .int .i64 R.2.2]) ∧ Texts w' w3.heap.size v R.1 ∧ Fr (fun _ => False) w3 w' from
    hR ▸ wread_c w3 g bm S HA3.out HOK.out F C 1 (by omega) (by omega))
  have k1 : w3.cell? ⟨w.heap.size, 1, none⟩ = some (.int .i64 (F : Int)) := by rw [cell_at HB3.out 1, HBX.out]; rfl
  have k2 : w3.cell? ⟨w.heap.size, 2, none⟩ = some (.int .i64 (C : Int)) := by rw [cell_at HB3.out 2, HBX.out]; rfl
  have HR := hid hR
  rw [← hw3]
  clear hw3 hR a0 a1 a2 a3 d0 d1 d2 d3 x1 HCNT HB2 HA2 HF2 HB1 HF0 HDK
  go_wp2_with fail
  refine H1.out.mono ?_
  rintro e w4 ⟨v4, rfl, ht4, hf4⟩
  have HF4 := hid (HF3.out.trans hf4 (fun _ _ f => f))
  have HA4 := hid (HA3.out.stay hf4)
  have HB4 := hid (hf4.at HB3.out (fun f => f))
  clear ht4 hf4 k1 k2 H1 HA3 HB3 HF3
  by_cases hrz : R.2.2 = 0
  case neg =>
    as_aux_lemma =>
      have q : (R.2.2 == 0) = false := by simpa using hrz
      have q2 : (R.2.2 != 0) = true := by simpa using hrz
      clear HR
      go_wp2_with fail
      refine (fixed_c _).mono ?_
      rintro e w5 ⟨rfl, hf5⟩
      have HF5 := hid (HF4.out.trans hf5 (fun _ _ f => f))
      clear hf5
      go_wp2_with fail
      go_ret
      exact ⟨rfl, HF5.out⟩
  obtain ⟨m0, eR, hm2, hchk, hlv⟩ := first_lives HOK.out (F := F) (C := C) (by rw [HS.out]; rfl) (by rw [HS.out]; rfl) HFC.out hC1 (HR.out ▸ hrz)
  rw [← HR.out] at eR
  have HBG := hid (begin_c w4 g bm S HA4.out HOK.out F C m0 (by omega) (by omega) hchk)
  have HLV := hid hlv
  rw [eR, hrz]
  have k1 : w4.cell? ⟨w.heap.size, 1, none⟩ = some (.int .i64 (F : Int)) := by rw [cell_at HB4.out 1, HBX.out]; rfl
  have k2 : w4.cell? ⟨w.heap.size, 2, none⟩ = some (.int .i64 (C : Int)) := by rw [cell_at HB4.out 2, HBX.out]; rfl
  have HM0 := hid hm2
  clear hchk hlv eR hrz HR hm2
  go_wp2_with fail
  refine HBG.out.mono ?_
  rintro e w5 ⟨k0, rfl, hl5, hk5, hf5⟩
  have HB5 := hid (hf5.at HB4.out (fun f => f))
  have HW5 := hid (show WI w w5 g bm k0 S (LSt.begin F C m0) (.slice none 0 0) [] from
    ⟨HA4.out.stay hf5, hl5, World.ownsRow_nil _ _ _ _, HF4.out.trans hf5 (fun _ _ f => f), by have := HLW.out; have := HF4.out.size; omega⟩)
  clear hl5 hk5 hf5 k1 k2 HBG HB4 HA4 HF4
  go_wp2_with fail
  have HW6 := hid (show WI w (w5.alloc (.cells #[] 9)) g bm k0 S (LSt.begin F C m0) (.slice (some ⟨w5.heap.size, 0, none⟩) 0 0) [] from
    ((HW5.out.stay ((Fr.refl _ w5).alloc _)).row ⟨rfl, Or.inr ⟨w5.heap.size, 0, #[], rfl, HW5.out.fr.size, (MapKept.heap_alloc w5 _).1, Nat.le_refl _, by unfold maxLen; omega, rfl, rfl⟩⟩))
  have HB6 := hid (((Fr.refl (fun _ => False) w5).alloc (.cells #[] 9)).at HB5.out (fun f => f))
  obtain ⟨w6, hw6⟩ : ∃ w6, w6 = w5.alloc (.cells #[] 9) := ⟨_, rfl⟩
  rw [← hw6] at HW6 HB6 ⊢
  obtain ⟨bz, hbz⟩ : ∃ bz, bz = w5.heap.size := ⟨_, rfl⟩
  rw [← hbz] at HW6 ⊢
  clear hw6 hbz HW5 HB5 HLW
  go_loopw [6, 8, 9, 10, 11, 2] (fun v6 v8 v9 v10 v11 v2 wx => ∃ (nx k syn i bm' : Nat) (S' : St) (L : LSt) (rs : List (List UInt8)) (p : Option Addr) (cp : Nat), v6 = .int .i64 nx ∧ v8 = .pointer (some ⟨k, 0, none⟩) ∧ v9 = .slice p rs.length cp ∧ v10 = .int .i64 syn ∧ v11 = .int .i64 i ∧ v2 = .bool false ∧ i ≤ ops.length ∧
    Hid (WI w wx g bm' k S' L (.slice p rs.length cp) rs) ∧ Hid (Lives S' L F C nx rs syn) ∧ Hid (wx.heap[w.heap.size]? = some (.cells bx 32))) (fun _ _ _ _ v _ _ => ops.length - (intOf v).toNat)
  case atStart => exact ⟨m0, k0, 0, 0, bm, S, _, [], _, 0, rfl, rfl, rfl, rfl, rfl, rfl, Nat.zero_le _, HW6, HLV, HB6⟩
  case round =>
    obtain ⟨nx, k, syn, i, bm1, S1, L, rs, p, cp, rfl, rfl, rfl, rfl, rfl, rfl, hi, HW, HL, HB⟩ := hrel
    have k4 : wr.cell? ⟨w.heap.size, 4, none⟩ = some (.slice A ops.length cap) := by rw [cell_at HB.out 4, HBX.out]; rfl
    have HG := hid HL.out.g
    have hrl : rs.length ≤ 4096 := by have := sizes_ge rs; have := HG.out.fit; omega
    by_cases hend : i = ops.length
    · as_aux_lemma =>
        subst hend
        obtain ⟨m9, hm9⟩ := lives_end HL.out
        have HRD := hid (show Calls Try.prog 11 #[.pointer (some ⟨g, 0, none⟩), .int .i64 (F : Int), .int .i64 (C : Int), .int .i64 (nx : Int)] wr fun e w' => ∃ v, e = .returned (.tuple #[v, .int .i64 (m9 : Int), .int .i64 0]) ∧ Texts w' wr.heap.size v rs ∧ Fr (fun _ => False) wr w' from by
          have := wread_c wr g bm1 S1 HW.out.at_ HL.out.ok F C nx (by omega) (by omega)
          unfold WReadC at this
          rw [hm9] at this
          exact this)
        have k1 : wr.cell? ⟨w.heap.size, 1, none⟩ = some (.int .i64 (F : Int)) := by rw [cell_at HB.out 1, HBX.out]; rfl
        have k2 : wr.cell? ⟨w.heap.size, 2, none⟩ = some (.int .i64 (C : Int)) := by rw [cell_at HB.out 2, HBX.out]; rfl
        clear hm9
        go_wp2_with fail
        refine HRD.out.mono ?_
        rintro e w7 ⟨v7, rfl, ht7, hf7⟩
        have HW7 := hid (HW.out.stay hf7)
        have HT7 := hid (ht7.tv (by omega))
        clear ht7 hf7 k1 k2
        go_wp2_with fail
        refine (fixed_c _).mono ?_
        rintro e w8 ⟨rfl, hf8⟩
        have HW8 := hid (HW7.out.stay hf8)
        have HS8 := hid (same_texts w8 v7 (.slice p rs.length cp) rs rs (HT7.out.stay hf8) (HW8.out.all.tv (by omega)))
        have q3 : decide (rs = rs) = true := by simp
        rw [q3] at HS8
        clear hf8 q3
        go_wp2_with fail
        refine HS8.out.mono ?_
        rintro e w9 ⟨rfl, hf9⟩
        have HF9 := hid (HW8.out.fr.trans hf9 (fun _ _ f => f))
        clear hf9
        go_wp2_with fail
        go_ret
        exact ⟨rfl, HF9.out⟩
    have hi' : i < ops.length := by omega
    have hsc := HSC.out.stay HW.out.fr
    obtain ⟨b0, o0, hA, hp⟩ : ∃ b o, A = some ⟨b, o, none⟩ ∧ ∀ i p, ops[i]? = some p → OpOk p.1 ∧ IntsV wr p.1.kv p.2 ∧
        wr.cell? ⟨b, o + i * 4, none⟩ = some (.int .i64 p.1.kind) ∧ wr.cell? ⟨b, o + i * 4 + 1, none⟩ = some (.int .i64 p.1.n) ∧ wr.cell? ⟨b, o + i * 4 + 2, none⟩ = some (.string (bs p.1.text)) ∧ wr.cell? ⟨b, o + i * 4 + 3, none⟩ = some p.1.kv := by
      rcases hsc.2 with h | h
      · subst h; simp at hi'
      · exact h
    subst hA
    obtain ⟨⟨⟨kd, nn, tx, kv⟩, ks⟩, hop⟩ : ∃ p, ops[i]? = some p := ⟨ops[i], by simp [hi']⟩
    obtain ⟨hok, hks, q0, q1, q2, q3⟩ := hp i _ hop
    simp only at hok hks q0 q1 q2 q3
    obtain ⟨av, kc, hkv, hk1, hk2⟩ := hks
    subst hkv
    have HKS := hid (show IntsV wr (.slice av ks.length kc) ks from ⟨av, kc, rfl, hk1, hk2⟩)
    have HOP := hid hok
    have HKL := hid (HSZ.out i _ hop)
    have HKW := hid (show IntsV w (.slice av ks.length kc) ks by
      rcases HSC.out.2 with h | ⟨b', o', _, h⟩
      · subst h; simp at hi'
      · exact (h i _ hop).2.1)
    clear hp hop hsc hk1 hk2 hok
    have hwl := lt_of_at HB.out
    have hnew := (MapKept.heap_alloc wr (.cells #[.int .i64 kd, .int .i64 nn, .string (bs tx), .slice av ks.length kc] 50)).1
    have hf13 := ((Fr.refl (fun _ => False) wr).alloc (.cells #[.int .i64 kd, .int .i64 nn, .string (bs tx), .slice av ks.length kc] 50))
    have HO := hid hnew
    have HW3 := hid (HW.out.stay hf13)
    have HB3 := hid (hf13.at HB.out (fun f => f))
    have HKS3 := hid (HKS.out.stay hf13)
    have hk0 : (wr.alloc (.cells #[.int .i64 kd, .int .i64 nn, .string (bs tx), .slice av ks.length kc] 50)).cell? ⟨wr.heap.size, 0, none⟩ = some (.int .i64 kd) := cell_at hnew 0
    clear hnew hf13 HW HB HKS
    go_upto_block 2 with fail
    obtain ⟨w3, hw3⟩ : ∃ w3, w3 = wr.alloc (.cells #[.int .i64 kd, .int .i64 nn, .string (bs tx), .slice av ks.length kc] 50) := ⟨_, rfl⟩
    rw [← hw3] at HO HW3 HB3 HKS3 hk0 ⊢
    obtain ⟨bo, hbo⟩ : ∃ bo, bo = wr.heap.size := ⟨_, rfl⟩
    rw [← hbo] at HO hk0 ⊢
    clear hw3 hbo k4 q0 q1 q2 q3
    go_cut [2, 9, 10, 11] (fun s2 s9 s10 s11 wy => s2 = .bool false ∧ s11 = .int .i64 i ∧ ∃ (bm2 : Nat) (S2 : St) (L2 : LSt) (rs2 : List (List UInt8)) (syn2 : Nat) (p2 : Option Addr) (cp2 : Nat), s9 = .slice p2 rs2.length cp2 ∧ s10 = .int .i64 syn2 ∧
      Hid (WI w wy g bm2 k S2 L2 (.slice p2 rs2.length cp2) rs2) ∧ Hid (Out S2 L2 F C nx rs2 syn2) ∧ Hid (wy.heap[w.heap.size]? = some (.cells bx 32)))
    case first =>
      by_cases z0 : kd = 0
      · as_aux_lemma =>
          subst z0
          have HC := hid (append_c w3 k g bm1 L S1 tx HW3.out.log HW3.out.at_ HL.out.ok HL.out.lok (by have := HKL.out.2; simp only at this; omega))
          have HU := hid (append_out HL.out tx)
          unfold AppendC at HC
          obtain ⟨X, hX⟩ : ∃ X, X = L.append S1 tx := ⟨_, rfl⟩
          rw [← hX] at HC HU
          have o2 : w3.cell? ⟨bo, 2, none⟩ = some (.string (bs tx)) := cell_at HO.out 2
          clear hX
          go_wp2_with fail
          refine HC.out.mono ?_
          rintro e w4 ⟨rfl, hL4, ⟨bm4, hA4, hb4⟩, hf4⟩
          have HW4 := hid (HW3.out.turn hL4 hA4 hb4 hf4)
          have HB4 := hid (hf4.at HB3.out (HW3.out.apart HB3.out (by decide) (by decide)))
          have HO4 := hid (hf4.at HO.out (HW3.out.apart HO.out (by decide) (by decide)))
          clear hL4 hA4 hb4 hf4 o2
          obtain ⟨L4, S4, cd⟩ := X
          simp only at HW4 HU ⊢
          by_cases hz : cd = 0 ∨ cd = 2
          · have HU2 := hid HU.out
            rw [if_pos hz] at HU2
            have hfit2 : (rs ++ [tx]).length ≤ 4096 := by
              have h9 : G S4 F C nx (rs ++ [tx]) syn := HU2.out.elim (fun h => h.g) (fun h => h.g)
              have := sizes_ge (rs ++ [tx])
              have := h9.fit
              omega
            have hw4 : w.heap.size ≤ w4.heap.size := HW4.out.fr.size
            have o2 : w4.cell? ⟨bo, 2, none⟩ = some (.string (bs tx)) := cell_at HO4.out 2
            have hnew := (MapKept.heap_alloc w4 (.cells #[.string (bs tx)] 9)).1
            obtain ⟨i0, hi0, hz0, hz1, hz2⟩ := info_parts (show (Try.prog.info? 9).map (fun i => (i.zero, i.size, i.bytes)) = some (some (.string (bs [])), 1, 16) by kernel_rfl)
            have hT4 := HW4.out.all
            obtain ⟨v', w5, hrun, hown2, hgr2, _⟩ := run_append_own (P := Try.prog) (w4.alloc (.cells #[.string (bs tx)] 9)) w.heap.size 37 37 9 i0 (.string (bs [])) 1 16 Try.underlying37 hi0 hz0 hz1 hz2 rfl (by decide)
              (.slice p rs.length cp) rs.length (strs' rs) (World.ownsRow.alloc hT4 _) ⟨w4.heap.size, 0, none⟩ 1 1 [.string (bs tx)] rfl (by
                intro j u hj
                have hj0 : j = 0 := by have := (List.getElem?_eq_some_iff.1 hj).1; simpa using this
                subst hj0
                simp at hj
                subst hj
                rw [addr0]
                exact cell_at hnew 0) (by intro u hu; simp at hu; subst hu; rfl) (by unfold maxLen; omega) (by omega) (by show w.heap.size ≤ (w4.alloc _).heap.size; simp; omega)
            obtain ⟨g', cap', rfl⟩ := Joins.ownsRow_form hown2 (by omega)
            have hal : Fr (fun _ => False) w4 (w4.alloc (.cells #[.string (bs tx)] 9)) := (Fr.refl _ w4).alloc _
            have hown3 : Texts w5 w.heap.size (.slice (some ⟨g', 0, none⟩) (rs ++ [tx]).length cap') (rs ++ [tx]) := by
              unfold Texts
              simp only [strs', List.map_append, List.map_cons, List.map_nil, List.length_append, List.length_cons, List.length_nil]
              exact hown2
            have HW5 := hid (((HW4.out.stay hal).grow hown3 hgr2))
            have HB5 := hid ((HW4.out.stay hal).growAt hgr2 (hal.at HB4.out (fun f => f)) (by decide))
            have elen : rs.length + 1 = (rs ++ [tx]).length := by simp
            rw [elen] at hrun
            have HRUN := hid hrun
            clear hT4 hnew hown2 hown3 hgr2 hal HU HO4 elen hrun
            have fin : ∀ wz, wz = w5 → True := fun _ _ => trivial
            by_cases hz' : cd = 0
            · subst hz'
              clear hz fin
              go_wp2_with (first
                | (at_builtin; refine Lib.wpList_append_run _ rfl _ _ _ _ rfl _ _ rfl rfl _ _ HRUN.out ?_))
              go_meet
              exact ⟨rfl, rfl, bm4, _, _, rs ++ [tx], syn, _, cap', (by simp), rfl, HW5, HU2, HB5⟩
            · have hz2' : cd = 2 := by omega
              subst hz2'
              clear hz fin hz'
              go_wp2_with (first
                | (at_builtin; refine Lib.wpList_append_run _ rfl _ _ _ _ rfl _ _ rfl rfl _ _ HRUN.out ?_))
              go_meet
              exact ⟨rfl, rfl, bm4, _, _, rs ++ [tx], syn, _, cap', (by simp), rfl, HW5, HU2, HB5⟩
          · have HU2 := hid HU.out
            rw [if_neg hz] at HU2
            have e0 : ¬ cd = 0 := fun e => hz (Or.inl e)
            have e2 : ¬ cd = 2 := fun e => hz (Or.inr e)
            have y1 : (cd == 0) = false := by simpa using e0
            have y2 : (cd == 2) = false := by simpa using e2
            clear hz HU e0 e2
            go_wp2_with fail
            go_meet
            exact ⟨rfl, rfl, bm4, _, _, rs, syn, p, cp, rfl, rfl, HW4, HU2, HB4⟩
      by_cases z1 : kd = 1
      · as_aux_lemma =>
          subst z1
          have HC := hid (lsync_c w3 k g bm1 L S1 HW3.out.log HW3.out.at_ HL.out.ok)
          have HU := hid (sync_out HL.out)
          obtain ⟨X, hX⟩ : ∃ X, X = L.sync S1 := ⟨_, rfl⟩
          rw [← hX] at HC HU
          clear hX
          go_wp2_with fail
          refine HC.out.mono ?_
          rintro e w4 ⟨rfl, hL4, ⟨bm4, hA4, hb4⟩, hf4⟩
          have HW4 := hid (HW3.out.turn hL4 hA4 hb4 hf4)
          have HB4 := hid (hf4.at HB3.out (HW3.out.apart HB3.out (by decide) (by decide)))
          clear hL4 hA4 hb4 hf4
          by_cases hz : X.2.2 = 0
          · have HU2 := hid HU.out
            rw [if_pos hz] at HU2
            have q : (X.2.2 == 0) = true := by simpa using hz
            clear hz HU
            go_wp2_with fail
            go_meet
            exact ⟨rfl, rfl, bm4, _, _, rs, rs.length, p, cp, rfl, rfl, HW4, HU2, HB4⟩
          · have HU2 := hid HU.out
            rw [if_neg hz] at HU2
            have q : (X.2.2 == 0) = false := by simpa using hz
            clear hz HU
            go_wp2_with fail
            go_meet
            exact ⟨rfl, rfl, bm4, _, _, rs, syn, p, cp, rfl, rfl, HW4, HU2, HB4⟩
      by_cases z2 : kd = 2
      · as_aux_lemma =>
          subst z2
          have HC := hid (arm_c w3 g bm1 S1 HW3.out.at_ HL.out.ok nn HOP.out.n1 HOP.out.n2 _ ks HKS3.out HKL.out.1)
          have HU := hid (arm_out HL.out nn HOP.out.n2 ks)
          obtain ⟨X, hX⟩ : ∃ X, X = S1.arm nn ks := ⟨_, rfl⟩
          rw [← hX] at HC HU
          have o1 : w3.cell? ⟨bo, 1, none⟩ = some (.int .i64 nn) := cell_at HO.out 1
          have o3 : w3.cell? ⟨bo, 3, none⟩ = some (.slice av ks.length kc) := cell_at HO.out 3
          clear hX
          go_wp2_with fail
          refine HC.out.mono ?_
          rintro e w4 ⟨rfl, hA4, hf4⟩
          have HW4 := hid (HW3.out.dturn hA4 (Or.inl rfl) hf4)
          have HB4 := hid (hf4.at HB3.out (cells_apart HW3.out.at_ HB3.out (by decide)))
          clear hA4 hf4
          go_wp2_with fail
          go_meet
          exact ⟨rfl, rfl, bm1, _, _, rs, syn, p, cp, rfl, rfl, HW4, HU, HB4⟩
      by_cases z3 : kd = 3
      · as_aux_lemma =>
          subst z3
          have HC := hid (crash_c w3 g bm1 S1 HW3.out.at_ HL.out.ok _ ks HKS3.out)
          have HU := hid (crash_out HL.out ks)
          obtain ⟨X, hX⟩ : ∃ X, X = S1.crash ks := ⟨_, rfl⟩
          rw [← hX] at HC HU
          have o3 : w3.cell? ⟨bo, 3, none⟩ = some (.slice av ks.length kc) := cell_at HO.out 3
          clear hX
          go_wp2_with fail
          refine HC.out.mono ?_
          rintro e w4 ⟨rfl, ⟨bm4, hA4, hb4⟩, hf4⟩
          have HW4 := hid (HW3.out.dturn hA4 hb4 hf4)
          have HB4 := hid (hf4.at HB3.out (cells_apart HW3.out.at_ HB3.out (by decide)))
          clear hA4 hb4 hf4
          go_wp2_with fail
          go_meet
          exact ⟨rfl, rfl, bm4, _, _, rs, syn, p, cp, rfl, rfl, HW4, HU, HB4⟩
      · as_aux_lemma =>
          have HU := hid (show Out S1 L F C nx rs syn from Or.inl HL.out)
          go_wp2_with fail
          go_meet
          exact ⟨rfl, rfl, bm1, _, _, rs, syn, p, cp, rfl, rfl, HW3, HU, HB3⟩
    case rest =>
      obtain ⟨rfl, rfl, bm2, S2, L2, rs2, syn2, p2, cp2, rfl, rfl, HWy, HOy, HBy⟩ := hcut
      have HD := hid (dead_c _ g bm2 S2 HWy.out.at_)
      rcases HOy.out with hlv | hgn
      · as_aux_lemma =>
          have HLy := hid hlv
          rw [hlv.dead] at HD
          clear hlv HOy
          go_wp2_with fail
          refine HD.out.mono ?_
          rintro e w5 ⟨rfl, rfl⟩
          go_wp2_with fail
          go_roundw
          case measure => simp [intOf]; omega
          case rel => exact ⟨nx, k, syn2, i + 1, bm2, S2, L2, rs2, p2, cp2, rfl, rfl, rfl, rfl, by go_num, rfl, by omega, HWy, HLy, HBy⟩
      · as_aux_lemma =>
          obtain ⟨q, m1, h1, h2, h3, h4, h5, h6, h7⟩ := gone_again hgn
          have HG := hid hgn
          have HOKR := hid (revive_ok hgn.ok).1
          rw [hgn.dead] at HD
          have HRV := hid (fun W (h : At W g bm2 S2) => show Calls Try.prog 23 #[.pointer (some ⟨g, 0, none⟩)] W fun e w' => e = .returned (.tuple #[]) ∧ At w' g bm2 S2.revive ∧ Fr (fun i => i = g ∨ i = bm2) W w' from
            (revive_c W g bm2 S2 h).mono (fun e w' x => ⟨x.1, x.2.1, x.2.2.mono (fun _ _ e => Or.inl e)⟩))
          obtain ⟨X, hX⟩ : ∃ X, X = rs2.take q := ⟨_, rfl⟩
          have hXl : X.length = q := by rw [hX, List.length_take]; omega
          have hr2 : rs2.length ≤ 4096 := by have := sizes_ge rs2; have := HG.out.g.fit; have := HG.out.g.area; have := HFC.out; have h9 := HG.out.ok.n2; omega
          rw [← hX] at h3
          have HRD := hid (fun W (h : At W g bm2 S2.revive) => show Calls Try.prog 11 #[.pointer (some ⟨g, 0, none⟩), .int .i64 (F : Int), .int .i64 (C : Int), .int .i64 (nx : Int)] W fun e w' => ∃ v, e = .returned (.tuple #[v, .int .i64 (m1 : Int), .int .i64 0]) ∧ Texts w' W.heap.size v X ∧ Fr (fun _ => False) W w' from by
            have := wread_c W g bm2 S2.revive h HOKR.out F C nx (by omega) (by omega)
            unfold WReadC at this
            rw [h3] at this
            exact this)
          have HBG := hid (fun W (h : At W g bm2 S2.revive) => begin_c W g bm2 S2.revive h HOKR.out F C m1 (by omega) (by omega) h6)
          have HL9 := hid h7
          have HX := hid hX
          obtain ⟨NI, hNI⟩ : ∃ NI : Int, NI = (nx : Int) := ⟨_, rfl⟩
          obtain ⟨MI, hMI⟩ : ∃ MI : Int, MI = (m1 : Int) := ⟨_, rfl⟩
          have hNI0 : 0 ≤ NI := by omega
          have hNI1 : NI + (q : Int) ≤ MI := by omega
          have hMI1 : MI ≤ 1152921504606846976 := by omega
          have x1 : IntKind.i64.wrap (NI + (X.length : Int)) = NI + (X.length : Int) := by rw [IntKind.wrap_i64, hXl]; omega
          have d1 : syn2 ≤ X.length := by omega
          have d2 : X.length ≤ rs2.length := by omega
          have d3 : decide (MI < NI + (X.length : Int)) = false := decide_eq_false (by omega)
          have hfm := HWy.out.all.form
          have hs7 : ∀ W, (Instr.slice 37 (.slice p2 rs2.length cp2) none (some (.int .i64 (X.length : Int))) none).run Try.prog W = .ok (.slice p2 X.length cp2) W := by
            obtain ⟨i0, hi0, _⟩ := info_parts (show (Try.prog.info? 9).map (fun i => (i.zero, i.size, i.bytes)) = some (some (.string (bs [])), 1, 16) by kernel_rfl)
            exact slice_row 37 9 Try.underlying37 i0 hi0 p2 hfm.2.2 rs2.length cp2 X.length (by have := hfm.2.1; omega)
          have HNI := hid hNI
          have HMI := hid hMI
          rw [← hMI] at HRD HBG
          rw [← hNI] at HRD ⊢
          have HQ := hid (And.intro hXl h2)
          clear hgn HOy h1 h2 h3 h4 h5 h6 h7 hX hNI hMI hXl hfm
          go_wp2_with fail
          refine HD.out.mono ?_
          rintro e w5 ⟨rfl, rfl⟩
          go_wp2_with fail
          refine (HRV.out _ HWy.out.at_).mono ?_
          rintro e w6 ⟨rfl, hA6, hf6⟩
          have HW6 := hid (HWy.out.dturn hA6 (Or.inl rfl) hf6)
          have HB6 := hid (hf6.at HBy.out (cells_apart HWy.out.at_ HBy.out (by decide)))
          have j1 : w6.cell? ⟨w.heap.size, 1, none⟩ = some (.int .i64 (F : Int)) := by rw [cell_at HB6.out 1, HBX.out]; rfl
          have j2 : w6.cell? ⟨w.heap.size, 2, none⟩ = some (.int .i64 (C : Int)) := by rw [cell_at HB6.out 2, HBX.out]; rfl
          clear hA6 hf6
          go_wp2_with fail
          refine (HRD.out _ HW6.out.at_).mono ?_
          rintro e w7 ⟨v7, rfl, ht7, hf7⟩
          have HW7 := hid (HW6.out.stay hf7)
          have HB7 := hid (hf7.at HB6.out (fun f => f))
          have hl4 : X.length ≤ 4096 := by have := HQ.out; omega
          have hTV := ht7.tv (by omega)
          obtain ⟨p7, cap7, rfl, _⟩ := id hTV
          have HS7 := hid (same_texts w7 (.slice p7 X.length cap7) (.slice p2 X.length cp2) X X hTV (by
            have := TV.take (HW7.out.all.tv (by omega)) (n := X.length) (by have := HQ.out; omega) (by
              rcases HW7.out.all.form.2.2 with h | ⟨b, h⟩
              · exact Or.inr (Or.inl h)
              · exact Or.inr (Or.inr ⟨b, 0, h⟩)) cp2
            have e9 : rs2.take X.length = X := by rw [HQ.out.1, ← HX.out]
            rwa [e9] at this))
          have q3 : decide (X = X) = true := by simp
          rw [q3] at HS7
          clear ht7 hf7 hTV q3 j1 j2
          go_wp2_with fail
          refine HS7.out.mono ?_
          rintro e w8 ⟨rfl, hf8⟩
          have HW8 := hid (HW7.out.stay hf8)
          have HB8 := hid (hf8.at HB7.out (fun f => f))
          have j1 : w8.cell? ⟨w.heap.size, 1, none⟩ = some (.int .i64 (F : Int)) := by rw [cell_at HB8.out 1, HBX.out]; rfl
          have j2 : w8.cell? ⟨w.heap.size, 2, none⟩ = some (.int .i64 (C : Int)) := by rw [cell_at HB8.out 2, HBX.out]; rfl
          clear hf8
          go_wp2_with fail
          refine (HBG.out _ HW8.out.at_).mono ?_
          rintro e w9 ⟨k9, rfl, hl9, hk9, hf9⟩
          have HW9 := hid ((HW8.out.newlog hl9 hk9 hf9).row (show Texts w9 w.heap.size (.slice none 0 0) [] from World.ownsRow_nil _ _ _ _))
          have HB9 := hid (hf9.at HB8.out (fun f => f))
          clear hl9 hk9 hf9 j1 j2
          go_wp2_with fail
          go_roundw
          case measure => simp [intOf]; omega
          case rel => exact ⟨m1, k9, 0, i + 1, bm2, S2.revive, _, [], none, 0, by rw [HMI.out], rfl, rfl, rfl, by go_num, rfl, by omega, HW9, (by rw [HMI.out]; exact HL9), HB9⟩

end Go.Proofs.Ythmnchemfigneaa.D
