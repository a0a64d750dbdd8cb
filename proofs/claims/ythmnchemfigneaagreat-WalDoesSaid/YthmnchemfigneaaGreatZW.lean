/-
  WalDoes. No condition.
-/
import Derived.Test.YthmnchemfigneaaGreatZ4
namespace Go.Proofs.YthmnchemfigneaaGreat.D
open Go.RowKit Go.Maps Go.Shelf
set_option linter.unusedVariables false
set_option linter.unusedSimpArgs false

theorem keepD {w7 w w' : World} {a b c : Addr} {x y z : Value} (h : w.cell? a = some x ∧ w.cell? b = some y ∧ w.cell? c = some z ∧ Fr (fun _ => False) w7 w) (hf : Fr (fun _ => False) w w') : w'.cell? a = some x ∧ w'.cell? b = some y ∧ w'.cell? c = some z ∧ Fr (fun _ => False) w7 w' :=
  ⟨cells_stay hf h.1, cells_stay hf h.2.1, cells_stay hf h.2.2.1, h.2.2.2.trans hf (fun _ _ f => f)⟩
theorem lastD {w7 w : World} {a b c : Addr} {x y z : Value} (h : w.cell? a = some x ∧ w.cell? b = some y ∧ w.cell? c = some z ∧ Fr (fun _ => False) w7 w) : Fr (fun _ => False) w7 w := h.2.2.2

set_option maxHeartbeats 16000000 in
set_option maxRecDepth 100000 in
theorem wdoes_law (V : WV) (hV : WOk V) (A : Option Addr) (cap : Nat) (ops : List (OpV × List Int)) (w : World) (hS : ScriptAt w A ops) (hsz : ∀ (i : Nat) (p : OpV × List Int), ops[i]? = some p → p.2.length * 8 ≤ 140737488355328 ∧ p.1.text.length ≤ 140737488355328) :
    Calls Tryz.prog 3 #[.agg #[.string (bs V.im), .int .i64 V.first, .int .i64 V.count, .int .i64 V.from_, .slice A ops.length cap]] w fun e w' => e = .returned (.bool true) ∧ Fr (fun _ => False) w w' := by
  obtain ⟨im, f, c, n0⟩ := V
  obtain ⟨him, ⟨f1, f2⟩, ⟨c1, c2⟩, ⟨n1, n2⟩⟩ := hV
  simp only at him f1 f2 c1 c2 n1 n2 ⊢
  have hf0 : Fr (fun _ => False) w (w.alloc (.cells #[.string (bs im), .int .i64 f, .int .i64 c, .int .i64 n0, .slice A ops.length cap] 24)) := (Fr.refl _ w).alloc _
  have HF0 := hid hf0
  have hnew := (MapKept.heap_alloc w (.cells #[.string (bs im), .int .i64 f, .int .i64 c, .int .i64 n0, .slice A ops.length cap] 24)).1
  obtain ⟨w1, hw1⟩ : ∃ w1, w1 = w.alloc (.cells #[.string (bs im), .int .i64 f, .int .i64 c, .int .i64 n0, .slice A ops.length cap] 24) := ⟨_, rfl⟩
  rw [← hw1] at hnew HF0
  have c0 : w1.cell? ⟨w.heap.size, 0, none⟩ = some (.string (bs im)) := cell_at hnew 0
  have HB1 := hid hnew
  have HDK := hid (disks_c w1 im him)
  have HSC := hid hS
  have hopl : ops.length ≤ 9223372036854775807 := hS.1
  have HSZ := hid hsz
  clear hf0 hnew hS hsz
  go_enter Tryz.func3, Tryz.ntmps3
  go_wp2_with fail
  rw [← hw1]
  refine HDK.out.mono ?_
  rintro e w2 ⟨g0, bm0, m, b10, b20, N, rfl, hDJ⟩
  obtain ⟨S0, hS⟩ : ∃ S, S = news (imgOf im) := ⟨_, rfl⟩
  rw [← hS] at hDJ
  have hlow := hDJ.low
  have hsz1 := HF0.out.size
  have HD2 := hid (show DJ w w2 g0 bm0 m b10 b20 N S0 S0 from ⟨hDJ.at_, hDJ.ra, hDJ.ok, hDJ.rok, hDJ.n, HF0.out.trans hDJ.fr (fun _ _ f => f), by omega⟩)
  have HB2 := hid (hDJ.fr.at HB1.out (fun f => f))
  have k1 : w2.cell? ⟨w.heap.size, 1, none⟩ = some (.int .i64 f) := cell_at HB2.out 1
  have k2 : w2.cell? ⟨w.heap.size, 2, none⟩ = some (.int .i64 c) := cell_at HB2.out 2
  have k3 : w2.cell? ⟨w.heap.size, 3, none⟩ = some (.int .i64 n0) := cell_at HB2.out 3
  clear hw1 c0 hS hDJ hlow hsz1 HDK HB1 HF0
  by_cases he : chk S0 f c n0 = 0
  case neg =>
    as_aux_lemma =>
      have HB5 := hid (begin_bad w2 g0 bm0 S0 HD2.out.at_ HD2.out.ok f c n0 f1 f2 he)
      have HB6 := hid (rbegin_bad w2 m b10 b20 S0 HD2.out.ra HD2.out.ok f c n0 f1 f2 he)
      obtain ⟨E, hE⟩ : ∃ E, E = chk S0 f c n0 := ⟨_, rfl⟩
      rw [← hE] at HB5 HB6 he
      have q1 : (E == E) = true := by simp
      have q2 : (E == 0) = false := by simpa using he
      have q3 : (E != 0) = true := by simpa using he
      clear hE he
      go_wp2_with fail
      refine HB5.out.mono ?_
      rintro e w3 ⟨rfl, rfl⟩
      go_wp2_with fail
      refine HB6.out.mono ?_
      rintro e w4 ⟨rfl, rfl⟩
      go_wp2_with fail
      refine (fixed_c _).mono ?_
      rintro e w5 ⟨rfl, hf5⟩
      have HF5 := hid (HD2.out.fr.trans hf5 (fun _ _ f => f))
      clear hf5
      go_wp2_with fail
      go_ret
      exact ⟨rfl, HF5.out⟩
  have HB5 := hid (begin_c w2 g0 bm0 S0 HD2.out.at_ HD2.out.ok f c n0 f1 f2 he)
  have HB6 := hid (fun W (h : RA W m b10 b20 S0) => rbegin_c W m b10 b20 S0 h HD2.out.ok f c n0 f1 f2 he)
  have HLO := hid (show (LSt.begin f c n0).Ok N by have := (LSt.begin_ok he).1; rw [HD2.out.n.1] at this; exact this)
  clear he
  go_wp2_with fail
  refine HB5.out.mono ?_
  rintro e w3 ⟨j1, rfl, hl3, hk3, hf3⟩
  have HD3 := hid (HD2.out.stay hf3)
  have HB3 := hid (hf3.at HB2.out (fun f => f))
  have HL3 := hid hl3
  have HK3 := hid (show w.heap.size ≤ j1 by have := HD2.out.fr.size; omega)
  have k1 : w3.cell? ⟨w.heap.size, 1, none⟩ = some (.int .i64 f) := cell_at HB3.out 1
  have k2 : w3.cell? ⟨w.heap.size, 2, none⟩ = some (.int .i64 c) := cell_at HB3.out 2
  have k3 : w3.cell? ⟨w.heap.size, 3, none⟩ = some (.int .i64 n0) := cell_at HB3.out 3
  clear hl3 hk3 hf3
  go_wp2_with fail
  refine (HB6.out _ HD3.out.ra).mono ?_
  rintro e w4 ⟨j2, rfl, hl4, hk4, hf4⟩
  have HJ4 := hid (show LJ w w4 g0 bm0 m b10 b20 j1 j2 N S0 S0 (LSt.begin f c n0) (LSt.begin f c n0) from
    ⟨HD3.out.stay hf4, HL3.out.stay hf4, hl4, HK3.out, by have := HD3.out.fr.size; omega⟩)
  have HB4 := hid (hf4.at HB3.out (fun f => f))
  have k3 : w4.cell? ⟨w.heap.size, 3, none⟩ = some (.int .i64 n0) := cell_at HB4.out 3
  clear hl4 hk4 hf4 k1 k2 HD2 HB2 HB5 HB6 HD3 HB3 HL3 HK3
  go_wp2_with fail
  clear k3
  go_loopw [2, 3, 5, 7, 9, 10] (fun v2 v3 v5 v7 v9 v10 wx => ∃ (i g bm b1 b2 k kr : Nat) (fm : Int) (S : St) (L : LSt), v2 = .bool false ∧ v3 = .pointer (some ⟨g, 0, none⟩) ∧ v5 = .pointer (some ⟨k, 0, none⟩) ∧ v7 = .pointer (some ⟨kr, 0, none⟩) ∧ v9 = .int .i64 fm ∧ v10 = .int .i64 i ∧ i ≤ ops.length ∧
    Hid (LJ w wx g bm m b1 b2 k kr N S S L L) ∧ Hid (L.Ok N) ∧ Hid (wx.heap[w.heap.size]? = some (.cells #[.string (bs im), .int .i64 f, .int .i64 c, .int .i64 n0, .slice A ops.length cap] 24))) (fun _ _ _ _ _ v _ => ops.length - (intOf v).toNat)
  case atStart => exact ⟨0, g0, bm0, b10, b20, j1, j2, n0, S0, _, rfl, rfl, rfl, rfl, rfl, rfl, Nat.zero_le _, HJ4, HLO, HB4⟩
  case round =>
    obtain ⟨i, g, bm, b1, b2, k, kr, fm, S, L, rfl, rfl, rfl, rfl, rfl, rfl, hi, HJ, HLK, HB⟩ := hrel
    have k4 : wr.cell? ⟨w.heap.size, 4, none⟩ = some (.slice A ops.length cap) := cell_at HB.out 4
    by_cases hend : i = ops.length
    · as_aux_lemma =>
        subst hend
        go_wp2_with fail
        refine (fixed_c _).mono ?_
        rintro e w8 ⟨rfl, hf8⟩
        have HF8 := hid (HJ.out.dj.fr.trans hf8 (fun _ _ f => f))
        clear hf8
        go_wp2_with fail
        go_ret
        exact ⟨rfl, HF8.out⟩
    have hi' : i < ops.length := by omega
    have hsc := HSC.out.stay HJ.out.dj.fr
    obtain ⟨b0, o0, hA, hp⟩ : ∃ b o, A = some ⟨b, o, none⟩ ∧ ∀ i p, ops[i]? = some p → OpOk p.1 ∧ IntsV wr p.1.kv p.2 ∧
        wr.cell? ⟨b, o + i * 4, none⟩ = some (.int .i64 p.1.kind) ∧ wr.cell? ⟨b, o + i * 4 + 1, none⟩ = some (.int .i64 p.1.n) ∧ wr.cell? ⟨b, o + i * 4 + 2, none⟩ = some (.string (bs p.1.text)) ∧ wr.cell? ⟨b, o + i * 4 + 3, none⟩ = some p.1.kv := by
      rcases hsc.2 with h | h
      · subst h; simp at hi'
      · exact h
    subst hA
    obtain ⟨⟨⟨kd, nn, tx, kv⟩, ks⟩, hop⟩ : ∃ p, ops[i]? = some p := ⟨ops[i], by simp [hi']⟩
    obtain ⟨hok, hks, q0, q1, q2, q3⟩ := hp i _ hop
    simp only at hok hks q0 q1 q2 q3
    obtain ⟨av, kc, hkv, hk1, hk2⟩ := hks
    subst hkv
    have HKS := hid (show IntsV wr (.slice av ks.length kc) ks from ⟨av, kc, rfl, hk1, hk2⟩)
    have HOP := hid hok
    have HKL := hid (HSZ.out i _ hop)
    have HKW := hid (show IntsV w (.slice av ks.length kc) ks by
      rcases HSC.out.2 with h | ⟨b', o', _, h⟩
      · subst h; simp at hi'
      · exact (h i _ hop).2.1)
    clear hp hop hsc hk1 hk2 hok
    have hwl := lt_of_at HB.out
    have hnew := (MapKept.heap_alloc wr (.cells #[.int .i64 kd, .int .i64 nn, .string (bs tx), .slice av ks.length kc] 39)).1
    have hf13 := ((Fr.refl (fun _ => False) wr).alloc (.cells #[.int .i64 kd, .int .i64 nn, .string (bs tx), .slice av ks.length kc] 39))
    have HO := hid hnew
    have HJ3 := hid (HJ.out.stay hf13)
    have HB3 := hid (hf13.at HB.out (fun f => f))
    have hk0 : (wr.alloc (.cells #[.int .i64 kd, .int .i64 nn, .string (bs tx), .slice av ks.length kc] 39)).cell? ⟨wr.heap.size, 0, none⟩ = some (.int .i64 kd) := cell_at hnew 0
    clear hnew hf13 HJ HB HKS
    go_upto_block 2 with fail
    obtain ⟨w3, hw3⟩ : ∃ w3, w3 = wr.alloc (.cells #[.int .i64 kd, .int .i64 nn, .string (bs tx), .slice av ks.length kc] 39) := ⟨_, rfl⟩
    rw [← hw3] at HO HJ3 HB3 hk0 ⊢
    obtain ⟨bo, hbo⟩ : ∃ bo, bo = wr.heap.size := ⟨_, rfl⟩
    rw [← hbo] at HO hk0 ⊢
    clear hw3 hbo k4 q0 q1 q2 q3
    have HK3 := hid (HKW.out.stay HJ3.out.dj.fr)
    have HSN := hid (HJ3.out.dj.n.1)
    go_cut [2, 3, 5, 7, 9, 10, 11, 12, 13] (fun s2 s3 s5 s7 s9 s10 s11 s12 s13 wy => s2 = .bool false ∧ s10 = .int .i64 i ∧ s11 = .pointer (some ⟨bo, 0, none⟩) ∧ ∃ (g' bm' b1' b2' k' kr' : Nat) (fm' : Int) (S' : St) (L' : LSt) (cd : Int), s3 = .pointer (some ⟨g', 0, none⟩) ∧ s5 = .pointer (some ⟨k', 0, none⟩) ∧ s7 = .pointer (some ⟨kr', 0, none⟩) ∧ s9 = .int .i64 fm' ∧ s12 = .int .i64 cd ∧ s13 = .int .i64 cd ∧
      Hid (LJ w wy g' bm' m b1' b2' k' kr' N S' S' L' L') ∧ Hid (L'.Ok N) ∧ Hid (wy.heap[w.heap.size]? = some (.cells #[.string (bs im), .int .i64 f, .int .i64 c, .int .i64 n0, .slice (some ⟨b0, o0, none⟩) ops.length cap] 24)) ∧ Hid (wy.heap[bo]? = some (.cells #[.int .i64 kd, .int .i64 nn, .string (bs tx), .slice av ks.length kc] 39)))
    case first =>
      by_cases z0 : kd = 0
      · as_aux_lemma =>
          subst z0
          have HC := hid (append_c w3 k g bm L S tx HJ3.out.log HJ3.out.dj.at_ HJ3.out.dj.ok (HSN.out ▸ HLK.out) (by have := HKL.out.2; simp only at this; omega))
          have hao := LSt.append_ok HJ3.out.dj.ok (HSN.out ▸ HLK.out) tx
          have HSO := hid (show (L.append S tx).2.1.Ok ∧ (L.append S tx).2.1.n = S.n from ⟨hao.1, hao.2.1⟩)
          have HLO5 := hid (show (L.append S tx).1.Ok N from HSN.out ▸ hao.2.2)
          have HR := hid (fun W {bm' : Nat} {S' : St} {L' : LSt} (h : LJ w W g bm' m b1 b2 k kr N S' S L' L) => rappend_c W kr m b1 b2 L S tx h.rlog h.dj.ra h.dj.rok (HSN.out ▸ HLK.out) (by have := HKL.out.2; simp only at this; omega))
          unfold AppendC at HC
          unfold RAppendC at HR
          obtain ⟨X, hX⟩ : ∃ X, X = L.append S tx := ⟨_, rfl⟩
          rw [← hX] at HC HSO HLO5
          simp only [← hX] at HR
          clear hX hao

          have o2 : w3.cell? ⟨bo, 2, none⟩ = some (.string (bs tx)) := cell_at HO.out 2
          go_wp2_with fail
          refine HC.out.mono ?_
          rintro e w4 ⟨rfl, hL4, ⟨bm4, hA4, hb4⟩, hf4⟩
          have HJ4 := hid (HJ3.out.dl hL4 hA4 hb4 hf4 HSO.out.1 HSO.out.2)
          have HB4 := hid (hf4.at HB3.out (apart3 HJ3.out.dj.at_ HJ3.out.log HB3.out (by decide) (by decide)))
          have HO4 := hid (hf4.at HO.out (apart3 HJ3.out.dj.at_ HJ3.out.log HO.out (by decide) (by decide)))
          have o2 : w4.cell? ⟨bo, 2, none⟩ = some (.string (bs tx)) := cell_at HO4.out 2
          clear hL4 hA4 hb4 hf4
          go_wp2_with fail
          refine (HR.out _ HJ4.out).mono ?_
          rintro e w5 ⟨rfl, hT5⟩
          have HB5 := hid (hT5.2.2.at HB4.out (apart4 HJ4.out.dj.ra HJ4.out.rlog HB4.out (by decide) (by decide) (by decide)))
          have HO5 := hid (hT5.2.2.at HO4.out (apart4 HJ4.out.dj.ra HJ4.out.rlog HO4.out (by decide) (by decide) (by decide)))
          obtain ⟨b15, b25, hJ5⟩ := HJ4.out.rl hT5 HSO.out.1 HSO.out.2
          have HJ5 := hid hJ5
          clear hT5 hJ5
          go_wp2_with fail
          go_meet
          exact ⟨rfl, rfl, rfl, g, bm4, b15, b25, k, kr, fm, _, _, _, rfl, rfl, rfl, rfl, rfl, rfl, HJ5, HLO5, HB5, HO5⟩
      by_cases z1 : kd = 1
      · as_aux_lemma =>
          subst z1
          have HC := hid (lsync_c w3 k g bm L S HJ3.out.log HJ3.out.dj.at_ HJ3.out.dj.ok)
          have HSO := hid (lsync_ok (L := L) HJ3.out.dj.ok)
          have HLO5 := hid (sync_lok HLK.out S)
          have HR := hid (fun W {bm' : Nat} {S' : St} {L' : LSt} (h : LJ w W g bm' m b1 b2 k kr N S' S L' L) => rlsync_c W kr m b1 b2 L S h.rlog h.dj.ra h.dj.rok)
          obtain ⟨X, hX⟩ : ∃ X, X = L.sync S := ⟨_, rfl⟩
          rw [← hX] at HC HSO HLO5
          simp only [← hX] at HR
          clear hX


          go_wp2_with fail
          refine HC.out.mono ?_
          rintro e w4 ⟨rfl, hL4, ⟨bm4, hA4, hb4⟩, hf4⟩
          have HJ4 := hid (HJ3.out.dl hL4 hA4 hb4 hf4 HSO.out.1 HSO.out.2)
          have HB4 := hid (hf4.at HB3.out (apart3 HJ3.out.dj.at_ HJ3.out.log HB3.out (by decide) (by decide)))
          have HO4 := hid (hf4.at HO.out (apart3 HJ3.out.dj.at_ HJ3.out.log HO.out (by decide) (by decide)))

          clear hL4 hA4 hb4 hf4
          go_wp2_with fail
          refine (HR.out _ HJ4.out).mono ?_
          rintro e w5 ⟨rfl, hT5⟩
          have HB5 := hid (hT5.2.2.at HB4.out (apart4 HJ4.out.dj.ra HJ4.out.rlog HB4.out (by decide) (by decide) (by decide)))
          have HO5 := hid (hT5.2.2.at HO4.out (apart4 HJ4.out.dj.ra HJ4.out.rlog HO4.out (by decide) (by decide) (by decide)))
          obtain ⟨b15, b25, hJ5⟩ := HJ4.out.rl hT5 HSO.out.1 HSO.out.2
          have HJ5 := hid hJ5
          clear hT5 hJ5
          go_wp2_with fail
          go_meet
          exact ⟨rfl, rfl, rfl, g, bm4, b15, b25, k, kr, fm, _, _, _, rfl, rfl, rfl, rfl, rfl, rfl, HJ5, HLO5, HB5, HO5⟩
      by_cases z2 : kd = 2
      · as_aux_lemma =>
          subst z2
          have HC := hid ((arm_c w3 g bm S HJ3.out.dj.at_ HJ3.out.dj.ok nn HOP.out.n1 HOP.out.n2 _ ks HK3.out HKL.out.1).mono (fun e w' ⟨x1, x2, x3⟩ => show e = Ending.returned (.int .i64 (S.arm nn ks).2) ∧ (∃ bm', At w' g bm' (S.arm nn ks).1 ∧ (bm' = bm ∨ w3.heap.size ≤ bm')) ∧ Fr (fun i => i = g ∨ i = bm) w3 w' from ⟨x1, ⟨bm, x2, Or.inl rfl⟩, x3⟩))
          have HSO := hid (arm_ok HJ3.out.dj.ok HOP.out.n2 ks)
          have HKG := hid (show ks ≠ [] → ∀ a x y, Value.slice av ks.length kc = .slice (some a) x y → a.block ≠ m from by
            intro hk0 a n c ha e
            obtain ⟨a', c', e0, _, h2⟩ := HKW.out
            rcases h2 with h2 | ⟨b, o, h2, h3⟩
            · exact hk0 h2
            · injection ha with ha _ _
              injection e0 with e0 _ _
              have hlt := World.block_lt_of_cell? w _ (h3 0 (by cases ks with | nil => exact absurd rfl hk0 | cons _ _ => simp))
              have hlo := HJ3.out.dj.low
              rw [ha] at e0
              rw [h2] at e0
              injection e0 with e0
              rw [e0] at e
              simp only at e hlt
              omega)
          have HR := hid (fun W {bm' : Nat} {S' : St} {L' : LSt} (h : LJ w W g bm' m b1 b2 k kr N S' S L' L) => rarm_c W m b1 b2 S h.dj.ra h.dj.rok nn HOP.out.n1 HOP.out.n2 (.slice av ks.length kc) ks (HKW.out.stay h.dj.fr) HKL.out.1 (HKG.out))
          obtain ⟨X, hX⟩ : ∃ X, X = S.arm nn ks := ⟨_, rfl⟩
          rw [← hX] at HC HSO
          simp only [← hX] at HR
          clear hX

          have o1 : w3.cell? ⟨bo, 1, none⟩ = some (.int .i64 nn) := cell_at HO.out 1
          have o3 : w3.cell? ⟨bo, 3, none⟩ = some (.slice av ks.length kc) := cell_at HO.out 3
          go_wp2_with fail
          refine HC.out.mono ?_
          rintro e w4 ⟨rfl, ⟨bm4, hA4, hb4⟩, hf4⟩
          have HJ4 := hid (HJ3.out.d1 hA4 hb4 hf4 HSO.out.1 HSO.out.2)
          have HB4 := hid (hf4.at HB3.out (cells_apart HJ3.out.dj.at_ HB3.out (by decide)))
          have HO4 := hid (hf4.at HO.out (cells_apart HJ3.out.dj.at_ HO.out (by decide)))
          have o1 : w4.cell? ⟨bo, 1, none⟩ = some (.int .i64 nn) := cell_at HO4.out 1
          have o3 : w4.cell? ⟨bo, 3, none⟩ = some (.slice av ks.length kc) := cell_at HO4.out 3
          clear hA4 hb4 hf4
          go_wp2_with fail
          refine (HR.out _ HJ4.out).mono ?_
          rintro e w5 ⟨rfl, hT5⟩
          have HB5 := hid (hT5.2.at HB4.out (rcells_apart HJ4.out.dj.ra HB4.out (by decide) (by decide)))
          have HO5 := hid (hT5.2.at HO4.out (rcells_apart HJ4.out.dj.ra HO4.out (by decide) (by decide)))
          obtain ⟨b15, b25, hJ5⟩ := HJ4.out.r1 hT5 HSO.out.1 HSO.out.2
          have HJ5 := hid hJ5
          clear hT5 hJ5
          go_wp2_with fail
          go_meet
          exact ⟨rfl, rfl, rfl, g, bm4, b15, b25, k, kr, fm, _, _, _, rfl, rfl, rfl, rfl, rfl, rfl, HJ5, HLK, HB5, HO5⟩
      by_cases z3 : kd = 3
      · as_aux_lemma =>
          subst z3
          have HC := hid (crash_c w3 g bm S HJ3.out.dj.at_ HJ3.out.dj.ok _ ks HK3.out)
          have HSO := hid (crash_ok HJ3.out.dj.ok ks)
          have HR := hid (fun W {bm' : Nat} {S' : St} {L' : LSt} (h : LJ w W g bm' m b1 b2 k kr N S' S L' L) => rcrash_c W m b1 b2 S h.dj.ra h.dj.rok (.slice av ks.length kc) ks (HKW.out.stay h.dj.fr))
          obtain ⟨X, hX⟩ : ∃ X, X = S.crash ks := ⟨_, rfl⟩
          rw [← hX] at HC HSO
          simp only [← hX] at HR
          clear hX

          have o3 : w3.cell? ⟨bo, 3, none⟩ = some (.slice av ks.length kc) := cell_at HO.out 3
          go_wp2_with fail
          refine HC.out.mono ?_
          rintro e w4 ⟨rfl, ⟨bm4, hA4, hb4⟩, hf4⟩
          have HJ4 := hid (HJ3.out.d1 hA4 hb4 hf4 HSO.out.1 HSO.out.2)
          have HB4 := hid (hf4.at HB3.out (cells_apart HJ3.out.dj.at_ HB3.out (by decide)))
          have HO4 := hid (hf4.at HO.out (cells_apart HJ3.out.dj.at_ HO.out (by decide)))
          have o3 : w4.cell? ⟨bo, 3, none⟩ = some (.slice av ks.length kc) := cell_at HO4.out 3
          clear hA4 hb4 hf4
          go_wp2_with fail
          refine (HR.out _ HJ4.out).mono ?_
          rintro e w5 ⟨rfl, hT5⟩
          have HB5 := hid (hT5.2.at HB4.out (rcells_apart HJ4.out.dj.ra HB4.out (by decide) (by decide)))
          have HO5 := hid (hT5.2.at HO4.out (rcells_apart HJ4.out.dj.ra HO4.out (by decide) (by decide)))
          obtain ⟨b15, b25, hJ5⟩ := HJ4.out.r1 hT5 HSO.out.1 HSO.out.2
          have HJ5 := hid hJ5
          clear hT5 hJ5
          go_wp2_with fail
          go_meet
          exact ⟨rfl, rfl, rfl, g, bm4, b15, b25, k, kr, fm, _, _, _, rfl, rfl, rfl, rfl, rfl, rfl, HJ5, HLK, HB5, HO5⟩
      by_cases z4 : kd = 4
      · as_aux_lemma =>
          subst z4
          have HC := hid ((revive_c w3 g bm S HJ3.out.dj.at_).mono (fun e w' x => (show e = Ending.returned (.tuple #[]) ∧ (∃ bm', At w' g bm' S.revive ∧ (bm' = bm ∨ w3.heap.size ≤ bm')) ∧ Fr (fun i => i = g ∨ i = bm) w3 w' from ⟨x.1, ⟨bm, x.2.1, Or.inl rfl⟩, x.2.2.mono (fun _ _ e => Or.inl e)⟩)))
          have HSO := hid (revive_ok HJ3.out.dj.ok)
          have HR := hid (fun W {bm' : Nat} {S' : St} {L' : LSt} (h : LJ w W g bm' m b1 b2 k kr N S' S L' L) => (rrevive_c W m b1 b2 S.n S.armed (piece S.safe) (uns S) S.kept S.dead h.dj.ra).mono (fun e w' x => (show e = Ending.returned (.tuple #[]) ∧ RTurn W m b1 b2 S.revive w' from ⟨x.1, ⟨b1, b2, x.2.1, Or.inl rfl, Or.inl rfl⟩, x.2.2.mono (fun _ _ e => Or.inl e)⟩)))


          go_wp2_with fail
          refine HC.out.mono ?_
          rintro e w4 ⟨rfl, ⟨bm4, hA4, hb4⟩, hf4⟩
          have HJ4 := hid (HJ3.out.d1 hA4 hb4 hf4 HSO.out.1 HSO.out.2)
          have HB4 := hid (hf4.at HB3.out (cells_apart HJ3.out.dj.at_ HB3.out (by decide)))
          have HO4 := hid (hf4.at HO.out (cells_apart HJ3.out.dj.at_ HO.out (by decide)))

          clear hA4 hb4 hf4
          go_wp2_with fail
          refine (HR.out _ HJ4.out).mono ?_
          rintro e w5 ⟨rfl, hT5⟩
          have HB5 := hid (hT5.2.at HB4.out (rcells_apart HJ4.out.dj.ra HB4.out (by decide) (by decide)))
          have HO5 := hid (hT5.2.at HO4.out (rcells_apart HJ4.out.dj.ra HO4.out (by decide) (by decide)))
          obtain ⟨b15, b25, hJ5⟩ := HJ4.out.r1 hT5 HSO.out.1 HSO.out.2
          have HJ5 := hid hJ5
          clear hT5 hJ5
          go_wp2_with fail
          go_meet
          exact ⟨rfl, rfl, rfl, g, bm4, b15, b25, k, kr, fm, _, _, 0, rfl, rfl, rfl, rfl, rfl, rfl, HJ5, HLK, HB5, HO5⟩
      by_cases z5 : kd = 5
      · as_aux_lemma =>
          subst z5
          have HC := hid (again_c w3 g bm m b1 b2 S HJ3.out.dj.at_ HJ3.out.dj.ra HJ3.out.dj.ok im f c n0 (.slice (some ⟨b0, o0, none⟩) ops.length cap) 5 nn tx (.slice av ks.length kc) fm f1 f2)
          have p0 : w3.cell? ⟨bo, 0, none⟩ = some (.int .i64 5) := cell_at HO.out 0
          have p1 : w3.cell? ⟨bo, 1, none⟩ = some (.int .i64 nn) := cell_at HO.out 1
          have p2 : w3.cell? ⟨bo, 2, none⟩ = some (.string (bs tx)) := cell_at HO.out 2
          have p3 : w3.cell? ⟨bo, 3, none⟩ = some (.slice av ks.length kc) := cell_at HO.out 3
          have x0 : w3.cell? ⟨w.heap.size, 0, none⟩ = some (.string (bs im)) := cell_at HB3.out 0
          have x1 : w3.cell? ⟨w.heap.size, 1, none⟩ = some (.int .i64 f) := cell_at HB3.out 1
          have x2 : w3.cell? ⟨w.heap.size, 2, none⟩ = some (.int .i64 c) := cell_at HB3.out 2
          have x3 : w3.cell? ⟨w.heap.size, 3, none⟩ = some (.int .i64 n0) := cell_at HB3.out 3
          have x4 : w3.cell? ⟨w.heap.size, 4, none⟩ = some (.slice (some ⟨b0, o0, none⟩) ops.length cap) := cell_at HB3.out 4
          go_wp2_with fail
          refine HC.out.mono ?_
          rintro e w4 ⟨hf4, hcase⟩
          have HB4 := hid (hf4.at HB3.out (fun f => f))
          have HO4 := hid (hf4.at HO.out (fun f => f))
          have HJ4 := hid (HJ3.out.stay hf4)
          clear p0 p1 p2 p3 x0 x1 x2 x3 x4
          rcases hcase with ⟨n, rfl⟩ | ⟨j1, j2, n, rfl, hck, hl4, hr4, l1, l2⟩
          · clear hf4 HC
            go_wp2_with fail
            go_meet
            exact ⟨rfl, rfl, rfl, g, bm, b1, b2, k, kr, fm, S, L, 0, rfl, rfl, rfl, rfl, rfl, rfl, HJ4, HLK, HB4, HO4⟩
          · have HJ5 := hid (HJ3.out.logs hf4 hl4 hr4 l1 l2)
            have HLO5 := hid (show (LSt.begin f c n).Ok N from HSN.out ▸ (LSt.begin_ok hck).1)
            clear hf4 HC hck hl4 hr4 l1 l2
            go_wp2_with fail
            go_meet
            exact ⟨rfl, rfl, rfl, g, bm, b1, b2, j1, j2, n, S, _, 0, rfl, rfl, rfl, rfl, rfl, rfl, HJ5, HLO5, HB4, HO4⟩
      by_cases z6 : kd = 6
      · as_aux_lemma =>
          subst z6
          have HCL := hid (clone_c w3 g bm S HJ3.out.dj.at_)
          go_wp2_with fail
          refine HCL.out.mono ?_
          rintro e w4 ⟨g2, bm2, rfl, hA2, hg2, hb2, hf4⟩
          have hlo3 := HJ3.out.dj.at_.low
          have hsw := HJ3.out.dj.fr.size
          have hlk := lt_of_at HJ3.out.log
          have h4 := HJ3.out.stay hf4
          have HA4 := hid hA2
          have HJ4 := hid h4
          have HB4 := hid (hf4.at HB3.out (fun f => f))
          have HO4 := hid (hf4.at HO.out (fun f => f))
          have HNE := hid (show g2 ≠ g ∧ bm2 ≠ bm ∧ w.heap.size ≤ g2 ∧ w.heap.size ≤ bm2 by omega)
          have HLC := hid (lclone_c w4 k g g2 L HJ4.out.log)
          clear hA2 hg2 hb2 hf4 h4 hlo3 hsw hlk HCL
          go_wp2_with fail
          refine HLC.out.mono ?_
          rintro e w5 ⟨k2, rfl, hl5, hk5, hf5⟩
          have hlk := lt_of_at HJ4.out.log
          have hsw := HJ4.out.dj.fr.size
          have hdlow := HA4.out.low
          have HJ5 := hid (HJ4.out.stay hf5)
          have HB5 := hid (hf5.at HB4.out (fun f => f))
          have HO5 := hid (hf5.at HO4.out (fun f => f))
          have hs5 := hf5.size
          have HN5 := hid (show k2 ≠ k ∧ bm2 < w5.heap.size by omega)
          have hdl := HJ5.out.dj.low
          have HK5 := hid (show LJ w w5 g2 bm2 m b1 b2 k2 kr N S S L L from
            ⟨⟨HA4.out.stay hf5, HJ5.out.dj.ra, HJ5.out.dj.ok, HJ5.out.dj.rok, HJ5.out.dj.n, HJ5.out.dj.fr, by have := HNE.out; omega⟩, hl5, HJ5.out.rlog, by have := HJ5.out.low; omega⟩)
          have HCA := hid (append_c w5 k g bm L S [108, 101, 102, 116] HJ5.out.log HJ5.out.dj.at_ HJ5.out.dj.ok (HSN.out ▸ HLK.out) (by simp))
          have hao := LSt.append_ok HJ5.out.dj.ok (HSN.out ▸ HLK.out : L.Ok S.n) [108, 101, 102, 116]
          unfold AppendC at HCA
          obtain ⟨X, hX⟩ : ∃ X, X = L.append S [108, 101, 102, 116] := ⟨_, rfl⟩
          rw [← hX] at HCA hao
          have HXO := hid hao.1
          clear hl5 hk5 hf5 hlk hsw hdlow hs5 hdl hX hao HLC HJ4 HA4 HB4 HO4
          have hstr : bs [108, 101, 102, 116] = ⟨#[108, 101, 102, 116]⟩ := rfl
          rw [hstr] at HCA
          clear hstr
          go_wp2_with fail
          refine HCA.out.mono ?_
          rintro e w6 ⟨rfl, hL6, ⟨bm6, hA6, hb6⟩, hf6⟩
          have HK6 := hid (HK5.out.other HJ5.out.dj.at_ HJ5.out.log hf6 HNE.out.1 HNE.out.2.1 HN5.out.1 (by have h1 := HJ5.out.low; have h2 := HJ5.out.dj.low; omega))
          have HA6 := hid hA6
          have HB6 := hid (hf6.at HB5.out (apart3 HJ5.out.dj.at_ HJ5.out.log HB5.out (by decide) (by decide)))
          have HO6 := hid (hf6.at HO5.out (apart3 HJ5.out.dj.at_ HJ5.out.log HO5.out (by decide) (by decide)))
          have hf5w := HJ5.out.dj.fr.size
          have HN6 := hid (show g2 ≠ g ∧ bm2 ≠ bm6 ∧ w.heap.size ≤ g ∧ w.heap.size ≤ bm6 by
            have h1 := HNE.out
            have h2 := HN5.out
            have h3 := HJ5.out.dj.low
            rcases hb6 with hb6 | hb6 <;> omega)
          have HCC := hid (crash_c w6 g bm6 X.2.1 HA6.out HXO.out (.slice none 0 0) [] ⟨none, 0, rfl, by simp, Or.inl rfl⟩)
          clear hL6 hA6 hb6 hf6 hf5w HCA
          go_wp2_with fail
          refine HCC.out.mono ?_
          rintro e w7 ⟨rfl, ⟨bm7, hA7, hb7⟩, hf7⟩
          have HK7 := hid (HK6.out.otherD HA6.out hf7 HN6.out.1 HN6.out.2.1 HN6.out.2.2)
          have HB7 := hid (hf7.at HB6.out (cells_apart HA6.out HB6.out (by decide)))
          have HO7 := hid (hf7.at HO6.out (cells_apart HA6.out HO6.out (by decide)))
          clear hA7 hb7 hf7 HCC
          go_wp2_with fail
          go_meet
          exact ⟨rfl, rfl, rfl, g2, bm2, b1, b2, k2, kr, fm, S, L, 0, rfl, rfl, rfl, rfl, rfl, rfl, HK7, HLK, HB7, HO7⟩
      · as_aux_lemma =>
          go_wp2_with fail
          go_meet
          exact ⟨rfl, rfl, rfl, g, bm, b1, b2, k, kr, fm, S, L, 0, rfl, rfl, rfl, rfl, rfl, rfl, HJ3, HLK, HB3, HO⟩
    case rest =>
      obtain ⟨rfl, rfl, rfl, g', bm', b1', b2', k', kr', fm', S', L', cd, rfl, rfl, rfl, rfl, rfl, rfl, HK4, HLK4, HB4, HO4⟩ := hcut
      obtain ⟨w7, hw7⟩ : ∃ w7, w7 = wc := ⟨_, rfl⟩
      rw [← hw7] at HK4 HB4 HO4 ⊢
      clear hw7
      have HKV := hid (HKW.out.stay HK4.out.dj.fr)
      have hI := hid (show ∀ w', Fr (fun _ => False) w7 w' → Calls Tryz.prog 25 #[.pointer (some ⟨g', 0, none⟩)] w' fun e w'' => e = .returned (.string (bs S'.image)) ∧ Fr (fun _ => False) w' w'' from fun w' hf => image_c w' g' bm' S' (HK4.out.dj.at_.stay hf) HK4.out.dj.ok)
      have hIR := hid (show ∀ w', Fr (fun _ => False) w7 w' → Calls Tryz.prog 26 #[.pointer (some ⟨m, 0, none⟩)] w' fun e w'' => e = .returned (.string (bs S'.image)) ∧ Fr (fun _ => False) w' w'' from fun w' hf => rimage_c w' m b1' b2' S' (RC.stay HK4.out.dj.ra hf) HK4.out.dj.ok)
      have hA := hid (show ∀ w', Fr (fun _ => False) w7 w' → Calls Tryz.prog 27 #[.pointer (some ⟨g', 0, none⟩), .slice av ks.length kc] w' fun e w'' => e = .returned (.string (bs (S'.after ks))) ∧ Fr (fun _ => False) w' w'' from fun w' hf => after_c w' g' bm' S' (HK4.out.dj.at_.stay hf) HK4.out.dj.ok _ ks (HKV.out.stay hf))
      have hAR := hid (show ∀ w', Fr (fun _ => False) w7 w' → Calls Tryz.prog 28 #[.pointer (some ⟨m, 0, none⟩), .slice av ks.length kc] w' fun e w'' => e = .returned (.string (bs (S'.after ks))) ∧ Fr (fun _ => False) w' w'' from fun w' hf => rafter_c w' m b1' b2' S' (RC.stay HK4.out.dj.ra hf) HK4.out.dj.ok _ ks (HKV.out.stay hf))
      obtain ⟨NX, hNX⟩ : ∃ NX : Int, NX = (L'.next : Int) := ⟨_, rfl⟩
      obtain ⟨RM, hRM⟩ : ∃ RM : Int, RM = L'.room := ⟨_, rfl⟩
      obtain ⟨D, hD⟩ : ∃ D, D = L'.dead := ⟨_, rfl⟩
      have hcn : L'.count ≤ 4096 := by have h1 := HLK4.out.area; have h2 := HK4.out.dj.ok.n2; have h3 := HK4.out.dj.n.1; omega
      have hNE := hid (show ∀ w', Fr (fun _ => False) w7 w' → Calls Tryz.prog 21 #[.pointer (some ⟨k', 0, none⟩)] w' fun e w'' => e = .returned (.int .i64 NX) ∧ Fr (fun _ => False) w' w'' from fun w' hf => hNX ▸ (next_c w' k' g' L' (HK4.out.log.stay hf)).mono (fun e w'' ⟨h1, h2⟩ => ⟨h1, h2 ▸ Fr.refl _ _⟩))
      have hRO := hid (show ∀ w', Fr (fun _ => False) w7 w' → Calls Tryz.prog 22 #[.pointer (some ⟨k', 0, none⟩)] w' fun e w'' => e = .returned (.int .i64 RM) ∧ Fr (fun _ => False) w' w'' from fun w' hf => hRM ▸ room_c w' k' g' L' (HK4.out.log.stay hf) HLK4.out.at_ hcn)
      have hRR := hid (show ∀ w', Fr (fun _ => False) w7 w' → Calls Tryz.prog 23 #[.pointer (some ⟨kr', 0, none⟩)] w' fun e w'' => e = .returned (.int .i64 RM) ∧ Fr (fun _ => False) w' w'' from fun w' hf => hRM ▸ rroom_c w' kr' m L' (HK4.out.rlog.stay hf) HLK4.out.at_ hcn)
      have hDD := hid (show ∀ w', Fr (fun _ => False) w7 w' → Calls Tryz.prog 24 #[.pointer (some ⟨k', 0, none⟩)] w' fun e w'' => e = .returned (.bool D) ∧ Fr (fun _ => False) w' w'' from fun w' hf => hD ▸ (ldead_c w' k' g' L' (HK4.out.log.stay hf)).mono (fun e w'' ⟨h1, h2⟩ => ⟨h1, h2 ▸ Fr.refl _ _⟩))
      obtain ⟨I, hIe⟩ : ∃ I, I = S'.image := ⟨_, rfl⟩
      obtain ⟨J, hJe⟩ : ∃ J, J = S'.after ks := ⟨_, rfl⟩
      rw [← hIe] at hI hIR
      rw [← hJe] at hA hAR
      have k4 : w7.cell? ⟨bo, 3, none⟩ = some (.slice av ks.length kc) := cell_at HO4.out 3
      have k5 : w7.cell? ⟨kr', 4, none⟩ = some (.int .i64 NX) := by rw [hNX]; exact cell_at HK4.out.rlog 4
      have k6 : w7.cell? ⟨kr', 5, none⟩ = some (.bool D) := by rw [hD]; exact cell_at HK4.out.rlog 5
      have hfw : Fr (fun _ => False) w7 w7.drew := (Fr.refl _ _).drew
      clear hIe hJe hNX hRM hD HKV hk0 HJ3 HB3 HO HKW HK3 hcn
      go_upto_region 44 with fail
      go_region_held3 (fun w' => w'.cell? ⟨bo, 3, none⟩ = some (.slice av ks.length kc) ∧ w'.cell? ⟨kr', 4, none⟩ = some (.int .i64 NX) ∧ w'.cell? ⟨kr', 5, none⟩ = some (.bool D) ∧ Fr (fun _ => False) w7 w')
        (first | exact ⟨k4, k5, k6, hfw⟩ | exact keepD (by assumption) (by assumption) | go_keep)
        (first
          | (go_at_call 25; refine (hI.out _ (lastD (by assumption))).mono ?_; rintro e w' ⟨rfl, hf'⟩)
          | (go_at_call 26; refine (hIR.out _ (lastD (by assumption))).mono ?_; rintro e w' ⟨rfl, hf'⟩)
          | (go_at_call 27; refine (hA.out _ (lastD (by assumption))).mono ?_; rintro e w' ⟨rfl, hf'⟩)
          | (go_at_call 28; refine (hAR.out _ (lastD (by assumption))).mono ?_; rintro e w' ⟨rfl, hf'⟩)
          | (go_at_call 21; refine (hNE.out _ (lastD (by assumption))).mono ?_; rintro e w' ⟨rfl, hf'⟩)
          | (go_at_call 22; refine (hRO.out _ (lastD (by assumption))).mono ?_; rintro e w' ⟨rfl, hf'⟩)
          | (go_at_call 23; refine (hRR.out _ (lastD (by assumption))).mono ?_; rintro e w' ⟨rfl, hf'⟩)
          | (go_at_call 24; refine (hDD.out _ (lastD (by assumption))).mono ?_; rintro e w' ⟨rfl, hf'⟩))
      all_goals (
        rename_i hS
        have HK8 := hid (HK4.out.stay hS.2.2.2)
        have HB8 := hid (hS.2.2.2.at HB4.out (fun f => f))
        go_wp2_with fail
        first | go_roundw | skip
        case measure => simp [intOf]; omega
        exact ⟨i + 1, g', bm', b1', b2', k', kr', fm', S', L', rfl, rfl, rfl, rfl, rfl, (by go_num), by omega, HK8, HLK4, HB8⟩)

end Go.Proofs.YthmnchemfigneaaGreat.D
