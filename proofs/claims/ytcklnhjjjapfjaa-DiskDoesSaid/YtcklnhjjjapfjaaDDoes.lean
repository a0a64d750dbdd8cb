/-
  DiskDoes: whatever is called, in any order, each answer is as the document says. No condition.
-/
import Derived.Test.YtcklnhjjjapfjaaR9
import Derived.Deep.RegionHeld3
import Derived.Deep.DeepCutAuto
import Derived.Deep.CutBlock
import Derived.Deep.CutRange
namespace Go.Proofs.Ytcklnhjjjapfjaa.D
open Go.RowKit Go.Maps Go.Shelf
set_option linter.unusedVariables false
set_option linter.unusedSimpArgs false

theorem keepD {w7 w w' : World} {a b c : Addr} {x y z : Value} (h : w.cell? a = some x ∧ w.cell? b = some y ∧ w.cell? c = some z ∧ Fr (fun _ => False) w7 w) (hf : Fr (fun _ => False) w w') : w'.cell? a = some x ∧ w'.cell? b = some y ∧ w'.cell? c = some z ∧ Fr (fun _ => False) w7 w' :=
  ⟨cells_stay hf h.1, cells_stay hf h.2.1, cells_stay hf h.2.2.1, h.2.2.2.trans hf (fun _ _ f => f)⟩
theorem lastD {w7 w : World} {a b c : Addr} {x y z : Value} (h : w.cell? a = some x ∧ w.cell? b = some y ∧ w.cell? c = some z ∧ Fr (fun _ => False) w7 w) : Fr (fun _ => False) w7 w := h.2.2.2

set_option maxHeartbeats 16000000 in
set_option maxRecDepth 100000 in
theorem does_law (sc : Int) (A : Option Addr) (cap : Nat) (ops : List (OpV × List Int)) (w : World) (hS : ScriptAt w A ops) (hsz : ∀ (i : Nat) (p : OpV × List Int), ops[i]? = some p → p.2.length * 8 ≤ 140737488355328) :
    Calls Try.prog 6 #[.agg #[.int .i64 sc, .slice A ops.length cap]] w fun e w' => e = .returned (.bool true) ∧ Fr (fun _ => False) w w' := by
  obtain ⟨N, hN⟩ : ∃ N : Nat, N = (max 0 (min sc 64)).toNat := ⟨_, rfl⟩
  have hN1 : N ≤ 64 := by omega
  have hmin : ∀ w, (Builtin.min_ #[3, 3] 3 #[.int .i64 sc, .int .i64 64]).run Try.prog w = .ok (.int .i64 (min sc 64)) w := by
    intro w
    rw [run_min_int2]
    congr 2
    split <;> omega
  have hmax : ∀ w, (Builtin.max_ #[3, 3] 3 #[.int .i64 0, .int .i64 (min sc 64)]).run Try.prog w = .ok (.int .i64 (N : Int)) w := by
    intro w
    rw [run_max_int2]
    congr 2
    rw [hN]
    split <;> omega
  obtain ⟨M, hM⟩ : ∃ M, M = min sc 64 := ⟨_, rfl⟩
  rw [← hM] at hmin hmax
  clear hN hM
  have hf0 := hid (show Fr (fun _ => False) w (w.alloc (.cells #[.int .i64 sc, .slice A ops.length cap] 49)) from (Fr.refl _ w).alloc _)
  have hb1 : (w.alloc (.cells #[.int .i64 sc, .slice A ops.length cap] 49)).heap[w.heap.size]? = some (.cells #[.int .i64 sc, .slice A ops.length cap] 49) := (MapKept.heap_alloc w _).1
  have HB1 := hid hb1
  have k0 : (w.alloc (.cells #[.int .i64 sc, .slice A ops.length cap] 49)).cell? ⟨w.heap.size, 0, none⟩ = some (.int .i64 sc) := cell_at hb1 0
  have HSC := hid hS
  have hopl : ops.length ≤ 9223372036854775807 := hS.1
  have HSZ := hid hsz
  obtain ⟨Z, hZ⟩ : ∃ Z, Z = zero (64 * N) := ⟨_, rfl⟩
  have HZ := hid hZ
  have hmk : (Instr.makeSlice 26 (.int .i64 (64 * (N : Int))) (.int .i64 (64 * (N : Int)))).run Try.prog (w.alloc (.cells #[.int .i64 sc, .slice A ops.length cap] 49)) = .ok (.slice (some ⟨(w.alloc (.cells #[.int .i64 sc, .slice A ops.length cap] 49)).heap.size, 0, none⟩) (64 * N) (64 * N)) ((w.alloc (.cells #[.int .i64 sc, .slice A ops.length cap] 49)).alloc (.cells (bytesOf Z).toArray 5)) := by
    have := mkz (64 * N) (by omega) (w.alloc (.cells #[.int .i64 sc, .slice A ops.length cap] 49))
    rw [hZ]
    exact_mod_cast this
  have hms : (convert 26 9 (.slice (some ⟨(w.alloc (.cells #[.int .i64 sc, .slice A ops.length cap] 49)).heap.size, 0, none⟩) (64 * N) (64 * N))).run Try.prog ((w.alloc (.cells #[.int .i64 sc, .slice A ops.length cap] 49)).alloc (.cells (bytesOf Z).toArray 5)) = .ok (.string (bs Z)) ((w.alloc (.cells #[.int .i64 sc, .slice A ops.length cap] 49)).alloc (.cells (bytesOf Z).toArray 5)) := by
    rw [hZ]
    exact mks (64 * N) (w.alloc (.cells #[.int .i64 sc, .slice A ops.length cap] 49))
  have hwr : IntKind.i64.wrap (64 * (N : Int)) = 64 * (N : Int) := by rw [IntKind.wrap_i64]; omega
  have hsz1 : (w.alloc (.cells #[.int .i64 sc, .slice A ops.length cap] 49)).heap.size = w.heap.size + 1 := by simp
  rw [hsz1] at hmk hms
  have hf1 : Fr (fun _ => False) (w.alloc (.cells #[.int .i64 sc, .slice A ops.length cap] 49)) ((w.alloc (.cells #[.int .i64 sc, .slice A ops.length cap] 49)).alloc (.cells (bytesOf Z).toArray 5)) := (Fr.refl _ _).alloc _
  have HF1 := hid (hf0.out.trans hf1 (fun _ _ f => f))
  have HB1' := hid (hf1.at hb1 (fun f => f))
  clear hZ hS hb1 hsz1 hsz hf1
  by_cases hN0 : N = 0
  · as_aux_lemma =>
      have hbad : ¬ IsImage Z := by rw [HZ.out, hN0]; simp [IsImage, zero]
      have hzl : Z.length ≤ 0 := by rw [HZ.out, hN0]; simp [zero]
      have HNC := hid (new_bad ((w.alloc (.cells #[.int .i64 sc, .slice A ops.length cap] 49)).alloc (.cells (bytesOf Z).toArray 5)) Z hbad (by omega))
      have HRC := hid (rnew_bad ((w.alloc (.cells #[.int .i64 sc, .slice A ops.length cap] 49)).alloc (.cells (bytesOf Z).toArray 5)) Z hbad (by omega))
      clear hbad hzl hN0
      go_enter Try.func6, Try.ntmps6
      go_wp2_with fail
      refine HNC.out.mono ?_
      rintro e w2 ⟨rfl, rfl⟩
      go_wp2_with fail
      refine HRC.out.mono ?_
      rintro e w3 ⟨rfl, rfl⟩
      go_wp2_with fail
      refine (fixed_c _).mono ?_
      rintro e w4 ⟨rfl, hf4⟩
      have HF4 := hid (HF1.out.trans hf4 (fun _ _ f => f))
      clear hf4
      go_wp2_with fail
      go_ret
      exact ⟨rfl, HF4.out⟩
  have HI := hid (show IsImage Z by rw [HZ.out]; simp only [IsImage, zero, List.length_replicate]; omega)
  have HNC := hid (new_c ((w.alloc (.cells #[.int .i64 sc, .slice A ops.length cap] 49)).alloc (.cells (bytesOf Z).toArray 5)) Z HI.out)
  have HNN := hid (show (news Z).n = N by rw [HZ.out]; simp [St.n, news, zero])
  clear hN0
  go_enter Try.func6, Try.ntmps6
  go_wp2_with fail
  refine HNC.out.mono ?_
  rintro e w2 ⟨g0, bm0, rfl, hA2, hg1, hbm1, hf2⟩
  have HA2 := hid hA2
  have HF2 := hid (HF1.out.trans hf2 (fun _ _ f => f))
  have HB2 := hid (hf2.at HB1'.out (fun f => f))
  have hlo : w.heap.size ≤ g0 ∧ w.heap.size ≤ bm0 := by
    have := HF1.out.size
    omega
  have HRC := hid (rnew_c w2 Z HI.out)
  clear hA2 hg1 hbm1 hf2 hmk hms HNC hf0 k0 hmin hmax HB1 HB1' HF1
  go_wp2_with fail
  refine HRC.out.mono ?_
  rintro e w3 ⟨m, rfl, hR3, hb3⟩
  obtain ⟨b10, b20, hR, l1, l2, l3⟩ := RAt.ra HI.out hR3
  have hf3 := below_fr hb3 (Nat.le_refl _)
  have HK0 := hid (show DJ w w3 g0 bm0 m b10 b20 N (news Z) (news Z) from
    ⟨HA2.out.stay hf3, hR, news_ok HI.out, news_ok HI.out, ⟨HNN.out, HNN.out⟩, HF2.out.trans hf3 (fun _ _ f => f), by have := HF2.out.size; omega⟩)
  have HB3 := hid (hf3.at HB2.out (fun f => f))
  clear hR3 hb3 hR l1 l2 l3 hf3 HRC HA2 HF2 HB2 hlo HNN HI HZ
  go_wp2_with fail
  go_loopw [4, 8, 2] (fun v4 v v2 wx => ∃ (i g bm b1 b2 : Nat) (S : St), v4 = .pointer (some ⟨g, 0, none⟩) ∧ v = .int .i64 i ∧ v2 = .bool false ∧ i ≤ ops.length ∧ Hid (DJ w wx g bm m b1 b2 N S S) ∧ Hid (wx.heap[w.heap.size]? = some (.cells #[.int .i64 sc, .slice A ops.length cap] 49))) (fun _ v _ _ => ops.length - (intOf v).toNat)
  case atStart => exact ⟨0, g0, bm0, b10, b20, _, rfl, rfl, rfl, by omega, HK0, HB3⟩
  case round =>
    obtain ⟨i, g, bm, b1, b2, S, rfl, rfl, rfl, hi, HK, HB⟩ := hrel
    have c1 : wr.cell? ⟨w.heap.size, 1, none⟩ = some (.slice A ops.length cap) := cell_at HB.out 1
    by_cases hend : i = ops.length
    · subst hend
      go_wp2_with fail
      refine (fixed_c wr).mono ?_
      rintro e wz ⟨rfl, hfz⟩
      have hFz := hid (HK.out.fr.trans hfz (fun _ _ f => f))
      clear hfz
      go_wp2_with fail
      go_ret
      exact ⟨rfl, hFz.out⟩
    have hi' : i < ops.length := by omega
    have hsc := HSC.out.stay HK.out.fr
    obtain ⟨b0, o0, hA, hp⟩ : ∃ b o, A = some ⟨b, o, none⟩ ∧ ∀ i p, ops[i]? = some p → OpOk p.1 ∧ IntsV wr p.1.kv p.2 ∧
        wr.cell? ⟨b, o + i * 5, none⟩ = some (.int .i64 p.1.kind) ∧ wr.cell? ⟨b, o + i * 5 + 1, none⟩ = some (.int .i64 p.1.at_) ∧ wr.cell? ⟨b, o + i * 5 + 2, none⟩ = some (.int .i64 p.1.n) ∧
        wr.cell? ⟨b, o + i * 5 + 3, none⟩ = some (.int .u8 (p.1.fill.toNat : Int)) ∧ wr.cell? ⟨b, o + i * 5 + 4, none⟩ = some p.1.kv := by
      rcases hsc.2 with h | h
      · subst h; simp at hi'
      · exact h
    subst hA
    obtain ⟨⟨⟨kd, at_, nn, fl, kv⟩, ks⟩, hop⟩ : ∃ p, ops[i]? = some p := ⟨ops[i], by simp [hi']⟩
    obtain ⟨hok, hks, q0, q1, q2, q3, q4⟩ := hp i _ hop
    simp only at hok hks q0 q1 q2 q3 q4
    obtain ⟨av, kc, hkv, hk1, hk2⟩ := hks
    subst hkv
    have HKS := hid (show IntsV wr (.slice av ks.length kc) ks from ⟨av, kc, rfl, hk1, hk2⟩)
    have HOK := hid hok
    have HKL := hid (HSZ.out i _ hop)
    have HKW := hid (show IntsV w (.slice av ks.length kc) ks by
      rcases HSC.out.2 with h | ⟨b', o', _, h⟩
      · subst h; simp at hi'
      · exact (h i _ hop).2.1)
    clear hp hop hsc hk1 hk2 hok
    have hwl := lt_of_at HB.out
    go_wp2_with fail
    refine (fill_c nn fl _).mono ?_
    rintro e w3 ⟨rfl, hf3⟩
    have hnew := (MapKept.heap_alloc wr (.cells #[.int .i64 kd, .int .i64 at_, .int .i64 nn, .int .u8 (fl.toNat : Int), .slice av ks.length kc] 36)).1
    have HOP := hid (hf3.at hnew (fun f => f))
    have hf13 := ((Fr.refl (fun _ => False) wr).alloc (.cells #[.int .i64 kd, .int .i64 at_, .int .i64 nn, .int .u8 (fl.toNat : Int), .slice av ks.length kc] 36)).trans hf3 (fun _ _ f => f)
    have HK3 := hid (HK.out.stay hf13)
    have HB3 := hid (hf13.at HB.out (fun f => f))
    obtain ⟨s, hs⟩ : ∃ s, s = fillL nn fl := ⟨_, rfl⟩
    rw [← hs]
    have HSL := hid (show s.length ≤ 4480 by rw [hs, fillL_length, fillN]; omega)
    obtain ⟨bo, hbo⟩ : ∃ bo, bo = wr.heap.size := ⟨_, rfl⟩
    rw [← hbo] at HOP ⊢
    clear hf3 hnew hf13 HK HB HKS c1 q0 q1 q2 q3 q4 hs hbo
    have o0c : w3.cell? ⟨bo, 0, none⟩ = some (.int .i64 kd) := cell_at HOP.out 0
    go_upto_block 2 with fail
    go_cut [2, 4, 8, 9, 11, 12, 13, 14] (fun s2 s4 s8 s9 s11 s12 s13 s14 wy => s2 = .bool false ∧ s8 = .int .i64 i ∧ s9 = .pointer (some ⟨bo, 0, none⟩) ∧ ∃ (g' bm' b1' b2' : Nat) (S' : St) (cd : Int) (xs : List UInt8), s4 = .pointer (some ⟨g', 0, none⟩) ∧ s11 = .int .i64 cd ∧ s12 = .int .i64 cd ∧ s13 = .string (bs xs) ∧ s14 = .string (bs xs) ∧
      Hid (DJ w wy g' bm' m b1' b2' N S' S') ∧ Hid (wy.heap[w.heap.size]? = some (.cells #[.int .i64 sc, .slice (some ⟨b0, o0, none⟩) ops.length cap] 49)) ∧ Hid (wy.heap[bo]? = some (.cells #[.int .i64 kd, .int .i64 at_, .int .i64 nn, .int .u8 (fl.toNat : Int), .slice av ks.length kc] 36)))
    case first =>
      by_cases hk0 : kd = 0
      · as_aux_lemma =>
          subst hk0

          obtain ⟨xs, hxs⟩ : ∃ x, x = (S.read at_ nn).1 := ⟨_, rfl⟩
          obtain ⟨cd, hcd⟩ : ∃ x, x = (S.read at_ nn).2 := ⟨_, rfl⟩
          have HD := hid (read_c w3 g bm S HK3.out.at_ HK3.out.ok at_ nn HOK.out.a1 HOK.out.a2)
          have HM := hid (show ∀ w', RA w' m b1 b2 S → RReadC w' m S at_ nn from fun w' h => rread_c w' m b1 b2 S h HK3.out.ok at_ nn HOK.out.a1 HOK.out.a2)
          simp only [ReadC, RReadC, ← hxs, ← hcd] at HD HM
          have o1c : w3.cell? ⟨bo, 1, none⟩ = some (.int .i64 at_) := cell_at HOP.out 1
          have o2c : w3.cell? ⟨bo, 2, none⟩ = some (.int .i64 nn) := cell_at HOP.out 2
          clear hxs hcd
          go_wp2_with fail
          refine HD.out.mono ?_
          rintro e w4 ⟨rfl, hf4⟩
          have HK4 := hid (HK3.out.stay hf4)
          have HB4 := hid (hf4.at HB3.out (fun f => f))
          have HO4 := hid (hf4.at HOP.out (fun f => f))
          have o1d : w4.cell? ⟨bo, 1, none⟩ = some (.int .i64 at_) := cell_at HO4.out 1
          have o2d : w4.cell? ⟨bo, 2, none⟩ = some (.int .i64 nn) := cell_at HO4.out 2
          clear hf4
          go_wp2_with fail
          refine (HM.out _ HK4.out.ra).mono ?_
          rintro e w5 ⟨rfl, hf5⟩
          have HK5 := hid (HK4.out.stay hf5)
          have HB5 := hid (hf5.at HB4.out (fun f => f))
          have HO5 := hid (hf5.at HO4.out (fun f => f))
          clear hf5
          go_wp2_with fail
          go_meet
          exact ⟨rfl, rfl, rfl, g, bm, b1, b2, S, cd, xs, rfl, rfl, rfl, rfl, rfl, HK5, HB5, HO5⟩
      by_cases hk1 : kd = 1
      · as_aux_lemma =>
          subst hk1
          have HXX := hid (write_ok HK3.out.ok at_ s)

          have HSO := hid (show (S.write at_ s).1.Ok ∧ (S.write at_ s).1.n = S.n from HXX.out)
          obtain ⟨S', hS'⟩ : ∃ S', S' = (S.write at_ s).1 := ⟨_, rfl⟩
          obtain ⟨cd, hcd⟩ : ∃ cd, cd = (S.write at_ s).2 := ⟨_, rfl⟩
          rw [← hS'] at HSO

          have HD := hid (show ∀ w', At w' g bm S → Fr (fun _ => False) w w' → Calls Try.prog 15 #[.pointer (some ⟨g, 0, none⟩), .int .i64 at_, .string (bs s)] w' fun e w'' => e = .returned (.int .i64 cd) ∧ (∃ bm', At w'' g bm' S' ∧ (bm' = bm ∨ w'.heap.size ≤ bm')) ∧ Fr (fun i => i = g ∨ i = bm) w' w'' from fun w' h hw => by
            have h9 := write_c w' g bm S h HK3.out.ok at_ HOK.out.a1 HOK.out.a2 s (by have := HSL.out; omega)
            rw [hS', hcd]
            exact h9
            )
          have HM := hid (show ∀ w', RA w' m b1 b2 S → Fr (fun _ => False) w w' → Calls Try.prog 22 #[.pointer (some ⟨m, 0, none⟩), .int .i64 at_, .string (bs s)] w' fun e w'' => e = .returned (.int .i64 cd) ∧ RTurn w' m b1 b2 S' w'' from fun w' h hw => by
            have h9 := rwrite_c w' m b1 b2 S h HK3.out.ok at_ HOK.out.a1 HOK.out.a2 s (by have := HSL.out; omega)
            rw [hS', hcd]
            exact h9
            )

          clear HXX hS' hcd
          have o1c : w3.cell? ⟨bo, 1, none⟩ = some (.int .i64 at_) := cell_at HOP.out 1
          go_wp2_with fail
          refine (HD.out _ HK3.out.at_ HK3.out.fr).mono ?_
          rintro e w4 ⟨rfl, ⟨bm4, hA4, hb4⟩, hf4⟩
          have HK4 := hid (HK3.out.d hA4 hb4 hf4 HSO.out.1 HSO.out.2)
          have HB4 := hid (hf4.at HB3.out (cells_apart HK3.out.at_ HB3.out (by decide)))
          have HO4 := hid (hf4.at HOP.out (cells_apart HK3.out.at_ HOP.out (by decide)))
          have o1d : w4.cell? ⟨bo, 1, none⟩ = some (.int .i64 at_) := cell_at HO4.out 1
          clear hA4 hb4 hf4
          go_wp2_with fail
          refine (HM.out _ HK4.out.ra HK4.out.fr).mono ?_
          rintro e w5 ⟨rfl, hT5⟩
          have HT5 := hid hT5
          have HB5 := hid (hT5.2.at HB4.out (rcells_apart HK4.out.ra HB4.out (by decide) (by decide)))
          have HO5 := hid (hT5.2.at HO4.out (rcells_apart HK4.out.ra HO4.out (by decide) (by decide)))
          obtain ⟨b15, b25, hK5⟩ := HK4.out.r hT5 HSO.out.1 HSO.out.2
          have HK5 := hid hK5
          clear hT5 hK5
          go_wp2_with fail
          go_meet
          exact ⟨rfl, rfl, rfl, g, bm4, b15, b25, S', cd, [], rfl, rfl, rfl, rfl, rfl, HK5, HB5, HO5⟩
      by_cases hk2 : kd = 2
      · as_aux_lemma =>
          subst hk2
          have HXX := hid (sync_ok HK3.out.ok)

          have HSO := hid (show (S.sync).1.Ok ∧ (S.sync).1.n = S.n from HXX.out)
          obtain ⟨S', hS'⟩ : ∃ S', S' = (S.sync).1 := ⟨_, rfl⟩
          obtain ⟨cd, hcd⟩ : ∃ cd, cd = (S.sync).2 := ⟨_, rfl⟩
          rw [← hS'] at HSO

          have HD := hid (show ∀ w', At w' g bm S → Fr (fun _ => False) w w' → Calls Try.prog 19 #[.pointer (some ⟨g, 0, none⟩)] w' fun e w'' => e = .returned (.int .i64 cd) ∧ (∃ bm', At w'' g bm' S' ∧ (bm' = bm ∨ w'.heap.size ≤ bm')) ∧ Fr (fun i => i = g ∨ i = bm) w' w'' from fun w' h hw => by
            have h9 := sync_c w' g bm S h HK3.out.ok
            rw [hS', hcd]
            exact h9
            )
          have HM := hid (show ∀ w', RA w' m b1 b2 S → Fr (fun _ => False) w w' → Calls Try.prog 23 #[.pointer (some ⟨m, 0, none⟩)] w' fun e w'' => e = .returned (.int .i64 cd) ∧ RTurn w' m b1 b2 S' w'' from fun w' h hw => by
            have h9 := rsync_c w' m b1 b2 S h HK3.out.ok
            rw [hS', hcd]
            exact h9
            )

          clear HXX hS' hcd

          go_wp2_with fail
          refine (HD.out _ HK3.out.at_ HK3.out.fr).mono ?_
          rintro e w4 ⟨rfl, ⟨bm4, hA4, hb4⟩, hf4⟩
          have HK4 := hid (HK3.out.d hA4 hb4 hf4 HSO.out.1 HSO.out.2)
          have HB4 := hid (hf4.at HB3.out (cells_apart HK3.out.at_ HB3.out (by decide)))
          have HO4 := hid (hf4.at HOP.out (cells_apart HK3.out.at_ HOP.out (by decide)))

          clear hA4 hb4 hf4
          go_wp2_with fail
          refine (HM.out _ HK4.out.ra HK4.out.fr).mono ?_
          rintro e w5 ⟨rfl, hT5⟩
          have HT5 := hid hT5
          have HB5 := hid (hT5.2.at HB4.out (rcells_apart HK4.out.ra HB4.out (by decide) (by decide)))
          have HO5 := hid (hT5.2.at HO4.out (rcells_apart HK4.out.ra HO4.out (by decide) (by decide)))
          obtain ⟨b15, b25, hK5⟩ := HK4.out.r hT5 HSO.out.1 HSO.out.2
          have HK5 := hid hK5
          clear hT5 hK5
          go_wp2_with fail
          go_meet
          exact ⟨rfl, rfl, rfl, g, bm4, b15, b25, S', cd, [], rfl, rfl, rfl, rfl, rfl, HK5, HB5, HO5⟩
      by_cases hk3 : kd = 3
      · as_aux_lemma =>
          subst hk3
          have HXX := hid (arm_ok HK3.out.ok HOK.out.n2 ks)

          have HSO := hid (show (S.arm nn ks).1.Ok ∧ (S.arm nn ks).1.n = S.n from HXX.out)
          obtain ⟨S', hS'⟩ : ∃ S', S' = (S.arm nn ks).1 := ⟨_, rfl⟩
          obtain ⟨cd, hcd⟩ : ∃ cd, cd = (S.arm nn ks).2 := ⟨_, rfl⟩
          rw [← hS'] at HSO

          have HD := hid (show ∀ w', At w' g bm S → Fr (fun _ => False) w w' → Calls Try.prog 18 #[.pointer (some ⟨g, 0, none⟩), .int .i64 nn, (.slice av ks.length kc)] w' fun e w'' => e = .returned (.int .i64 cd) ∧ (∃ bm', At w'' g bm' S' ∧ (bm' = bm ∨ w'.heap.size ≤ bm')) ∧ Fr (fun i => i = g ∨ i = bm) w' w'' from fun w' h hw => by
            have h9 := arm_c w' g bm S h HK3.out.ok nn HOK.out.n1 HOK.out.n2 _ ks (HKW.out.stay hw) HKL.out
            rw [hS', hcd]
            exact h9.mono (fun e w'' ⟨h1, h2, h3⟩ => ⟨h1, ⟨bm, h2, Or.inl rfl⟩, h3⟩)
            )
          have HM := hid (show ∀ w', RA w' m b1 b2 S → Fr (fun _ => False) w w' → Calls Try.prog 24 #[.pointer (some ⟨m, 0, none⟩), .int .i64 nn, (.slice av ks.length kc)] w' fun e w'' => e = .returned (.int .i64 cd) ∧ RTurn w' m b1 b2 S' w'' from fun w' h hw => by
            have h9 := rarm_c w' m b1 b2 S h HK3.out.ok nn HOK.out.n1 HOK.out.n2 _ ks (HKW.out.stay hw) HKL.out (by
              intro hk0 a n c ha e
              obtain ⟨a', c', e0, _, h2⟩ := HKW.out
              rcases h2 with h2 | ⟨b, o, h2, h3⟩
              · exact hk0 h2
              · injection ha with ha _ _
                injection e0 with e0 _ _
                have hlt := World.block_lt_of_cell? w _ (h3 0 (by cases ks with | nil => exact absurd rfl hk0 | cons _ _ => simp))
                have hlo := HK3.out.low
                rw [ha] at e0
                rw [h2] at e0
                injection e0 with e0
                rw [e0] at e
                simp only at e hlt
                omega)
            rw [hS', hcd]
            exact h9
            )

          clear HXX hS' hcd
          have o1c : w3.cell? ⟨bo, 2, none⟩ = some (.int .i64 nn) := cell_at HOP.out 2
          have o2c : w3.cell? ⟨bo, 4, none⟩ = some (.slice av ks.length kc) := cell_at HOP.out 4
          go_wp2_with fail
          refine (HD.out _ HK3.out.at_ HK3.out.fr).mono ?_
          rintro e w4 ⟨rfl, ⟨bm4, hA4, hb4⟩, hf4⟩
          have HK4 := hid (HK3.out.d hA4 hb4 hf4 HSO.out.1 HSO.out.2)
          have HB4 := hid (hf4.at HB3.out (cells_apart HK3.out.at_ HB3.out (by decide)))
          have HO4 := hid (hf4.at HOP.out (cells_apart HK3.out.at_ HOP.out (by decide)))
          have o1d : w4.cell? ⟨bo, 2, none⟩ = some (.int .i64 nn) := cell_at HO4.out 2
          have o2d : w4.cell? ⟨bo, 4, none⟩ = some (.slice av ks.length kc) := cell_at HO4.out 4
          clear hA4 hb4 hf4
          go_wp2_with fail
          refine (HM.out _ HK4.out.ra HK4.out.fr).mono ?_
          rintro e w5 ⟨rfl, hT5⟩
          have HT5 := hid hT5
          have HB5 := hid (hT5.2.at HB4.out (rcells_apart HK4.out.ra HB4.out (by decide) (by decide)))
          have HO5 := hid (hT5.2.at HO4.out (rcells_apart HK4.out.ra HO4.out (by decide) (by decide)))
          obtain ⟨b15, b25, hK5⟩ := HK4.out.r hT5 HSO.out.1 HSO.out.2
          have HK5 := hid hK5
          clear hT5 hK5
          go_wp2_with fail
          go_meet
          exact ⟨rfl, rfl, rfl, g, bm4, b15, b25, S', cd, [], rfl, rfl, rfl, rfl, rfl, HK5, HB5, HO5⟩
      by_cases hk4 : kd = 4
      · as_aux_lemma =>
          subst hk4
          have HXX := hid (crash_ok HK3.out.ok ks)

          have HSO := hid (show (S.crash ks).1.Ok ∧ (S.crash ks).1.n = S.n from HXX.out)
          obtain ⟨S', hS'⟩ : ∃ S', S' = (S.crash ks).1 := ⟨_, rfl⟩
          obtain ⟨cd, hcd⟩ : ∃ cd, cd = (S.crash ks).2 := ⟨_, rfl⟩
          rw [← hS'] at HSO

          have HD := hid (show ∀ w', At w' g bm S → Fr (fun _ => False) w w' → Calls Try.prog 25 #[.pointer (some ⟨g, 0, none⟩), (.slice av ks.length kc)] w' fun e w'' => e = .returned (.int .i64 cd) ∧ (∃ bm', At w'' g bm' S' ∧ (bm' = bm ∨ w'.heap.size ≤ bm')) ∧ Fr (fun i => i = g ∨ i = bm) w' w'' from fun w' h hw => by
            have h9 := crash_c w' g bm S h HK3.out.ok _ ks (HKW.out.stay hw)
            rw [hS', hcd]
            exact h9
            )
          have HM := hid (show ∀ w', RA w' m b1 b2 S → Fr (fun _ => False) w w' → Calls Try.prog 26 #[.pointer (some ⟨m, 0, none⟩), (.slice av ks.length kc)] w' fun e w'' => e = .returned (.int .i64 cd) ∧ RTurn w' m b1 b2 S' w'' from fun w' h hw => by
            have h9 := rcrash_c w' m b1 b2 S h HK3.out.ok _ ks (HKW.out.stay hw)
            rw [hS', hcd]
            exact h9
            )

          clear HXX hS' hcd
          have o2c : w3.cell? ⟨bo, 4, none⟩ = some (.slice av ks.length kc) := cell_at HOP.out 4
          go_wp2_with fail
          refine (HD.out _ HK3.out.at_ HK3.out.fr).mono ?_
          rintro e w4 ⟨rfl, ⟨bm4, hA4, hb4⟩, hf4⟩
          have HK4 := hid (HK3.out.d hA4 hb4 hf4 HSO.out.1 HSO.out.2)
          have HB4 := hid (hf4.at HB3.out (cells_apart HK3.out.at_ HB3.out (by decide)))
          have HO4 := hid (hf4.at HOP.out (cells_apart HK3.out.at_ HOP.out (by decide)))
          have o2d : w4.cell? ⟨bo, 4, none⟩ = some (.slice av ks.length kc) := cell_at HO4.out 4
          clear hA4 hb4 hf4
          go_wp2_with fail
          refine (HM.out _ HK4.out.ra HK4.out.fr).mono ?_
          rintro e w5 ⟨rfl, hT5⟩
          have HT5 := hid hT5
          have HB5 := hid (hT5.2.at HB4.out (rcells_apart HK4.out.ra HB4.out (by decide) (by decide)))
          have HO5 := hid (hT5.2.at HO4.out (rcells_apart HK4.out.ra HO4.out (by decide) (by decide)))
          obtain ⟨b15, b25, hK5⟩ := HK4.out.r hT5 HSO.out.1 HSO.out.2
          have HK5 := hid hK5
          clear hT5 hK5
          go_wp2_with fail
          go_meet
          exact ⟨rfl, rfl, rfl, g, bm4, b15, b25, S', cd, [], rfl, rfl, rfl, rfl, rfl, HK5, HB5, HO5⟩
      by_cases hk5 : kd = 5
      · as_aux_lemma =>
          subst hk5
          have HXX := hid (revive_ok HK3.out.ok)

          have HSO := hid (show S.revive.Ok ∧ S.revive.n = S.n from HXX.out)
          obtain ⟨S', hS'⟩ : ∃ S', S' = S.revive := ⟨_, rfl⟩
          rw [← hS'] at HSO

          have HD := hid (show ∀ w', At w' g bm S → Fr (fun _ => False) w w' → Calls Try.prog 27 #[.pointer (some ⟨g, 0, none⟩)] w' fun e w'' => e = .returned (.tuple #[]) ∧ (∃ bm', At w'' g bm' S' ∧ (bm' = bm ∨ w'.heap.size ≤ bm')) ∧ Fr (fun i => i = g ∨ i = bm) w' w'' from fun w' h hw => by
            have h9 := revive_c w' g bm S h
            rw [hS']
            exact h9.mono (fun e w'' ⟨h1, h2, h3⟩ => ⟨h1, ⟨bm, h2, Or.inl rfl⟩, h3.mono (fun _ _ e => Or.inl e)⟩)
            )
          have HM := hid (show ∀ w', RA w' m b1 b2 S → Fr (fun _ => False) w w' → Calls Try.prog 28 #[.pointer (some ⟨m, 0, none⟩)] w' fun e w'' => e = .returned (.tuple #[]) ∧ RTurn w' m b1 b2 S' w'' from fun w' h hw => by
            have h9 := rrevive_c w' m b1 b2 S.n S.armed _ _ S.kept S.dead h
            rw [hS']
            exact h9.mono (fun e w'' ⟨h1, h2, h3⟩ => ⟨h1, ⟨b1, b2, h2, Or.inl rfl, Or.inl rfl⟩, h3.mono (fun _ _ e => Or.inl e)⟩)
            )

          clear HXX hS'

          go_wp2_with fail
          refine (HD.out _ HK3.out.at_ HK3.out.fr).mono ?_
          rintro e w4 ⟨rfl, ⟨bm4, hA4, hb4⟩, hf4⟩
          have HK4 := hid (HK3.out.d hA4 hb4 hf4 HSO.out.1 HSO.out.2)
          have HB4 := hid (hf4.at HB3.out (cells_apart HK3.out.at_ HB3.out (by decide)))
          have HO4 := hid (hf4.at HOP.out (cells_apart HK3.out.at_ HOP.out (by decide)))

          clear hA4 hb4 hf4
          go_wp2_with fail
          refine (HM.out _ HK4.out.ra HK4.out.fr).mono ?_
          rintro e w5 ⟨rfl, hT5⟩
          have HT5 := hid hT5
          have HB5 := hid (hT5.2.at HB4.out (rcells_apart HK4.out.ra HB4.out (by decide) (by decide)))
          have HO5 := hid (hT5.2.at HO4.out (rcells_apart HK4.out.ra HO4.out (by decide) (by decide)))
          obtain ⟨b15, b25, hK5⟩ := HK4.out.r hT5 HSO.out.1 HSO.out.2
          have HK5 := hid hK5
          clear hT5 hK5
          go_wp2_with fail
          go_meet
          exact ⟨rfl, rfl, rfl, g, bm4, b15, b25, S', 0, [], rfl, rfl, rfl, rfl, rfl, HK5, HB5, HO5⟩
      by_cases hk6 : kd = 6
      · as_aux_lemma =>
          subst hk6

          have HCL := hid (clone_c w3 g bm S HK3.out.at_)
          go_wp2_with fail
          refine HCL.out.mono ?_
          rintro e w4 ⟨g2, bm2, rfl, hA2, hg2, hb2, hf4⟩
          have hlo3 := HK3.out.at_.low
          have hsw := HK3.out.fr.size
          have h4 := HK3.out.stay hf4
          have HK4 := hid (show DJ w w4 g2 bm2 m b1 b2 N S S from ⟨hA2, h4.ra, h4.ok, h4.rok, h4.n, h4.fr, by have := h4.low; omega⟩)
          have HW4 := hid (show At w4 g bm S from h4.at_)
          have HB4 := hid (hf4.at HB3.out (fun f => f))
          have HO4 := hid (hf4.at HOP.out (fun f => f))
          have HLO := hid (show w.heap.size ≤ g ∧ w.heap.size ≤ bm from ⟨HK3.out.low.1, HK3.out.low.2.1⟩)
          have HN1 := hid (show g2 ≠ g by omega)
          have HN2 := hid (show bm2 ≠ bm by omega)
          have HS0 := hid HK3.out.ok
          clear hA2 hg2 hb2 hf4 h4 hlo3 hsw HK3 HB3 HOP HCL o0c
          go_wp2_with fail
          refine (fill_c 64 122 w4).mono ?_
          rintro e w5 ⟨rfl, hf5⟩
          have HK5 := hid (HK4.out.stay hf5)
          have HW5 := hid (HW4.out.stay hf5)
          have HB5 := hid (hf5.at HB4.out (fun f => f))
          have HO5 := hid (hf5.at HO4.out (fun f => f))
          obtain ⟨z, hz⟩ : ∃ z, z = fillL 64 122 := ⟨_, rfl⟩
          rw [← hz]
          have hzl : z.length ≤ 4480 := by rw [hz, fillL_length, fillN]; omega
          have HWR := hid (write_c w5 g bm S HW5.out HS0.out 0 (by decide) (by decide) z (by omega))
          have HS1 := hid (write_ok HS0.out 0 z).1
          simp only [WriteC] at HWR
          obtain ⟨S1, hS1⟩ : ∃ S1, S1 = (S.write 0 z).1 := ⟨_, rfl⟩
          rw [← hS1] at HWR HS1
          clear hf5 hz hzl hS1 HK4 HW4 HB4 HO4
          go_wp2_with fail
          refine HWR.out.mono ?_
          rintro e w6 ⟨rfl, ⟨bm6, hA6, hb6⟩, hf6⟩
          have HK6 := hid (HK5.out.other HW5.out hf6 HN1.out HN2.out HLO.out)
          have HW6 := hid hA6
          have HB6 := hid (hf6.at HB5.out (cells_apart HW5.out HB5.out (by decide)))
          have HO6 := hid (hf6.at HO5.out (cells_apart HW5.out HO5.out (by decide)))
          have HN6 := hid (show bm2 ≠ bm6 by
            have h1 := HK5.out.at_.low
            have h2 := HN2.out
            rcases hb6 with hb6 | hb6
            · rw [hb6]; exact h2
            · omega)
          have HL6 := hid (show w.heap.size ≤ g ∧ w.heap.size ≤ bm6 by
            have h1 := HK5.out.fr.size
            have h2 := HLO.out
            rcases hb6 with hb6 | hb6 <;> omega)
          have HSY := hid (sync_c w6 g bm6 S1 HW6.out HS1.out)
          have HS2 := hid (sync_ok HS1.out).1
          obtain ⟨S2, hS2⟩ : ∃ S2, S2 = S1.sync.1 := ⟨_, rfl⟩
          rw [← hS2] at HSY HS2
          clear hA6 hb6 hf6 hS2 HK5 HW5 HB5 HO5 HWR
          go_wp2_with fail
          refine HSY.out.mono ?_
          rintro e w7 ⟨rfl, ⟨bm7, hA7, hb7⟩, hf7⟩
          have HK7 := hid (HK6.out.other HW6.out hf7 HN1.out HN6.out HL6.out)
          have HW7 := hid hA7
          have HB7 := hid (hf7.at HB6.out (cells_apart HW6.out HB6.out (by decide)))
          have HO7 := hid (hf7.at HO6.out (cells_apart HW6.out HO6.out (by decide)))
          have HN7 := hid (show bm2 ≠ bm7 by
            have h1 := HK6.out.at_.low
            have h2 := HN6.out
            rcases hb7 with hb7 | hb7
            · rw [hb7]; exact h2
            · omega)
          have HL7 := hid (show w.heap.size ≤ g ∧ w.heap.size ≤ bm7 by
            have h1 := HK6.out.fr.size
            have h2 := HL6.out
            rcases hb7 with hb7 | hb7 <;> omega)
          have HCR := hid (crash_c w7 g bm7 S2 HW7.out HS2.out (.slice none 0 0) [] ⟨none, 0, rfl, by simp, Or.inl rfl⟩)
          have HS3 := hid (crash_ok HS2.out []).1
          obtain ⟨S3, hS3⟩ : ∃ S3, S3 = (S2.crash []).1 := ⟨_, rfl⟩
          rw [← hS3] at HCR HS3
          clear hA7 hb7 hf7 hS3 HK6 HW6 HB6 HO6 HSY
          go_wp2_with fail
          refine HCR.out.mono ?_
          rintro e w8 ⟨rfl, ⟨bm8, hA8, hb8⟩, hf8⟩
          have HK8 := hid (HK7.out.other HW7.out hf8 HN1.out HN7.out HL7.out)
          have HW8 := hid hA8
          have HB8 := hid (hf8.at HB7.out (cells_apart HW7.out HB7.out (by decide)))
          have HO8 := hid (hf8.at HO7.out (cells_apart HW7.out HO7.out (by decide)))
          have HN8 := hid (show bm2 ≠ bm8 by
            have h1 := HK7.out.at_.low
            have h2 := HN7.out
            rcases hb8 with hb8 | hb8
            · rw [hb8]; exact h2
            · omega)
          have HL8 := hid (show w.heap.size ≤ g ∧ w.heap.size ≤ bm8 by
            have h1 := HK7.out.fr.size
            have h2 := HL7.out
            rcases hb8 with hb8 | hb8 <;> omega)
          have HRV := hid (revive_c w8 g bm8 S3 HW8.out)
          clear hA8 hb8 hf8 HK7 HW7 HB7 HO7 HCR
          go_wp2_with fail
          refine HRV.out.mono ?_
          rintro e w9 ⟨rfl, hA9, hf9⟩
          have hf9' : Fr (fun i => i = g ∨ i = bm8) w8 w9 := hf9.mono (fun _ _ e => Or.inl e)
          have HK9 := hid (HK8.out.other HW8.out hf9' HN1.out HN8.out HL8.out)
          have HB9 := hid (hf9'.at HB8.out (cells_apart HW8.out HB8.out (by decide)))
          have HO9 := hid (hf9'.at HO8.out (cells_apart HW8.out HO8.out (by decide)))
          clear hA9 hf9 hf9'
          go_wp2_with fail
          go_meet
          exact ⟨rfl, rfl, rfl, g2, bm2, b1, b2, S, 0, [], rfl, rfl, rfl, rfl, rfl, HK9, HB9, HO9⟩
      as_aux_lemma =>
        go_wp2_with fail
        go_meet
        exact ⟨rfl, rfl, rfl, g, bm, b1, b2, S, 0, [], rfl, rfl, rfl, rfl, rfl, HK3, HB3, HOP⟩
    case rest =>
      obtain ⟨rfl, rfl, rfl, g', bm', b1', b2', S', cd, xs, rfl, rfl, rfl, rfl, rfl, HK4, HB4, HO4⟩ := hcut
      obtain ⟨w7, hw7⟩ : ∃ w7, w7 = wc := ⟨_, rfl⟩
      rw [← hw7] at HK4 HB4 HO4 ⊢
      clear hw7
      have HKV := hid (HKW.out.stay HK4.out.fr)
      have hI := hid (show ∀ w', Fr (fun _ => False) w7 w' → Calls Try.prog 16 #[.pointer (some ⟨g', 0, none⟩)] w' fun e w'' => e = .returned (.string (bs S'.image)) ∧ Fr (fun _ => False) w' w'' from fun w' hf => image_c w' g' bm' S' (HK4.out.at_.stay hf) HK4.out.ok)
      have hIR := hid (show ∀ w', Fr (fun _ => False) w7 w' → Calls Try.prog 30 #[.pointer (some ⟨m, 0, none⟩)] w' fun e w'' => e = .returned (.string (bs S'.image)) ∧ Fr (fun _ => False) w' w'' from fun w' hf => rimage_c w' m b1' b2' S' (RC.stay HK4.out.ra hf) HK4.out.ok)
      have hA := hid (show ∀ w', Fr (fun _ => False) w7 w' → Calls Try.prog 17 #[.pointer (some ⟨g', 0, none⟩), .slice av ks.length kc] w' fun e w'' => e = .returned (.string (bs (S'.after ks))) ∧ Fr (fun _ => False) w' w'' from fun w' hf => after_c w' g' bm' S' (HK4.out.at_.stay hf) HK4.out.ok _ ks (HKV.out.stay hf))
      have hAR := hid (show ∀ w', Fr (fun _ => False) w7 w' → Calls Try.prog 31 #[.pointer (some ⟨m, 0, none⟩), .slice av ks.length kc] w' fun e w'' => e = .returned (.string (bs (S'.after ks))) ∧ Fr (fun _ => False) w' w'' from fun w' hf => rafter_c w' m b1' b2' S' (RC.stay HK4.out.ra hf) HK4.out.ok _ ks (HKV.out.stay hf))
      obtain ⟨UL, hUL⟩ : ∃ UL : List Int, UL = S'.unl.map (fun (i : Nat) => (i : Int)) := ⟨_, rfl⟩
      have hU := hid (show ∀ w', Fr (fun _ => False) w7 w' → Calls Try.prog 12 #[.pointer (some ⟨g', 0, none⟩)] w' fun e w'' => ∃ v, e = .returned v ∧ IntsV w'' v UL ∧ Fr (fun _ => False) w' w'' from fun w' hf => by
        rw [hUL]
        exact (unsafe_c w' g' bm' S' (HK4.out.at_.stay hf) HK4.out.ok).mono (fun e w'' ⟨v, h1, h2, _, h4⟩ => ⟨v, h1, h2.toV, h4⟩))
      have hUR := hid (show ∀ w', Fr (fun _ => False) w7 w' → Calls Try.prog 33 #[.pointer (some ⟨m, 0, none⟩)] w' fun e w'' => ∃ v, e = .returned v ∧ IntsV w'' v UL ∧ Fr (fun _ => False) w' w'' from fun w' hf => by
        rw [hUL]
        exact runsafe_v w' m b1' b2' S' (RC.stay HK4.out.ra hf) HK4.out.ok)
      have hSM := hid (show ∀ w' va vb, IntsV w' va UL → IntsV w' vb UL → Calls Try.prog 32 #[va, vb] w' fun e w'' => e = .returned (.bool true) ∧ Fr (fun _ => False) w' w'' from fun w' va vb h1 h2 => same_c w' va vb UL h1 h2)
      have hDD := hid (show ∀ w', Fr (fun _ => False) w7 w' → Calls Try.prog 13 #[.pointer (some ⟨g', 0, none⟩)] w' fun e w'' => e = .returned (.bool S'.dead) ∧ Fr (fun _ => False) w' w'' from fun w' hf => (dead_c w' g' bm' S' (HK4.out.at_.stay hf)).mono (fun e w'' ⟨h1, h2⟩ => ⟨h1, h2 ▸ Fr.refl _ _⟩))
      have hCN := hid (show ∀ w', Fr (fun _ => False) w7 w' → Calls Try.prog 11 #[.pointer (some ⟨g', 0, none⟩)] w' fun e w'' => e = .returned (.int .i64 N) ∧ Fr (fun _ => False) w' w'' from fun w' hf => by
        have h9 := count_c w' g' bm' S' (HK4.out.at_.stay hf) HK4.out.ok
        rw [HK4.out.n.1] at h9
        exact h9.mono (fun e w'' ⟨h1, h2⟩ => ⟨h1, h2 ▸ Fr.refl _ _⟩))
      obtain ⟨I, hIe⟩ : ∃ I, I = S'.image := ⟨_, rfl⟩
      obtain ⟨J, hJe⟩ : ∃ J, J = S'.after ks := ⟨_, rfl⟩
      obtain ⟨D, hDe⟩ : ∃ D, D = S'.dead := ⟨_, rfl⟩
      rw [← hIe] at hI hIR
      rw [← hJe] at hA hAR
      rw [← hDe] at hDD
      obtain ⟨⟨x1, x2, kvr, y1, _⟩, _⟩ := HK4.out.ra
      rw [HK4.out.n.2, ← hDe] at y1
      have k4 : w7.cell? ⟨bo, 4, none⟩ = some (.slice av ks.length kc) := cell_at HO4.out 4
      have k5 : w7.cell? ⟨m, 4, none⟩ = some (.bool D) := cell_at y1 4
      have k6 : w7.cell? ⟨m, 0, none⟩ = some (.slice (some ⟨b1', 0, none⟩) N x1) := cell_at y1 0
      have K4 := hid k4
      have K5 := hid k5
      have K6 := hid k6
      have hfw : Fr (fun _ => False) w7 w7.drew := (Fr.refl _ _).drew
      clear hIe hJe hDe hUL y1 HKV o0c HK3 HB3 HOP HKW K4 K5 K6
      go_upto_region 39 with fail
      go_region_held3 (fun w' => w'.cell? ⟨bo, 4, none⟩ = some (.slice av ks.length kc) ∧ w'.cell? ⟨m, 4, none⟩ = some (.bool D) ∧ w'.cell? ⟨m, 0, none⟩ = some (.slice (some ⟨b1', 0, none⟩) N x1) ∧ Fr (fun _ => False) w7 w')
        (first | exact ⟨k4, k5, k6, hfw⟩ | exact keepD (by assumption) (by assumption) | go_keep)
        (first
          | (go_at_call 16; refine (hI.out _ (lastD (by assumption))).mono ?_; rintro e w' ⟨rfl, hf'⟩)
          | (go_at_call 30; refine (hIR.out _ (lastD (by assumption))).mono ?_; rintro e w' ⟨rfl, hf'⟩)
          | (go_at_call 17; refine (hA.out _ (lastD (by assumption))).mono ?_; rintro e w' ⟨rfl, hf'⟩)
          | (go_at_call 31; refine (hAR.out _ (lastD (by assumption))).mono ?_; rintro e w' ⟨rfl, hf'⟩)
          | (go_at_call 12; refine (hU.out _ (lastD (by assumption))).mono ?_; rintro e w' ⟨va, rfl, hv1, hf'⟩; have HU1 := hid hv1; clear hv1)
          | (go_at_call 33; refine (hUR.out _ (lastD (by assumption))).mono ?_; rintro e w' ⟨vb, rfl, hv2, hf'⟩; have HU2 := hid hv2; have HU1 := hid (HU1.out.stay hf'); clear hv2)
          | (go_at_call 32; refine (hSM.out _ _ _ HU1.out HU2.out).mono ?_; rintro e w' ⟨rfl, hf'⟩)
          | (go_at_call 13; refine (hDD.out _ (lastD (by assumption))).mono ?_; rintro e w' ⟨rfl, hf'⟩)
          | (go_at_call 11; refine (hCN.out _ (lastD (by assumption))).mono ?_; rintro e w' ⟨rfl, hf'⟩))
      all_goals (
        rename_i hS
        have HK8 := hid (HK4.out.stay hS.2.2.2)
        have HB8 := hid (hS.2.2.2.at HB4.out (fun f => f))
        go_wp2_with fail
        first | go_roundw | skip
        case measure => simp [intOf]; omega
        exact ⟨i + 1, g', bm', b1', b2', S', rfl, rfl, rfl, by omega, HK8, HB8⟩)

end Go.Proofs.Ytcklnhjjjapfjaa.D
