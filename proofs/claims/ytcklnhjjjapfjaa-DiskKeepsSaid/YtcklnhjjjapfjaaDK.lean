/-
  DiskKeeps: whatever is written and synced, wherever the power goes, and whatever is kept. No condition.
-/
import Derived.Test.YtcklnhjjjapfjaaDK0
import Derived.Deep.RegionHeld3
import Derived.Deep.DeepCutAuto
import Derived.Deep.CutBlock
import Derived.Deep.CutRange
namespace Go.Proofs.Ytcklnhjjjapfjaa.D
open Go.RowKit Go.Maps Go.Shelf
set_option linter.unusedVariables false
set_option linter.unusedSimpArgs false

structure KInv (W w : World) (g bm b6 b7 N : Nat) (S : St) : Prop where
  at_ : At w g bm S
  ok : S.Ok
  n : S.n = N
  armed : S.armed = 0
  dead : S.dead = false
  safe : RowIs w b6 N (piece S.safe)
  last : RowIs w b7 N (sec S)
  fr : Fr (fun _ => False) W w
  low : W.heap.size ≤ g ∧ W.heap.size ≤ bm ∧ W.heap.size ≤ b6 ∧ W.heap.size ≤ b7
  ne : b6 ≠ b7

theorem strs_row (N : Nat) : strs (List.replicate N []) = rowOf (fun _ => []) N := by
  apply List.ext_getElem?
  intro i
  by_cases hi : i < N
  · rw [rowOf_get hi]; simp [strs, hi]
  · rw [List.getElem?_eq_none (by simp [strs]; omega), List.getElem?_eq_none (by rw [rowOf_length]; omega)]

theorem KInv.ki {W w : World} {g bm b6 b7 N : Nat} {S : St} (h : KInv W w g bm b6 b7 N S) : KI W w g bm b6 b7 N S (piece S.safe) (sec S) :=
  ⟨h.at_, h.ok, h.n, h.safe, h.last, h.fr, h.low, h.ne⟩
theorem KI.inv {W w : World} {g bm b6 b7 N : Nat} {S : St} {f6 f7 : Nat → List UInt8} (h : KI W w g bm b6 b7 N S f6 f7) (ha : S.armed = 0) (hd : S.dead = false) (e6 : ∀ i, i < N → f6 i = piece S.safe i) (e7 : ∀ i, i < N → f7 i = sec S i) : KInv W w g bm b6 b7 N S :=
  ⟨h.at_, h.ok, h.n, ha, hd, h.safe.congr e6, h.last.congr e7, h.fr, h.low, h.ne⟩

theorem KInv.stay {W w w' : World} {g bm b6 b7 N : Nat} {S : St} (h : KInv W w g bm b6 b7 N S) (hf : Fr (fun _ => False) w w') : KInv W w' g bm b6 b7 N S :=
  ⟨h.at_.stay hf, h.ok, h.n, h.armed, h.dead, h.safe.keep hf (fun f => f), h.last.keep hf (fun f => f), h.fr.trans hf (fun _ _ f => f), h.low, h.ne⟩

set_option maxHeartbeats 8000000 in
set_option maxRecDepth 100000 in
theorem keeps_law (sc : Int) (A : Option Addr) (cap : Nat) (ops : List (OpV × List Int)) (w : World) (hS : ScriptAt w A ops) :
    Calls Try.prog 7 #[.agg #[.int .i64 sc, .slice A ops.length cap]] w fun e w' => e = .returned (.bool true) ∧ Fr (fun _ => False) w w' := by
  obtain ⟨N, hN⟩ : ∃ N : Nat, N = (max 1 (min sc 64)).toNat := ⟨_, rfl⟩
  have hN1 : 1 ≤ N ∧ N ≤ 64 := by omega
  have hmin : ∀ w, (Builtin.min_ #[3, 3] 3 #[.int .i64 sc, .int .i64 64]).run Try.prog w = .ok (.int .i64 (min sc 64)) w := by
    intro w
    rw [run_min_int2]
    congr 2
    split <;> omega
  have hmax : ∀ w, (Builtin.max_ #[3, 3] 3 #[.int .i64 1, .int .i64 (min sc 64)]).run Try.prog w = .ok (.int .i64 (N : Int)) w := by
    intro w
    rw [run_max_int2]
    congr 2
    rw [hN]
    split <;> omega
  obtain ⟨M, hM⟩ : ∃ M, M = min sc 64 := ⟨_, rfl⟩
  rw [← hM] at hmin hmax
  clear hN hM
  have hf0 := hid (show Fr (fun _ => False) w (w.alloc (.cells #[.int .i64 sc, .slice A ops.length cap] 49)) from (Fr.refl _ w).alloc _)
  have hb1 : (w.alloc (.cells #[.int .i64 sc, .slice A ops.length cap] 49)).heap[w.heap.size]? = some (.cells #[.int .i64 sc, .slice A ops.length cap] 49) := (MapKept.heap_alloc w _).1
  have HB1 := hid hb1
  have k0 : (w.alloc (.cells #[.int .i64 sc, .slice A ops.length cap] 49)).cell? ⟨w.heap.size, 0, none⟩ = some (.int .i64 sc) := cell_at hb1 0
  have HSC := hid hS
  have hopl : ops.length ≤ 9223372036854775807 := hS.1
  obtain ⟨Z, hZ⟩ : ∃ Z, Z = zero (64 * N) := ⟨_, rfl⟩
  have HI := hid (show IsImage Z by rw [hZ]; simp only [IsImage, zero, List.length_replicate]; omega)
  have HZ := hid hZ
  have hmk : (Instr.makeSlice 26 (.int .i64 (64 * (N : Int))) (.int .i64 (64 * (N : Int)))).run Try.prog (w.alloc (.cells #[.int .i64 sc, .slice A ops.length cap] 49)) = .ok (.slice (some ⟨(w.alloc (.cells #[.int .i64 sc, .slice A ops.length cap] 49)).heap.size, 0, none⟩) (64 * N) (64 * N)) ((w.alloc (.cells #[.int .i64 sc, .slice A ops.length cap] 49)).alloc (.cells (bytesOf Z).toArray 5)) := by
    have := mkz (64 * N) (by omega) (w.alloc (.cells #[.int .i64 sc, .slice A ops.length cap] 49))
    rw [hZ]
    exact_mod_cast this
  have hms : (convert 26 9 (.slice (some ⟨(w.alloc (.cells #[.int .i64 sc, .slice A ops.length cap] 49)).heap.size, 0, none⟩) (64 * N) (64 * N))).run Try.prog ((w.alloc (.cells #[.int .i64 sc, .slice A ops.length cap] 49)).alloc (.cells (bytesOf Z).toArray 5)) = .ok (.string (bs Z)) ((w.alloc (.cells #[.int .i64 sc, .slice A ops.length cap] 49)).alloc (.cells (bytesOf Z).toArray 5)) := by
    rw [hZ]
    exact mks (64 * N) (w.alloc (.cells #[.int .i64 sc, .slice A ops.length cap] 49))
  have hwr : IntKind.i64.wrap (64 * (N : Int)) = 64 * (N : Int) := by rw [IntKind.wrap_i64]; omega
  have HNC := hid (new_c ((w.alloc (.cells #[.int .i64 sc, .slice A ops.length cap] 49)).alloc (.cells (bytesOf Z).toArray 5)) Z HI.out)
  have hsz1 : (w.alloc (.cells #[.int .i64 sc, .slice A ops.length cap] 49)).heap.size = w.heap.size + 1 := by simp
  rw [hsz1] at hmk hms
  clear hZ hS hb1 hsz1
  go_enter Try.func7, Try.ntmps7
  go_wp2_with fail
  refine HNC.out.mono ?_
  rintro e w2 ⟨g, bm, rfl, hA2, hg1, hbm1, hf2⟩
  have hf2' := ((Fr.refl (fun _ => False) (w.alloc (.cells #[.int .i64 sc, .slice A ops.length cap] 49))).alloc (.cells (bytesOf Z).toArray 5)).trans hf2 (fun _ _ f => f)
  have HA2 := hid hA2
  have HF2 := hid (hf0.out.trans hf2' (fun _ _ f => f))
  have HB2 := hid (hf2'.at HB1.out (fun f => f))
  have hlo : w.heap.size ≤ g ∧ w.heap.size ≤ bm := by
    have : (w.alloc (.cells #[.int .i64 sc, .slice A ops.length cap] 49)).heap.size ≤ ((w.alloc (.cells #[.int .i64 sc, .slice A ops.length cap] 49)).alloc (.cells (bytesOf Z).toArray 5)).heap.size := by simp
    have := hf0.out.size
    omega
  clear hA2 hg1 hbm1 hf2 hf2' hmk hms HNC hf0 k0 hmin hmax HB1
  go_upto_region 5 with fail
  go_cut [6, 7] (fun s6 s7 wx => ∃ b6 b7 : Nat, s6 = .slice (some ⟨b6, 0, none⟩) N N ∧ s7 = .slice (some ⟨b7, 0, none⟩) N N ∧ Hid (RowIs wx b6 N (fun _ => []) ∧ RowIs wx b7 N (fun _ => []) ∧ b6 ≠ b7 ∧ Fr (fun _ => False) w2 wx ∧ w2.heap.size ≤ b6 ∧ w2.heap.size ≤ b7))
  case first =>
    have hmk2 : ∀ w : World, (Instr.makeSlice 55 (.int .i64 (N : Int)) (.int .i64 (N : Int))).run Try.prog w = .ok (.slice (some ⟨w.heap.size, 0, none⟩) N N) (w.alloc (.cells (rowOf (fun _ => []) N).toArray 9)) := fun w => by
      rw [← strs_row]
      exact mk_strs N (by omega) w
    obtain ⟨R0, hR0⟩ : ∃ R0, R0 = (rowOf (fun _ => []) N).toArray := ⟨_, rfl⟩
    rw [← hR0] at hmk2
    have HR0 := hid hR0
    clear hR0
    go_region
    all_goals (
      go_wp2_with fail
      go_meet
      have q1 : (w2.alloc (.cells R0 9)).heap.size = w2.heap.size + 1 := by simp
      have q2 := (MapKept.heap_alloc w2 (.cells R0 9)).1
      have q3 := (MapKept.heap_alloc (w2.alloc (.cells R0 9)) (.cells R0 9)).1
      rw [q1] at q3
      have q4 := (Below.heap_alloc (w2.alloc (.cells R0 9)) (.cells R0 9) w2.heap.size (by omega)).trans q2
      have q5 : Fr (fun _ => False) w2 (((w2.alloc (.cells R0 9)).alloc (.cells R0 9)).drew) := (((Fr.refl _ w2).alloc _).alloc _).drew
      have hRI : ∀ (wx : World) (b : Nat), wx.heap[b]? = some (.cells R0 9) → RowIs wx b N (fun _ => []) := fun wx b h => by
        unfold RowIs
        rw [← HR0.out]
        exact h
      first
        | exact ⟨w2.heap.size, w2.heap.size + 1, rfl, rfl, hid ⟨hRI _ _ q4, hRI _ _ q3, by omega, q5, by omega, by omega⟩⟩
        | exact ⟨w2.heap.size + 1, w2.heap.size, rfl, rfl, hid ⟨hRI _ _ q3, hRI _ _ q4, by omega, q5, by omega, by omega⟩⟩)
  case rest =>
    obtain ⟨b6, b7, rfl, rfl, HR⟩ := hcut
    go_wp2_with fail
    have HMK := hid (show ∀ wr : World, (Instr.makeSlice 26 (.int .i64 64) (.int .i64 64)).run Try.prog wr = .ok (.slice (some ⟨wr.heap.size, 0, none⟩) 64 64) (wr.alloc (.cells (bytesOf (zero 64)).toArray 5)) from fun wr => mkz 64 (by omega) wr)
    have HMS := hid (show ∀ wr : World, (convert 26 9 (.slice (some ⟨wr.heap.size, 0, none⟩) 64 64)).run Try.prog (wr.alloc (.cells (bytesOf (zero 64)).toArray 5)) = .ok (.string (bs (zero 64))) (wr.alloc (.cells (bytesOf (zero 64)).toArray 5)) from fun wr => mks 64 wr)
    have hbne : b6 ≠ b7 := HR.out.2.2.1
    have hbne2 : b7 ≠ b6 := fun e => hbne e.symm
    have hlob : w2.heap.size ≤ b6 ∧ w2.heap.size ≤ b7 := HR.out.2.2.2.2
    have HFc := hid (HR.out.2.2.2.1)
    go_loopw [8] (fun v wr => ∃ k : Nat, v = .int .i64 k ∧ k ≤ N ∧ Hid (RowIs wr b6 N (fun i => if i < k then zero 64 else [])) ∧ Hid (RowIs wr b7 N (fun i => if i < k then zero 64 else [])) ∧ Hid (Fr (fun _ => False) w2 wr)) (fun v _ => N - (intOf v).toNat)
    case atStart => exact ⟨0, rfl, by omega, hid (HR.out.1.congr fun i _ => by simp), hid (HR.out.2.1.congr fun i _ => by simp), HFc⟩
    case round =>
      obtain ⟨k, rfl, hk, H6, H7, HF⟩ := hrel
      by_cases hend : k = N
      · subst hend
        have hZp : ∀ i, i < k → piece Z i = zero 64 := fun i hi => by rw [HZ.out]; exact zero_sec _ _ (by omega)
        have HK0 := hid (show KInv w wr g bm b6 b7 k (news Z) from
          { at_ := HA2.out.stay HF.out, ok := news_ok HI.out, n := (by rw [HZ.out]; simp [St.n, news, zero]), armed := rfl, dead := rfl
            safe := H6.out.congr fun i hi => by rw [if_pos hi, show (news Z).safe = Z from rfl, hZp i hi]
            last := H7.out.congr fun i hi => by rw [if_pos hi]; show _ = piece Z i; rw [hZp i hi]
            fr := HF2.out.trans HF.out (fun _ _ f => f), low := (by have := HF2.out.size; omega), ne := hbne })
        have HBr := hid (HF.out.at HB2.out (fun f => f))
        clear H6 H7 HF HFc HR HA2 HF2 HB2 hZp HI HZ hlob
        go_wp2_with fail
        go_loopw [9, 2] (fun v v2 wx => ∃ (i : Nat) (bm' : Nat) (S : St), v = .int .i64 i ∧ v2 = .bool false ∧ i ≤ ops.length ∧ Hid (KInv w wx g bm' b6 b7 k S) ∧ Hid (wx.heap[w.heap.size]? = some (.cells #[.int .i64 sc, .slice A ops.length cap] 49))) (fun v _ _ => ops.length - (intOf v).toNat)
        case atStart => exact ⟨0, bm, _, rfl, rfl, by omega, HK0, HBr⟩
        case round =>
          obtain ⟨i, bm1, S, rfl, rfl, hi, HK, HB⟩ := hrel
          have c1 : wr.cell? ⟨w.heap.size, 1, none⟩ = some (.slice A ops.length cap) := cell_at HB.out 1
          by_cases hend : i = ops.length
          · subst hend
            go_wp2_with fail
            refine (fixed_c wr).mono ?_
            rintro e wz ⟨rfl, hfz⟩
            have hFz := hid (HK.out.fr.trans hfz (fun _ _ f => f))
            clear hfz
            go_wp2_with fail
            go_ret
            exact ⟨rfl, hFz.out⟩
          have hi' : i < ops.length := by omega
          have hsc := HSC.out.stay HK.out.fr
          obtain ⟨b0, o0, hA, hp⟩ : ∃ b o, A = some ⟨b, o, none⟩ ∧ ∀ i p, ops[i]? = some p → OpOk p.1 ∧ IntsV wr p.1.kv p.2 ∧
              wr.cell? ⟨b, o + i * 5, none⟩ = some (.int .i64 p.1.kind) ∧ wr.cell? ⟨b, o + i * 5 + 1, none⟩ = some (.int .i64 p.1.at_) ∧ wr.cell? ⟨b, o + i * 5 + 2, none⟩ = some (.int .i64 p.1.n) ∧
              wr.cell? ⟨b, o + i * 5 + 3, none⟩ = some (.int .u8 (p.1.fill.toNat : Int)) ∧ wr.cell? ⟨b, o + i * 5 + 4, none⟩ = some p.1.kv := by
            rcases hsc.2 with h | h
            · subst h; simp at hi'
            · exact h
          subst hA
          obtain ⟨⟨⟨kd, at_, nn, fl, kv⟩, ks⟩, hop⟩ : ∃ p, ops[i]? = some p := ⟨ops[i], by simp [hi']⟩
          obtain ⟨hok, hks, q0, q1, q2, q3, q4⟩ := hp i _ hop
          simp only at hok hks q0 q1 q2 q3 q4
          obtain ⟨av, kc, hkv, hk1, hk2⟩ := hks
          subst hkv
          have HKS := hid (show IntsV wr (.slice av ks.length kc) ks from ⟨av, kc, rfl, hk1, hk2⟩)
          have HOK := hid hok
          have HKW := hid (show IntsV w (.slice av ks.length kc) ks by
            rcases HSC.out.2 with h | ⟨b', o', _, h⟩
            · subst h; simp at hi'
            · exact (h i _ hop).2.1)
          clear hp hop hsc hk1 hk2 hok
          have hwl := lt_of_at HB.out
          go_wp2_with fail
          refine (fill_c nn fl _).mono ?_
          rintro e w3 ⟨rfl, hf3⟩
          have hnew := (MapKept.heap_alloc wr (.cells #[.int .i64 kd, .int .i64 at_, .int .i64 nn, .int .u8 (fl.toNat : Int), .slice av ks.length kc] 36)).1
          have HOP := hid (hf3.at hnew (fun f => f))
          have hf13 := ((Fr.refl (fun _ => False) wr).alloc (.cells #[.int .i64 kd, .int .i64 at_, .int .i64 nn, .int .u8 (fl.toNat : Int), .slice av ks.length kc] 36)).trans hf3 (fun _ _ f => f)
          have HK3 := hid (HK.out.stay hf13)
          have HB3 := hid (hf13.at HB.out (fun f => f))
          have HKS3 := hid (HKS.out.stay hf13)
          obtain ⟨s, hs⟩ : ∃ s, s = fillL nn fl := ⟨_, rfl⟩
          rw [← hs]
          have HSL := hid (show s.length ≤ 4480 by rw [hs, fillL_length, fillN]; omega)
          obtain ⟨bo, hbo⟩ : ∃ bo, bo = wr.heap.size := ⟨_, rfl⟩
          rw [← hbo] at HOP ⊢
          have hbw : bo ≠ w.heap.size := by omega
          clear hf3 hnew hf13 HK HB HKS c1 q0 q1 q2 q3 q4 hs hbo
          have o0c : w3.cell? ⟨bo, 0, none⟩ = some (.int .i64 kd) := cell_at HOP.out 0
          go_upto_block 4 with fail
          go_cut [2, 9] (fun s2 s9 wy => s2 = .bool false ∧ s9 = .int .i64 i ∧ ∃ (bm2 : Nat) (S2 : St), Hid (KInv w wy g bm2 b6 b7 k S2) ∧ Hid (wy.heap[w.heap.size]? = some (.cells #[.int .i64 sc, .slice (some ⟨b0, o0, none⟩) ops.length cap] 49)))
          case first =>
            have o1c : w3.cell? ⟨bo, 1, none⟩ = some (.int .i64 at_) := cell_at HOP.out 1
            by_cases hk1 : kd = 1
            · as_aux_lemma =>
                subst hk1
                have HW := hid (write_c w3 g bm1 S HK3.out.at_ HK3.out.ok at_ HOK.out.a1 HOK.out.a2 s (by have := HSL.out; omega))
                have HWC := hid (write_calm S HK3.out.armed HK3.out.dead at_ s)
                have HWO := hid (write_ok HK3.out.ok at_ s)
                by_cases hbad : badW k at_ s
                · have h1 := HW.out
                  unfold WriteC at h1
                  have h2 := HWC.out.2.1 (by rw [HK3.out.n]; exact hbad)
                  have h3 := HWC.out.1
                  rw [HK3.out.n] at h3
                  have hne : codeW k at_ s ≠ 0 := fun e => (code_bad.1 e) hbad
                  rw [h2, h3] at h1
                  obtain ⟨cd, hcd⟩ : ∃ cd, cd = codeW k at_ s := ⟨_, rfl⟩
                  rw [← hcd] at h1 hne
                  have HW2 := hid h1
                  have hne2 : (cd != 0) = true := by simpa using hne
                  clear h1 h2 h3 hcd hne HWC HWO HW
                  go_wp2_with fail
                  refine HW2.out.mono ?_
                  rintro e w4 ⟨rfl, ⟨bm4, hA4, hb4⟩, hf4⟩
                  have HK4 := hid ((HK3.out.ki.turn hA4 hb4 hf4 HK3.out.ok HK3.out.n).inv HK3.out.armed HK3.out.dead (fun _ _ => rfl) (fun _ _ => rfl))
                  have HB4 := hid (hf4.at HB3.out (cells_apart HK3.out.at_ HB3.out (by decide)))
                  clear hA4 hb4 hf4
                  go_wp2_with fail
                  exact ⟨⟨i + 1, bm4, S, rfl, rfl, by omega, HK4, HB4⟩, by simp [intOf]; omega⟩
                · have h1 := HW.out
                  unfold WriteC at h1
                  have h2 := HWC.out.2.2 (by rw [HK3.out.n]; exact hbad)
                  have h3 := HWC.out.1
                  rw [HK3.out.n, code_bad.2 hbad] at h3
                  have h4 := HWO.out
                  unfold badW at hbad
                  obtain ⟨a, rfl⟩ : ∃ a : Nat, at_ = a := ⟨at_.toNat, by omega⟩
                  obtain ⟨m, hm⟩ : ∃ m, m = s.length / 64 := ⟨_, rfl⟩
                  have hsm : s.length = 64 * m := by omega
                  have ham : a + m ≤ k := by omega
                  rw [Int.toNat_natCast, ← hm] at h2
                  rw [h2, h3] at h1
                  rw [h2] at h4
                  obtain ⟨S', hS'⟩ : ∃ S' : St, S' = { S with un := wun m a s S.un } := ⟨_, rfl⟩
                  rw [← hS'] at h1 h4
                  have HW2 := hid h1
                  have HSO := hid h4
                  have HS' := hid hS'
                  have hsl' : (s.length : Int) = 64 * (m : Int) := by omega
                  have d1 : decide ((a : Int) < 0) = false := decide_eq_false (by omega)
                  have d2 : decide ((k : Int) < a) = false := decide_eq_false (by omega)
                  have d2' : decide (k < a) = false := decide_eq_false (by omega)
                  have e1 : (s.length : Int) / 64 = m := by omega
                  have d3 : decide ((k : Int) - a < m) = false := decide_eq_false (by omega)
                  have e2 : (s.length : Int) % 64 = 0 := by omega
                  have HSM := hid hsm
                  clear h1 h2 h3 h4 hS' hbad HWC HWO HW hm hsm hsl'
                  go_wp2_with fail
                  refine HW2.out.mono ?_
                  rintro e w4 ⟨rfl, ⟨bm4, hA4, hb4⟩, hf4⟩
                  have HK4 := hid (HK3.out.ki.turn hA4 hb4 hf4 HSO.out.1 (HSO.out.2.trans HK3.out.n))
                  have HB4 := hid (hf4.at HB3.out (cells_apart HK3.out.at_ HB3.out (by decide)))
                  have HO4 := hid (hf4.at HOP.out (cells_apart HK3.out.at_ HOP.out (by decide)))
                  have o14 : w4.cell? ⟨bo, 1, none⟩ = some (.int .i64 a) := cell_at HO4.out 1
                  clear hA4 hb4 hf4
                  go_wp2_with fail
                  go_loopw [12] (fun v wy => ∃ j : Nat, v = .int .i64 j ∧ j ≤ m ∧ Hid (KI w wy g bm4 b6 b7 k S' (piece S.safe) (fun x => if a ≤ x ∧ x < a + j then piece s (x - a) else sec S x)) ∧ Hid (wy.heap[w.heap.size]? = some (.cells #[.int .i64 sc, .slice (some ⟨b0, o0, none⟩) ops.length cap] 49)) ∧ Hid (wy.heap[bo]? = some (.cells #[.int .i64 1, .int .i64 a, .int .i64 nn, .int .u8 (fl.toNat : Int), .slice av ks.length kc] 36))) (fun v _ => m - (intOf v).toNat)
                  case atStart => exact ⟨0, rfl, by omega, hid (HK4.out.congr (fun _ _ => rfl) (fun x _ => by rw [if_neg (by omega)])), HB4, HO4⟩
                  case round =>
                    obtain ⟨j, rfl, hj, HKj, HBj, HOj⟩ := hrel
                    by_cases hje : j = m
                    · subst hje
                      go_wp2_with fail
                      go_meet
                      refine ⟨rfl, rfl, bm4, S', hid (HKj.out.inv (by rw [HS'.out]; exact HK3.out.armed) (by rw [HS'.out]; exact HK3.out.dead) (fun x _ => by rw [HS'.out]) (fun x _ => ?_)), HBj⟩
                      rw [HS'.out]
                      simp only [sec, wun]
                      by_cases h : a ≤ x ∧ x < a + j
                      · rw [if_pos h, if_pos h]; rfl
                      · rw [if_neg h, if_neg h]
                    have hj' : j < m := by omega
                    have hsl := slice_str (P := Try.prog) 9 Try.underlying9 wr.drew s (64 * (j : Int)) (64 * (j : Int) + 64) (by omega) (by omega) (by have := HSM.out; omega)
                    have x1 : (64 * (j : Int)).toNat = 64 * j := by omega
                    have x2 : (64 * (j : Int) + 64).toNat - 64 * j = 64 := by omega
                    obtain ⟨P, hP⟩ : ∃ P, P = piece s j := ⟨_, rfl⟩
                    rw [x1, x2, show (s.drop (64 * j)).take 64 = P from hP.symm] at hsl
                    have c7 : wr.cell? ⟨b7, a + j, none⟩ = _ := HKj.out.last.cell (i := a + j) (by omega)
                    have f7 : wr.frozen? ⟨b7, a + j, none⟩ = false := frozen_at HKj.out.last _
                    have o15 : wr.cell? ⟨bo, 1, none⟩ = some (.int .i64 a) := cell_at HOj.out 1
                    rw [if_neg (by omega)] at c7
                    have y1 : IntKind.i64.wrap (64 * (j : Int)) = 64 * (j : Int) := by rw [IntKind.wrap_i64]; omega
                    have y2 : IntKind.i64.wrap (64 * (j : Int) + 64) = 64 * (j : Int) + 64 := by rw [IntKind.wrap_i64]; omega
                    have y3 : IntKind.i64.wrap ((a : Int) + j) = (a : Int) + j := by rw [IntKind.wrap_i64]; omega
                    have y4 : ((a : Int) + j).toNat = a + j := by omega
                    have y5 : (a : Int) + j < k := by omega
                    have hset := HKj.out.last.set (j := a + j) P
                    have hfs : Fr (· = b7) wr (wr.setCell ⟨b7, a + j, none⟩ (.string (bs P))) := fr_set1 _ _ _ _
                    have HKn := hid ((HKj.out.row7 hset hfs).stay (Fr.refl (fun _ => False) _).drew)
                    have HBn := hid (hfs.at HBj.out (str_apart HKj.out.last HBj.out (by decide)))
                    have HOn := hid (hfs.at HOj.out (str_apart HKj.out.last HOj.out (by decide)))
                    have HPP := hid hP
                    clear x1 x2 hP hset hfs
                    go_wp2_with fail
                    go_region
                    go_wp2_with fail
                    go_roundw
                    case rel =>
                      refine ⟨j + 1, rfl, by omega, hid (HKn.out.congr (fun _ _ => rfl) (fun x _ => ?_)), HBn, HOn⟩
                      by_cases h1 : x = a + j
                      · subst h1
                        rw [if_pos rfl, if_pos (by omega), HPP.out, show a + j - a = j by omega]
                      · rw [if_neg h1]
                        by_cases h2 : a ≤ x ∧ x < a + j
                        · rw [if_pos h2, if_pos (by omega)]
                        · rw [if_neg h2, if_neg (by omega)]
                    case measure => simp [intOf]; omega
            by_cases hk2 : kd = 2
            · as_aux_lemma =>
                subst hk2
                have HSY := hid (sync_c w3 g bm1 S HK3.out.at_ HK3.out.ok)
                have HSO := hid (sync_ok HK3.out.ok)
                have h1 := sync_calm HK3.out.armed HK3.out.dead
                rw [h1] at HSY HSO
                clear h1
                go_wp2_with fail
                refine HSY.out.mono ?_
                rintro e w4 ⟨rfl, ⟨bm4, hA4, hb4⟩, hf4⟩
                have HK4 := hid (HK3.out.ki.turn hA4 hb4 hf4 HSO.out.1 (HSO.out.2.trans HK3.out.n))
                have HB4 := hid (hf4.at HB3.out (cells_apart HK3.out.at_ HB3.out (by decide)))
                obtain ⟨w5, hcp, hr5, hf5⟩ := copy_rows HK4.out.safe HK4.out.last 3
                have HK5 := hid (HK4.out.row6 hr5 hf5)
                have HB5 := hid (hf5.at HB4.out (str_apart HK4.out.safe HB4.out (by decide)))
                clear hA4 hb4 hf4 hr5 hf5
                go_wp2_with fail
                go_meet
                refine ⟨rfl, rfl, bm4, _, hid (HK5.out.inv HK3.out.armed HK3.out.dead (fun x _ => ?_) (fun x _ => ?_)), HB5⟩
                · exact (image_piece HK3.out.ok x).symm
                · exact (image_piece HK3.out.ok x).symm
            by_cases hk4 : kd = 4
            · as_aux_lemma =>
                subst hk4
                have HUU := hid (unsafe_c w3 g bm1 S HK3.out.at_ HK3.out.ok)
                go_wp2_with fail
                refine HUU.out.mono ?_
                rintro e w4 ⟨lv, rfl, hlv, _, hf4⟩
                have HV4 := hid hlv
                obtain ⟨va, vc, rfl, hvl, _⟩ := hlv
                have hnl : (List.map (fun (x : Nat) => (x : Int)) S.unl).length = S.unl.length := by simp
                rw [hnl] at hvl HV4 ⊢
                obtain ⟨Ln, hLn⟩ : ∃ Ln, Ln = S.unl.length := ⟨_, rfl⟩
                rw [← hLn] at hvl HV4 ⊢
                have HLN := hid hLn
                have HK4 := hid (HK3.out.ki.stay hf4)
                have HB4 := hid (hf4.at HB3.out (fun f => f))
                have HO4 := hid (hf4.at HOP.out (fun f => f))
                clear hf4 hnl hLn HUU
                go_wp2_with fail
                go_loopw [14, 2] (fun v v2 wy => ∃ j : Nat, v = .int .i64 j ∧ v2 = .bool false ∧ j ≤ Ln ∧ Hid (KI w wy g bm1 b6 b7 k S (laid S ks j) (sec S)) ∧ Hid (wy.heap[w.heap.size]? = some (.cells #[.int .i64 sc, .slice (some ⟨b0, o0, none⟩) ops.length cap] 49)) ∧ Hid (wy.heap[bo]? = some (.cells #[.int .i64 4, .int .i64 at_, .int .i64 nn, .int .u8 (fl.toNat : Int), .slice av ks.length kc] 36)) ∧ Hid (IntsAt wy (.slice va Ln vc) (S.unl.map (fun (x : Nat) => (x : Int))))) (fun v _ _ => Ln - (intOf v).toNat)
                case atStart => exact ⟨0, rfl, rfl, by omega, hid (HK4.out.congr (fun x _ => (laid_zero S ks x).symm) (fun _ _ => rfl)), HB4, HO4, HV4⟩
                case round =>
                  obtain ⟨j, rfl, rfl, hj, HKj, HBj, HOj, HVj⟩ := hrel
                  have o44 : wr.cell? ⟨bo, 4, none⟩ = some (.slice av ks.length kc) := cell_at HOj.out 4
                  by_cases hje : j = Ln
                  · subst hje
                    have hks := HKW.out.stay HKj.out.fr
                    have hcr : S.crash ks = (S.dies ks, 0) := by rw [St.crash, if_neg (by rw [HK3.out.dead]; simp)]
                    have HCR := hid (crash_c wr g bm1 S HKj.out.at_ HKj.out.ok (.slice av ks.length kc) ks hks)
                    rw [hcr] at HCR
                    obtain ⟨S1, hS1⟩ : ∃ S1, S1 = S.dies ks := ⟨_, rfl⟩
                    have HOK1 := hid (show S1.Ok by rw [hS1]; exact dies_ok HKj.out.ok ks)
                    have HN1 := hid (show S1.n = k by rw [hS1, dies_n HKj.out.ok ks]; exact HKj.out.n)
                    have HDD := hid (show S1.dead = true by rw [hS1]; rfl)
                    have HSF := hid (show S1.safe = S.after ks by rw [hS1]; rfl)
                    have HUN := hid (show S1.un = fun _ => none by rw [hS1]; rfl)
                    simp only at HCR
                    rw [← hS1] at HCR
                    clear hks hcr hS1
                    go_wp2_with fail
                    refine HCR.out.mono ?_
                    rintro e w5 ⟨rfl, ⟨bm5, hA5, hb5⟩, hf5⟩
                    have HK5 := hid (HKj.out.turn hA5 hb5 hf5 HOK1.out HN1.out)
                    have HB5 := hid (hf5.at HBj.out (cells_apart HKj.out.at_ HBj.out (by decide)))
                    have HDE := hid (show Calls Try.prog 13 #[.pointer (some ⟨g, 0, none⟩)] w5 fun e w' => e = .returned (.bool true) ∧ w' = w5 from HDD.out ▸ dead_c w5 g bm5 S1 hA5)
                    clear hA5 hb5 hf5 HCR
                    go_wp2_with fail
                    refine HDE.out.mono ?_
                    rintro e w6 ⟨rfl, rfl⟩
                    have HWD := hid (show Calls Try.prog 15 #[.pointer (some ⟨g, 0, none⟩), .int .i64 0, .string { data := #[] }] w6 fun e w' => e = .returned (.int .i64 2) ∧ (∃ bm', At w' g bm' S1 ∧ (bm' = bm5 ∨ w6.heap.size ≤ bm')) ∧ Fr (fun i => i = g ∨ i = bm5) w6 w' by
                      have := write_c w6 g bm5 S1 HK5.out.at_ HOK1.out 0 (by decide) (by decide) [] (by decide)
                      unfold WriteC at this
                      have e : S1.write 0 [] = (S1, 2) := by rw [St.write, if_pos HDD.out]
                      rw [e] at this
                      exact this)
                    go_wp2_with fail
                    refine HWD.out.mono ?_
                    rintro e w7 ⟨rfl, ⟨bm7, hA7, hb7⟩, hf7⟩
                    have HK7 := hid (HK5.out.turn hA7 hb7 hf7 HOK1.out HN1.out)
                    have HB7 := hid (hf7.at HB5.out (cells_apart HK5.out.at_ HB5.out (by decide)))
                    have HRV := hid (revive_c w7 g bm7 S1 hA7)
                    clear hA7 hb7 hf7 HWD
                    go_wp2_with fail
                    refine HRV.out.mono ?_
                    rintro e w8 ⟨rfl, hA8, hf8⟩
                    have hf8' : Fr (fun i => i = g ∨ i = bm7) w7 w8 := hf8.mono (fun i _ e => Or.inl e)
                    have HK8 := hid (HK7.out.turn hA8 (Or.inl rfl) hf8' (revive_ok HOK1.out).1 ((revive_ok HOK1.out).2.trans HN1.out))
                    have HB8 := hid (hf8'.at HB7.out (cells_apart HK7.out.at_ HB7.out (by decide)))
                    obtain ⟨w9, hcp, hr9, hf9⟩ := copy_rows HK8.out.last HK8.out.safe 3
                    have HK9 := hid (HK8.out.row7 hr9 hf9)
                    have HB9 := hid (hf9.at HB8.out (str_apart HK8.out.last HB8.out (by decide)))
                    clear hA8 hf8 hf8' hr9 hf9 HRV
                    go_wp2_with fail
                    go_meet
                    have hle : ∀ x, x < k → laid S ks j x = piece S1.safe x := fun x hx => by
                      rw [HLN.out, laid_end HKj.out.ok ks x (by rw [HKj.out.n]; exact hx), HSF.out]
                    refine ⟨rfl, rfl, bm7, _, hid (HK9.out.inv rfl rfl hle (fun x hx => ?_)), HB9⟩
                    rw [hle x hx]
                    simp only [sec, HUN.out]
                    rfl
                  have hj' : j < Ln := by omega
                  obtain ⟨y, hy⟩ : ∃ y, S.unl[j]? = some y := ⟨S.unl[j]'(by have := HLN.out; omega), by simp⟩
                  obtain ⟨hy1, hy2, hy3⟩ := cnt_get S.un S.n j y hy
                  have hyk : y < k := by have := HKj.out.n; omega
                  obtain ⟨bl, ol, hva, hcl⟩ : ∃ bl ol, va = some ⟨bl, ol, none⟩ ∧ wr.cell? ⟨bl, ol + j, none⟩ = some (.int .i64 (y : Int)) := by
                    obtain ⟨a', c', h1, h2, h3, _⟩ := HVj.out
                    cases h1
                    rcases h3 with h3 | ⟨b', o', cur, h4, h5, h6⟩
                    · exfalso
                      have := congrArg List.length h3
                      simp at this
                      rw [this] at hy
                      simp at hy
                    · refine ⟨b', o', h4, ?_⟩
                      have hjl : j < S.unl.length := (List.getElem?_eq_some_iff.1 hy).1
                      rw [cell_at h5, h6 j (by simpa using hjl)]
                      simp [List.getD_eq_getElem?_getD, hy]
                  subst hva
                  have hyk2 : (y : Int) < k := by omega
                  by_cases hl : ks.length ≤ j
                  · have hcm : comes ks j = false := by simp [comes]; omega
                    go_wp2_with fail
                    go_roundw
                    case rel => exact ⟨j + 1, rfl, rfl, by omega, hid (HKj.out.congr (fun x hx => by rw [laid_step ks j y hy x (by rw [HKj.out.n]; exact hx), if_neg (by rw [hcm]; simp)]) (fun _ _ => rfl)), HBj, HOj, HVj⟩
                    case measure => simp [intOf]; omega
                  obtain ⟨b1, o1, hav, hce⟩ : ∃ b1 o1, av = some ⟨b1, o1, none⟩ ∧ wr.cell? ⟨b1, o1 + j, none⟩ = some (.int .i64 (ks.getD j 0)) := by
                    obtain ⟨a', c', h1, h2, h3⟩ := HKW.out.stay HKj.out.fr
                    cases h1
                    rcases h3 with h3 | ⟨b', o', h4, h5⟩
                    · subst h3; simp at hl
                    · exact ⟨b', o', h4, h5 j (by omega)⟩
                  subst hav
                  have hcm0 : comes ks j = decide (0 < ks.getD j 0) := by simp only [comes, show j < ks.length by omega, decide_true, Bool.true_and]
                  obtain ⟨q, hq⟩ : ∃ q, q = ks.getD j 0 := ⟨_, rfl⟩
                  rw [← hq] at hce hcm0
                  clear hq
                  by_cases hq0 : 0 < q
                  · have hcm : comes ks j = true := by rw [hcm0]; simpa using hq0
                    have c7 : wr.cell? ⟨b7, y, none⟩ = some (.string (bs (sec S y))) := HKj.out.last.cell hyk
                    obtain ⟨P, hP⟩ : ∃ P, P = sec S y := ⟨_, rfl⟩
                    rw [← hP] at c7
                    have c6 : wr.cell? ⟨b6, y, none⟩ = _ := HKj.out.safe.cell hyk
                    have f6 : wr.frozen? ⟨b6, y, none⟩ = false := frozen_at HKj.out.safe _
                    have hset := HKj.out.safe.set (j := y) P
                    have hfs : Fr (· = b6) wr (wr.setCell ⟨b6, y, none⟩ (.string (bs P))) := fr_set1 _ _ _ _
                    have HKn := hid ((HKj.out.row6 hset hfs).stay (Fr.refl (fun _ => False) _).drew)
                    have HBn := hid (hfs.at HBj.out (str_apart HKj.out.safe HBj.out (by decide)))
                    have HOn := hid (hfs.at HOj.out (str_apart HKj.out.safe HOj.out (by decide)))
                    have HVn := hid ((HVj.out.keep hfs (fun b' cur hb' e => str_apart HKj.out.safe hb' (by decide) e)).stay (Fr.refl (fun _ => False) _).drew)
                    have HPP := hid hP
                    clear hP hset hfs hcm0
                    go_wp2_with fail
                    go_region
                    go_wp2_with fail
                    go_roundw
                    case rel =>
                      refine ⟨j + 1, rfl, rfl, by omega, hid (HKn.out.congr (fun x hx => ?_) (fun _ _ => rfl)), HBn, HOn, HVn⟩
                      rw [laid_step ks j y hy x (by rw [HKj.out.n]; exact hx), if_pos hcm]
                      by_cases hxy : x = y
                      · rw [if_pos hxy, if_pos hxy, HPP.out]
                      · rw [if_neg hxy, if_neg hxy]
                    case measure => simp [intOf]; omega
                  · have hcm : comes ks j = false := by rw [hcm0]; simpa using hq0
                    have hq1 : decide (0 < q) = false := decide_eq_false hq0
                    clear hcm0
                    go_wp2_with fail
                    go_roundw
                    case rel => exact ⟨j + 1, rfl, rfl, by omega, hid (HKj.out.congr (fun x hx => by rw [laid_step ks j y hy x (by rw [HKj.out.n]; exact hx), if_neg (by rw [hcm]; simp)]) (fun _ _ => rfl)), HBj, HOj, HVj⟩
                    case measure => simp [intOf]; omega
            have n1 : (kd == 1) = false := by simpa using hk1
            have n2 : (kd == 2) = false := by simpa using hk2
            have n4 : (kd == 4) = false := by simpa using hk4
            go_wp2_with fail
            go_meet
            exact ⟨rfl, rfl, bm1, S, HK3, HB3⟩
          case rest =>
            as_aux_lemma =>
              obtain ⟨rfl, rfl, bm2, S2, HK4, HB4⟩ := hcut
              obtain ⟨I, hI⟩ : ∃ I, I = S2.image := ⟨_, rfl⟩
              have HIM := hid (show Calls Try.prog 16 #[.pointer (some ⟨g, 0, none⟩)] wc fun e w' => e = .returned (.string (bs I)) ∧ Fr (fun _ => False) wc w' by rw [hI]; exact image_c wc g bm2 S2 HK4.out.at_ HK4.out.ok)
              have hIL : I.length = 64 * k := by rw [hI, image_length HK4.out.ok, HK4.out.ok.safe, HK4.out.n]
              have HIP := hid (show ∀ j, piece I j = sec S2 j by rw [hI]; exact fun j => image_piece HK4.out.ok j)
              have heq2 : (((64 * k : Nat) : Int) != 64 * (k : Int)) = false := by simp
              have HIL := hid hIL
              clear hI HOP HK3 HB3 HKS3 o0c
              go_wp2_with fail
              refine HIM.out.mono ?_
              rintro e w5 ⟨rfl, hf5⟩
              have HK5 := hid (HK4.out.stay hf5)
              have HB5 := hid (hf5.at HB4.out (fun f => f))
              clear hf5 HIM HK4 HB4
              go_wp2_with fail
              go_loopw [16, 2] (fun v v2 wy => ∃ j : Nat, v = .int .i64 j ∧ v2 = .bool false ∧ j ≤ k ∧ Hid (KInv w wy g bm2 b6 b7 k S2) ∧ Hid (wy.heap[w.heap.size]? = some (.cells #[.int .i64 sc, .slice (some ⟨b0, o0, none⟩) ops.length cap] 49))) (fun v _ _ => k - (intOf v).toNat)
              case atStart => exact ⟨0, rfl, rfl, by omega, HK5, HB5⟩
              case round =>
                obtain ⟨j, rfl, rfl, hj, HKj, HBj⟩ := hrel
                by_cases hje : j = k
                · subst hje
                  go_wp2_with fail
                  exact ⟨⟨i + 1, bm2, S2, rfl, rfl, by omega, HKj, HBj⟩, by simp [intOf]; omega⟩
                have hj' : j < k := by omega
                have hsl := slice_str (P := Try.prog) 9 Try.underlying9 wr.drew I (64 * (j : Int)) (64 * (j : Int) + 64) (by omega) (by omega) (by omega)
                have x1 : (64 * (j : Int)).toNat = 64 * j := by omega
                have x2 : (64 * (j : Int) + 64).toNat - 64 * j = 64 := by omega
                obtain ⟨P, hP⟩ : ∃ P, P = sec S2 j := ⟨_, rfl⟩
                rw [x1, x2, show (I.drop (64 * j)).take 64 = P from (HIP.out j).trans hP.symm] at hsl
                have c7 : wr.cell? ⟨b7, j, none⟩ = some (.string (bs P)) := by rw [hP]; exact HKj.out.last.cell hj'
                have y1 : IntKind.i64.wrap (64 * (j : Int)) = 64 * (j : Int) := by rw [IntKind.wrap_i64]; omega
                have y2 : IntKind.i64.wrap (64 * (j : Int) + 64) = 64 * (j : Int) + 64 := by rw [IntKind.wrap_i64]; omega
                have HKd := hid (HKj.out.stay (Fr.refl (fun _ => False) wr).drew)
                have HBd := hid (show wr.drew.heap[w.heap.size]? = _ from HBj.out)
                clear hP x1 x2 hje
                go_wp2_with fail
                go_region
                go_wp2_with fail
                go_roundw
                case rel => exact ⟨j + 1, rfl, rfl, by omega, HKd, HBd⟩
                case measure => simp [intOf]; omega
      · have hk' : k < N := by omega
        have hmk := HMK.out wr
        have hms := HMS.out wr
        have hl6 := lt_of_at H6.out
        have hl7 := lt_of_at H7.out
        have hf1 : Fr (fun _ => False) wr (wr.alloc (.cells (bytesOf (zero 64)).toArray 5)) := (Fr.refl _ wr).alloc _
        have H6a := H6.out.keep hf1 (fun f => f)
        have H7a := H7.out.keep hf1 (fun f => f)
        have c6 : (wr.alloc (.cells (bytesOf (zero 64)).toArray 5)).cell? ⟨b6, k, none⟩ = some (.string (bs [])) := by rw [H6a.cell hk']; simp
        have f6 : (wr.alloc (.cells (bytesOf (zero 64)).toArray 5)).frozen? ⟨b6, k, none⟩ = false := frozen_at H6a k
        have H6b := H6a.set (j := k) (zero 64)
        have hfb : Fr (· = b6) (wr.alloc (.cells (bytesOf (zero 64)).toArray 5)) ((wr.alloc (.cells (bytesOf (zero 64)).toArray 5)).setCell ⟨b6, k, none⟩ (.string (bs (zero 64)))) := fr_set1 _ _ _ _
        have H7b := H7a.keep hfb (fun e => hbne e.symm)
        rw [World.setCell_alloc_past _ _ _ _ hl6] at H6b H7b hfb
        have c6b : ((wr.setCell ⟨b6, k, none⟩ (.string (bs (zero 64)))).alloc (.cells (bytesOf (zero 64)).toArray 5)).cell? ⟨b6, k, none⟩ = some (.string (bs (zero 64))) := by rw [H6b.cell hk']; simp
        have c7 : ((wr.setCell ⟨b6, k, none⟩ (.string (bs (zero 64)))).alloc (.cells (bytesOf (zero 64)).toArray 5)).cell? ⟨b7, k, none⟩ = some (.string (bs [])) := by rw [H7b.cell hk']; simp
        have f7 : ((wr.setCell ⟨b6, k, none⟩ (.string (bs (zero 64)))).alloc (.cells (bytesOf (zero 64)).toArray 5)).frozen? ⟨b7, k, none⟩ = false := frozen_at H7b k
        have HB6 := hid H6b
        have HB7 := hid H7b
        have HFB := hid hfb
        clear H6a H7a H6b H7b hfb hf1
        go_wp2_with fail
        go_roundw
        case measure => simp [intOf]; omega
        have hl7' : b7 < (wr.setCell ⟨b6, k, none⟩ (.string (bs (zero 64)))).heap.size := by simpa [World.setCell] using hl7
        have e1 := World.setCell_alloc_past (w := wr.setCell ⟨b6, k, none⟩ (.string (bs (zero 64)))) (.cells (bytesOf (zero 64)).toArray 5) b7 k (.string (bs (zero 64))) hl7'
        have hfc : Fr (· = b7) ((wr.setCell ⟨b6, k, none⟩ (.string (bs (zero 64)))).alloc (.cells (bytesOf (zero 64)).toArray 5)) _ := fr_set1 _ b7 k (.string (bs (zero 64)))
        have H7c := HB7.out.set (j := k) (zero 64)
        rw [e1] at hfc H7c
        have H6c := HB6.out.keep hfc hbne
        have hup : ∀ i, (if i = k then zero 64 else if i < k then zero 64 else []) = if i < k + 1 then zero 64 else [] := fun i => by
          by_cases h1 : i = k
          · rw [if_pos h1, if_pos (by omega)]
          · rw [if_neg h1]
            by_cases h2 : i < k
            · rw [if_pos h2, if_pos (by omega)]
            · rw [if_neg h2, if_neg (by omega)]
        refine ⟨k + 1, rfl, by omega, hid (H6c.congr fun i _ => hup i), hid (H7c.congr fun i _ => hup i), hid ?_⟩
        exact (((HF.out.alloc _).trans HFB.out (fun i hi e => by omega)).trans hfc (fun i hi e => by omega))

end Go.Proofs.Ytcklnhjjjapfjaa.D
