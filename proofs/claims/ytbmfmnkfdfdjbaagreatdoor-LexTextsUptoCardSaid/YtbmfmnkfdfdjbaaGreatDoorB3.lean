/-
  The document's Quote: the walk. No condition beyond the sizes that are named.
-/
import Derived.Test.YtbmfmnkfdfdjbaaGreatDoorB2
import Derived.Test.YtbmfmnkfdfdjbaaGreatDoorT2
import Derived.Test.YtbmfmnkfdfdjbaaGreatDoorM0
import Derived.Deep.DeepCutAuto
namespace Go.Proofs.YtbmfmnkfdfdjbaaGreatDoor.D
open Go.RowKit Go.Shelf
set_option linter.unusedVariables false
set_option linter.unusedSimpArgs false

theorem rw_one (W : World) (c : UInt8) (z : Int) (hz : z = (c.toNat : Int)) : Rw (W.alloc (.cells #[.int .u8 z] 5)) W.heap.size (.slice (some ⟨W.heap.size, 0, none⟩) 1 1) [c] := by
  subst hz
  exact ⟨World.ownsRow_lit (e := 5) (size := 1) (base := W.heap.size) W #[.int .u8 (c.toNat : Int)] 1 (Nat.le_refl _) (by unfold maxLen; omega) rfl, _, _, rfl⟩
theorem lone_drop (s : List UInt8) (i : Nat) : loneC (s.drop i) = (decide (3 ≤ s.length - i) && (decide ((pk s i).toNat = 237) && (decide (160 ≤ (pk s (i + 1)).toNat) && (decide ((pk s (i + 1)).toNat ≤ 191) && (decide (128 ≤ (pk s (i + 2)).toNat) && decide ((pk s (i + 2)).toNat ≤ 191)))))) := by
  have h : ∀ k, pk (s.drop i) k = pk s (i + k) := fun k => drop_pk s i k
  unfold loneC
  rw [List.length_drop, h 0, h 1, h 2]
  rfl
theorem loneN_drop (s : List UInt8) (i : Nat) : loneN (s.drop i) = 53248 + (pk s (i + 1)).toNat % 64 * 64 + (pk s (i + 2)).toNat % 64 := by
  have h : ∀ k, pk (s.drop i) k = pk s (i + k) := fun k => drop_pk s i k
  unfold loneN
  rw [h 1, h 2]

set_option maxRecDepth 100000 in
set_option maxHeartbeats 8000000 in
theorem rquote_c (w : World) (s : List UInt8) (hs : s.length ≤ 16000000) :
    Calls Tryz.prog 8 #[.string (bs s)] w fun e w' => e = .returned (.string (bs (quoteB s))) ∧ Fr (fun _ => False) w w' := by
  have hz := size_bs s
  obtain ⟨b, hb⟩ : ∃ b, b = w.heap.size := ⟨_, rfl⟩
  obtain ⟨w1, hw1⟩ : ∃ w1, w1 = w.alloc (.cells #[.int .u8 34] 5) := ⟨_, rfl⟩
  have HR1 := hid (show Rw w1 b (.slice (some ⟨b, 0, none⟩) 1 1) [34] from by rw [hw1, hb]; exact rw_one w 34 34 rfl)
  have HF1 := hid (show Fr (fun _ => False) w w1 from hw1 ▸ (Fr.refl _ w).alloc _)
  have HBE := hid hb
  have HW := hid hw1
  clear hb hw1
  go_enter Tryz.func8, Tryz.ntmps8
  go_wp2_with fail
  rw [← HW.out, ← HBE.out]
  clear HW
  go_loopw [3, 4] (fun v3 v4 wx => ∃ (i : Nat) (acc : List UInt8) (g c m : Nat), v4 = .int .i64 i ∧ v3 = .slice (some ⟨g, 0, none⟩) m c ∧ i ≤ s.length ∧ m ≤ 1 + 6 * i ∧ Hid (m = acc.length) ∧ Hid (Rw wx b (.slice (some ⟨g, 0, none⟩) m c) acc) ∧ Hid ([34] ++ quoteAt s 0 = acc ++ quoteAt s i) ∧ Hid (Fr (fun _ => False) w wx)) (fun _ v _ => s.length - (intOf v).toNat)
  case atStart => exact ⟨0, [34], b, 1, 1, rfl, rfl, by omega, by omega, hid rfl, HR1, hid rfl, HF1⟩
  case round =>
    obtain ⟨i, acc, g, c, m, rfl, rfl, hi, ha, HM, HR, HQ, HF⟩ := hrel
    have hBw : b ≤ wr.heap.size := by have := HF.out.size; rw [HBE.out]; exact this
    by_cases hd : i < s.length
    · have hx : ∀ w, (Instr.index 9 (.string (bs s)) (.int .i64 (i : Int))).run Tryz.prog w = .ok (.int .u8 ((pk s i).toNat : Int)) w := fun w => idx_bs _ Tryz.underlying9 w s _ i rfl hd
      have HX1 := hid (fun (h : i + 1 < s.length) w => show (Instr.index 9 (.string (bs s)) (.int .i64 ((i : Int) + 1))).run Tryz.prog w = .ok (.int .u8 ((pk s (i + 1)).toNat : Int)) w from idx_bs _ Tryz.underlying9 w s _ (i + 1) (by omega) h)
      have HX2 := hid (fun (h : i + 2 < s.length) w => show (Instr.index 9 (.string (bs s)) (.int .i64 ((i : Int) + 2))).run Tryz.prog w = .ok (.int .u8 ((pk s (i + 2)).toNat : Int)) w from idx_bs _ Tryz.underlying9 w s _ (i + 2) (by omega) h)
      have HUN := hid (quoteAt_un s i (by omega))
      rw [if_neg (by omega)] at HUN
      have HLC := hid (lone_drop s i)
      have HLN := hid (loneN_drop s i)
      have hv := UInt8.toNat_lt (pk s i)
      have hv1 := UInt8.toNat_lt (pk s (i + 1))
      have hv2 := UInt8.toNat_lt (pk s (i + 2))
      have hlt := lone_lt (s.drop i)
      have HLL := hid (fun h => lone_len (l := s.drop i) h)
      obtain ⟨LN, hLN⟩ : ∃ x, x = loneN (s.drop i) := ⟨_, rfl⟩
      obtain ⟨LB, hLB⟩ : ∃ x, x = loneC (s.drop i) := ⟨_, rfl⟩
      rw [← hLN] at HUN HLN hlt
      rw [← hLB] at HUN HLC HLL
      have HLD := hid (List.length_drop (i := i) (l := s))
      obtain ⟨C, hC⟩ : ∃ x, x = pk s i := ⟨_, rfl⟩
      rw [← hC] at hx HUN HLC hv
      obtain ⟨y0, hy0⟩ : ∃ y, y = C.toNat := ⟨_, rfl⟩
      obtain ⟨y1, hy1⟩ : ∃ y, y = (pk s (i + 1)).toNat := ⟨_, rfl⟩
      obtain ⟨y2, hy2⟩ : ∃ y, y = (pk s (i + 2)).toNat := ⟨_, rfl⟩
      rw [← hy0] at hx HUN HLC hv
      rw [← hy1] at HX1 HLC HLN hv1
      rw [← hy2] at HX2 HLC HLN hv2
      have hq0 : (C = 34 ∨ C = 92) ↔ (y0 = 34 ∨ y0 = 92) := by
        rw [hy0]
        constructor
        · rintro (h | h)
          · exact Or.inl (by rw [h]; rfl)
          · exact Or.inr (by rw [h]; rfl)
        · rintro (h | h)
          · exact Or.inl (UInt8.toNat_inj.1 h)
          · exact Or.inr (UInt8.toNat_inj.1 h)
      have HQ0 := hid hq0
      have HY0 := hid hy0
      have hd' : (i : Int) < (s.length : Int) := by omega
      have HI := hid (And.intro hd (And.intro hi ha))
      have hm6 : m ≤ 96000001 := by omega
      clear hLN hLB hC hy0 hy1 hy2 hq0
      go_upto_region 7 with fail
      go_cut [54] (fun v54 wc => v54 = .bool LB ∧ wc = wr)
      case first =>
        by_cases c0 : y0 = 237
        case neg =>
          have HB := hid (show LB = false by rw [HLC.out, decide_eq_false c0]; simp)
          have e0 : ((y0 : Int) == 237) = false := by simp; omega
          clear c0
          clear HLC HUN HQ
          as_aux_lemma =>
            go_wp2_with fail
            go_meet
            exact ⟨by rw [HB.out], rfl⟩
        have e0 : ((y0 : Int) == 237) = true := by simp; omega
        by_cases c3 : s.length - i < 3
        case pos =>
          have HB := hid (show LB = false by rw [HLC.out, decide_eq_false (p := 3 ≤ s.length - i) (by omega)]; simp)
          have e3 : decide ((3 : Int) ≤ (s.length : Int) - (i : Int)) = false := by simp; omega
          clear HLC HUN HQ
          as_aux_lemma =>
            go_wp2_with fail
            go_meet
            exact ⟨by rw [HB.out], rfl⟩
        have e3 : (3 : Int) ≤ (s.length : Int) - (i : Int) := by omega
        have hx1 := HX1.out (by omega)
        have hx2 := HX2.out (by omega)
        by_cases c1 : y1 < 160
        case pos =>
          have HB := hid (show LB = false by rw [HLC.out, decide_eq_false (p := 160 ≤ y1) (by omega)]; simp)
          have ec1 : decide ((160 : Int) ≤ (y1 : Int)) = false := by simp; omega
          clear HLC HUN HQ
          as_aux_lemma =>
            go_wp2_with fail
            go_meet
            exact ⟨by rw [HB.out], rfl⟩
        have ec1 : (160 : Int) ≤ (y1 : Int) := by omega
        by_cases c2 : 191 < y1
        case pos =>
          have HB := hid (show LB = false by rw [HLC.out, decide_eq_false (p := y1 ≤ 191) (by omega)]; simp)
          have ec2 : decide ((y1 : Int) ≤ 191) = false := by simp; omega
          clear HLC HUN HQ
          as_aux_lemma =>
            go_wp2_with fail
            go_meet
            exact ⟨by rw [HB.out], rfl⟩
        have ec2 : (y1 : Int) ≤ 191 := by omega
        by_cases c4 : y2 < 128
        case pos =>
          have HB := hid (show LB = false by rw [HLC.out, decide_eq_false (p := 128 ≤ y2) (by omega)]; simp)
          have ec4 : decide ((128 : Int) ≤ (y2 : Int)) = false := by simp; omega
          clear HLC HUN HQ
          as_aux_lemma =>
            go_wp2_with fail
            go_meet
            exact ⟨by rw [HB.out], rfl⟩
        have ec4 : (128 : Int) ≤ (y2 : Int) := by omega
        by_cases c5 : 191 < y2
        case pos =>
          have HB := hid (show LB = false by rw [HLC.out, decide_eq_false (p := y2 ≤ 191) (by omega)]; simp)
          have ec5 : decide ((y2 : Int) ≤ 191) = false := by simp; omega
          clear HLC HUN HQ
          as_aux_lemma =>
            go_wp2_with fail
            go_meet
            exact ⟨by rw [HB.out], rfl⟩
        have ec5 : (y2 : Int) ≤ 191 := by omega
        have HB := hid (show LB = true by rw [HLC.out]; simp; omega)
        clear HLC HUN HQ c0
        as_aux_lemma =>
          go_wp2_with fail
          go_meet
          exact ⟨by rw [HB.out], rfl⟩
      case rest =>
        obtain ⟨rfl, hwc⟩ := hcut
        rw [hwc]
        clear hwc
        cases LB with
        | true =>
          have hall : 3 ≤ s.length - i ∧ y0 = 237 ∧ 160 ≤ y1 ∧ y1 ≤ 191 ∧ 128 ≤ y2 ∧ y2 ≤ 191 := by
            have h := HLC.out
            simp only [Bool.true_eq, Bool.and_eq_true, decide_eq_true_eq] at h
            exact h
          obtain ⟨l3, l0, l1, l2, l4, l5⟩ := hall
          have hx1 := HX1.out (by omega)
          have hx2 := HX2.out (by omega)
          have HV := hid (show 53248 + ((y1 : Int) - 128) * 64 + ((y2 : Int) - 128) = (LN : Int) by have := HLN.out; omega)
          have k1 : (128 : Int) ≤ (y1 : Int) := by omega
          have k2 : (128 : Int) ≤ (y2 : Int) := by omega
          have HLL2 := hid (HLL.out rfl)
          have HQ2 := hid (show [34] ++ quoteAt s 0 = (acc ++ esc4 LN) ++ quoteAt s (i + 3) by rw [HQ.out, HUN.out, if_pos rfl, List.append_assoc])
          clear HUN HQ HLL
          clear HLC
          go_wp2_with fail
          go_quiet (fail)
          obtain ⟨w3, hw3⟩ : ∃ w3, w3 = wr.drewN nq := ⟨_, rfl⟩
          rw [← hw3]
          have hf3 : Fr (fun _ => False) wr w3 := hw3 ▸ fr_drewN
          have HRC := hid (HR.out.stay hf3)
          have HFC := hid (HF.out.trans hf3 (fun _ _ f => f))
          have hBw : b ≤ w3.heap.size := by have := HFC.out.size; rw [HBE.out]; exact this
          rw [HV.out]
          clear hw3 hf3 HV l3 l0 l1 l2 l4 l5 k1 k2 hx1 hx2 hv1 hv2 HX1 HX2 HF HR
          clear hx
          have hd0 : LN / 4096 < 16 := by omega
          have HD0 := hid (show ∀ W, Calls Tryz.prog 20 #[.int .i64 ((LN : Int) / 4096)] W fun e w' => e = .returned (.int .u8 (hx (LN / 4096)).toNat) ∧ w' = W from fun W => by
            have := digit_c W (LN / 4096) (by omega)
            rwa [show ((LN / 4096 : Nat) : Int) = (LN : Int) / 4096 by omega] at this)
          have HD1 := hid (show ∀ W, Calls Tryz.prog 20 #[.int .i64 ((LN : Int) / 256 % 16)] W fun e w' => e = .returned (.int .u8 (hx (LN / 256 % 16)).toNat) ∧ w' = W from fun W => by
            have := digit_c W (LN / 256 % 16) (by omega)
            rwa [show ((LN / 256 % 16 : Nat) : Int) = (LN : Int) / 256 % 16 by omega] at this)
          have HD2 := hid (show ∀ W, Calls Tryz.prog 20 #[.int .i64 ((LN : Int) / 16 % 16)] W fun e w' => e = .returned (.int .u8 (hx (LN / 16 % 16)).toNat) ∧ w' = W from fun W => by
            have := digit_c W (LN / 16 % 16) (by omega)
            rwa [show ((LN / 16 % 16 : Nat) : Int) = (LN : Int) / 16 % 16 by omega] at this)
          have HD3 := hid (show ∀ W, Calls Tryz.prog 20 #[.int .i64 ((LN : Int) % 16)] W fun e w' => e = .returned (.int .u8 (hx (LN % 16)).toNat) ∧ w' = W from fun W => by
            have := digit_c W (LN % 16) (by omega)
            rwa [show ((LN % 16 : Nat) : Int) = (LN : Int) % 16 by omega] at this)
          have hE : esc4 LN = [92, 117, hx (LN / 4096), hx (LN / 256 % 16), hx (LN / 16 % 16), hx (LN % 16)] := by unfold esc4; rw [Nat.mod_eq_of_lt hd0]
          obtain ⟨v7, w7, hrun7, hr7, hf7⟩ := append_bs w3 b _ acc (esc4 LN) #[.int .u8 92, .int .u8 117, .int .u8 ((hx (LN / 4096)).toNat : Int), .int .u8 ((hx (LN / 256 % 16)).toNat : Int), .int .u8 ((hx (LN / 16 % 16)).toNat : Int), .int .u8 ((hx (LN % 16)).toNat : Int)] (by rw [hE]; rfl) HRC.out (by have := HM.out; have := HI.out.2.2; show _ + 6 ≤ _; omega) hBw
          obtain ⟨g7, c7, hv7⟩ := hr7.2
          have hl7 : (acc ++ esc4 LN).length = m + 6 := by rw [List.length_append, ← HM.out]; rfl
          rw [hl7] at hv7
          subst hv7
          have HM7 := hid (show m + 6 = (acc ++ esc4 LN).length from hl7.symm)
          have HR7 := hid (show Rw w7 b (.slice (some ⟨g7, 0, none⟩) (m + 6) c7) (acc ++ esc4 LN) from hr7)
          have HF7 := hid (show Fr (fun _ => False) w w7 from HFC.out.trans hf7 (fun k hk e => by have := (HRC.out.own e).1; have := HBE.out; omega))
          have HRUN := hid hrun7
          clear hrun7 hr7 hf7 hl7
          obtain ⟨z0, hz0⟩ : ∃ z : Int, z = ((hx (LN / 4096)).toNat : Int) := ⟨_, rfl⟩
          obtain ⟨z1, hz1⟩ : ∃ z : Int, z = ((hx (LN / 256 % 16)).toNat : Int) := ⟨_, rfl⟩
          obtain ⟨z2, hz2⟩ : ∃ z : Int, z = ((hx (LN / 16 % 16)).toNat : Int) := ⟨_, rfl⟩
          obtain ⟨z3, hz3⟩ : ∃ z : Int, z = ((hx (LN % 16)).toNat : Int) := ⟨_, rfl⟩
          have zb0 : 0 ≤ z0 ∧ z0 ≤ 255 := by have := UInt8.toNat_lt (hx (LN / 4096)); omega
          have zb1 : 0 ≤ z1 ∧ z1 ≤ 255 := by have := UInt8.toNat_lt (hx (LN / 256 % 16)); omega
          have zb2 : 0 ≤ z2 ∧ z2 ≤ 255 := by have := UInt8.toNat_lt (hx (LN / 16 % 16)); omega
          have zb3 : 0 ≤ z3 ∧ z3 ≤ 255 := by have := UInt8.toNat_lt (hx (LN % 16)); omega
          obtain ⟨za0, zc0⟩ := zb0
          obtain ⟨za1, zc1⟩ := zb1
          obtain ⟨za2, zc2⟩ := zb2
          obtain ⟨za3, zc3⟩ := zb3
          rw [← hz0, ← hz1, ← hz2, ← hz3] at HRUN
          rw [← hz0] at HD0
          rw [← hz1] at HD1
          rw [← hz2] at HD2
          rw [← hz3] at HD3
          have HRUN := hid (show (Builtin.append_ #[35, 35] 35 #[.slice (some ⟨g, 0, none⟩) m c, .slice (some ⟨w3.heap.size, 0, none⟩) 6 6]).run Tryz.prog (w3.alloc (.cells #[.int .u8 92, .int .u8 117, .int .u8 z0, .int .u8 z1, .int .u8 z2, .int .u8 z3] 5)) = .ok _ w7 from HRUN.out)
          clear hz0 hz1 hz2 hz3 hE hd0
          go_wp2_with fail
          refine (HD0.out _).mono ?_
          rintro e w' ⟨rfl, rfl⟩
          go_wp2_with fail
          refine (HD1.out _).mono ?_
          rintro e w' ⟨rfl, rfl⟩
          go_wp2_with fail
          refine (HD2.out _).mono ?_
          rintro e w' ⟨rfl, rfl⟩
          go_wp2_with fail
          refine (HD3.out _).mono ?_
          rintro e w' ⟨rfl, rfl⟩
          go_wp2_with (at_builtin; refine Lib.wpList_append_run _ rfl _ _ _ _ rfl _ _ rfl rfl _ _ HRUN.out ?_)
          go_roundw
          case measure => have := HI.out.1; simp [intOf]; omega
          exact ⟨i + 3, acc ++ esc4 LN, g7, c7, m + 6, by go_num, rfl, by have := HI.out; have h1 := HLL2.out; have h2 := HLD.out; omega, by have := HI.out; omega, HM7, HR7, HQ2, HF7⟩
        | false =>
          obtain ⟨w3, hw3⟩ : ∃ w3, w3 = wr := ⟨_, rfl⟩
          rw [← hw3] at HF HR hBw ⊢
          have HRC := HR
          have HFC := HF
          clear hw3 HR HF hv1 hv2 HX1 HX2 HLC
          rw [if_neg (by decide)] at HUN
          by_cases hctl : y0 < 32 ∨ y0 = 127
          · have hnq : ¬ (C = 34 ∨ C = 92) := fun e => by have := HQ0.out.1 e; omega
            have HQ2 := hid (show [34] ++ quoteAt s 0 = (acc ++ esc4 y0) ++ quoteAt s (i + 1) by rw [HQ.out, HUN.out, if_neg hnq, if_pos hctl, List.append_assoc])
            have e3 : ((y0 : Int) < 32) ∨ (decide ((y0 : Int) < 32) = false ∧ ((y0 : Int) == 127) = true) := by
              by_cases h32 : y0 < 32
              · exact Or.inl (by omega)
              · exact Or.inr ⟨by simp; omega, by simp; omega⟩
            have hlt : y0 < 65536 := by omega
            clear HUN HQ hx hnq hctl
            rcases e3 with e3 | ⟨e3, e4⟩
            all_goals
              have hd0 : y0 / 4096 < 16 := by omega
              have HD0 := hid (show ∀ W, Calls Tryz.prog 20 #[.int .i64 ((y0 : Int) / 4096)] W fun e w' => e = .returned (.int .u8 (hx (y0 / 4096)).toNat) ∧ w' = W from fun W => by
                have := digit_c W (y0 / 4096) (by omega)
                rwa [show ((y0 / 4096 : Nat) : Int) = (y0 : Int) / 4096 by omega] at this)
              have HD1 := hid (show ∀ W, Calls Tryz.prog 20 #[.int .i64 ((y0 : Int) / 256 % 16)] W fun e w' => e = .returned (.int .u8 (hx (y0 / 256 % 16)).toNat) ∧ w' = W from fun W => by
                have := digit_c W (y0 / 256 % 16) (by omega)
                rwa [show ((y0 / 256 % 16 : Nat) : Int) = (y0 : Int) / 256 % 16 by omega] at this)
              have HD2 := hid (show ∀ W, Calls Tryz.prog 20 #[.int .i64 ((y0 : Int) / 16 % 16)] W fun e w' => e = .returned (.int .u8 (hx (y0 / 16 % 16)).toNat) ∧ w' = W from fun W => by
                have := digit_c W (y0 / 16 % 16) (by omega)
                rwa [show ((y0 / 16 % 16 : Nat) : Int) = (y0 : Int) / 16 % 16 by omega] at this)
              have HD3 := hid (show ∀ W, Calls Tryz.prog 20 #[.int .i64 ((y0 : Int) % 16)] W fun e w' => e = .returned (.int .u8 (hx (y0 % 16)).toNat) ∧ w' = W from fun W => by
                have := digit_c W (y0 % 16) (by omega)
                rwa [show ((y0 % 16 : Nat) : Int) = (y0 : Int) % 16 by omega] at this)
              have hE : esc4 y0 = [92, 117, hx (y0 / 4096), hx (y0 / 256 % 16), hx (y0 / 16 % 16), hx (y0 % 16)] := by unfold esc4; rw [Nat.mod_eq_of_lt hd0]
              obtain ⟨v7, w7, hrun7, hr7, hf7⟩ := append_bs w3 b _ acc (esc4 y0) #[.int .u8 92, .int .u8 117, .int .u8 ((hx (y0 / 4096)).toNat : Int), .int .u8 ((hx (y0 / 256 % 16)).toNat : Int), .int .u8 ((hx (y0 / 16 % 16)).toNat : Int), .int .u8 ((hx (y0 % 16)).toNat : Int)] (by rw [hE]; rfl) HRC.out (by have := HM.out; have := HI.out.2.2; show _ + 6 ≤ _; omega) hBw
              obtain ⟨g7, c7, hv7⟩ := hr7.2
              have hl7 : (acc ++ esc4 y0).length = m + 6 := by rw [List.length_append, ← HM.out]; rfl
              rw [hl7] at hv7
              subst hv7
              have HM7 := hid (show m + 6 = (acc ++ esc4 y0).length from hl7.symm)
              have HR7 := hid (show Rw w7 b (.slice (some ⟨g7, 0, none⟩) (m + 6) c7) (acc ++ esc4 y0) from hr7)
              have HF7 := hid (show Fr (fun _ => False) w w7 from HFC.out.trans hf7 (fun k hk e => by have := (HRC.out.own e).1; have := HBE.out; omega))
              have HRUN := hid hrun7
              clear hrun7 hr7 hf7 hl7
              obtain ⟨z0, hz0⟩ : ∃ z : Int, z = ((hx (y0 / 4096)).toNat : Int) := ⟨_, rfl⟩
              obtain ⟨z1, hz1⟩ : ∃ z : Int, z = ((hx (y0 / 256 % 16)).toNat : Int) := ⟨_, rfl⟩
              obtain ⟨z2, hz2⟩ : ∃ z : Int, z = ((hx (y0 / 16 % 16)).toNat : Int) := ⟨_, rfl⟩
              obtain ⟨z3, hz3⟩ : ∃ z : Int, z = ((hx (y0 % 16)).toNat : Int) := ⟨_, rfl⟩
              have zb0 : 0 ≤ z0 ∧ z0 ≤ 255 := by have := UInt8.toNat_lt (hx (y0 / 4096)); omega
              have zb1 : 0 ≤ z1 ∧ z1 ≤ 255 := by have := UInt8.toNat_lt (hx (y0 / 256 % 16)); omega
              have zb2 : 0 ≤ z2 ∧ z2 ≤ 255 := by have := UInt8.toNat_lt (hx (y0 / 16 % 16)); omega
              have zb3 : 0 ≤ z3 ∧ z3 ≤ 255 := by have := UInt8.toNat_lt (hx (y0 % 16)); omega
              obtain ⟨za0, zc0⟩ := zb0
              obtain ⟨za1, zc1⟩ := zb1
              obtain ⟨za2, zc2⟩ := zb2
              obtain ⟨za3, zc3⟩ := zb3
              rw [← hz0, ← hz1, ← hz2, ← hz3] at HRUN
              rw [← hz0] at HD0
              rw [← hz1] at HD1
              rw [← hz2] at HD2
              rw [← hz3] at HD3
              have HRUN := hid (show (Builtin.append_ #[35, 35] 35 #[.slice (some ⟨g, 0, none⟩) m c, .slice (some ⟨w3.heap.size, 0, none⟩) 6 6]).run Tryz.prog (w3.alloc (.cells #[.int .u8 92, .int .u8 117, .int .u8 z0, .int .u8 z1, .int .u8 z2, .int .u8 z3] 5)) = .ok _ w7 from HRUN.out)
              clear hz0 hz1 hz2 hz3 hE hd0
              go_wp2_with fail
              refine (HD0.out _).mono ?_
              rintro e w' ⟨rfl, rfl⟩
              go_wp2_with fail
              refine (HD1.out _).mono ?_
              rintro e w' ⟨rfl, rfl⟩
              go_wp2_with fail
              refine (HD2.out _).mono ?_
              rintro e w' ⟨rfl, rfl⟩
              go_wp2_with fail
              refine (HD3.out _).mono ?_
              rintro e w' ⟨rfl, rfl⟩
              go_wp2_with (at_builtin; refine Lib.wpList_append_run _ rfl _ _ _ _ rfl _ _ rfl rfl _ _ HRUN.out ?_)
              go_roundw
              case measure => have := HI.out.1; simp [intOf]; omega
              exact ⟨i + 1, acc ++ esc4 y0, g7, c7, m + 6, by go_num, rfl, by have := HI.out; skip; omega, by have := HI.out; omega, HM7, HR7, HQ2, HF7⟩
          · have e3 : decide ((y0 : Int) < 32) = false := by simp; omega
            have e4 : ((y0 : Int) == 127) = false := by simp; omega
            by_cases hq : y0 = 34 ∨ y0 = 92
            · have HQ2 := hid (show [34] ++ quoteAt s 0 = (acc ++ [92, C]) ++ quoteAt s (i + 1) by rw [HQ.out, HUN.out, if_pos (HQ0.out.2 hq)]; simp)
              have e5 : ((y0 : Int) == 34) = true ∨ (((y0 : Int) == 34) = false ∧ ((y0 : Int) == 92) = true) := by
                rcases hq with h | h
                · exact Or.inl (by simp; omega)
                · exact Or.inr ⟨by simp; omega, by simp; omega⟩
              obtain ⟨v7, w7, hrun7, hr7, hf7⟩ := append_bs w3 b _ acc [92, C] #[.int .u8 92, .int .u8 (y0 : Int)] (by rw [HY0.out]; rfl) HRC.out (by have := HM.out; have := HI.out.2.2; simp; omega) hBw
              obtain ⟨g7, c7, hv7⟩ := hr7.2
              have hl7 : (acc ++ [92, C]).length = m + 2 := by rw [List.length_append, ← HM.out]; rfl
              rw [hl7] at hv7
              subst hv7
              have HM7 := hid (show m + 2 = (acc ++ [92, C]).length from hl7.symm)
              have HR7 := hid (show Rw w7 b (.slice (some ⟨g7, 0, none⟩) (m + 2) c7) (acc ++ [92, C]) from hr7)
              have HF7 := hid (show Fr (fun _ => False) w w7 from HFC.out.trans hf7 (fun k hk e => by have := (HRC.out.own e).1; have := HBE.out; omega))
              have HRUN := hid hrun7
              clear hrun7 hr7 hf7 hl7
              clear HUN HQ hq hctl
              rcases e5 with e5 | ⟨e5, e6⟩
              all_goals
                as_aux_lemma =>
                  go_wp2_with (at_builtin; refine Lib.wpList_append_run _ rfl _ _ _ _ rfl _ _ rfl rfl _ _ HRUN.out ?_)
                  go_roundw
                  case measure => have := HI.out.1; simp [intOf]; omega
                  exact ⟨i + 1, acc ++ [92, C], g7, c7, m + 2, by go_num, rfl, by have := HI.out; omega, by have := HI.out; omega, HM7, HR7, HQ2, HF7⟩
            · have HQ2 := hid (show [34] ++ quoteAt s 0 = (acc ++ [C]) ++ quoteAt s (i + 1) by rw [HQ.out, HUN.out, if_neg (fun e => hq (HQ0.out.1 e)), if_neg hctl]; simp)
              have e5 : ((y0 : Int) == 34) = false := by simp; omega
              have e6 : ((y0 : Int) == 92) = false := by simp; omega
              obtain ⟨v7, w7, hrun7, hr7, hf7⟩ := append_bs w3 b _ acc [C] #[.int .u8 (y0 : Int)] (by rw [HY0.out]; rfl) HRC.out (by have := HM.out; have := HI.out.2.2; simp; omega) hBw
              obtain ⟨g7, c7, hv7⟩ := hr7.2
              have hl7 : (acc ++ [C]).length = m + 1 := by rw [List.length_append, ← HM.out]; rfl
              rw [hl7] at hv7
              subst hv7
              have HM7 := hid (show m + 1 = (acc ++ [C]).length from hl7.symm)
              have HR7 := hid (show Rw w7 b (.slice (some ⟨g7, 0, none⟩) (m + 1) c7) (acc ++ [C]) from hr7)
              have HF7 := hid (show Fr (fun _ => False) w w7 from HFC.out.trans hf7 (fun k hk e => by have := (HRC.out.own e).1; have := HBE.out; omega))
              have HRUN := hid hrun7
              clear hrun7 hr7 hf7 hl7
              clear HUN HQ hq hctl
              as_aux_lemma =>
                go_wp2_with (at_builtin; refine Lib.wpList_append_run _ rfl _ _ _ _ rfl _ _ rfl rfl _ _ HRUN.out ?_)
                go_roundw
                case measure => have := HI.out.1; simp [intOf]; omega
                exact ⟨i + 1, acc ++ [C], g7, c7, m + 1, by go_num, rfl, by have := HI.out; omega, by have := HI.out; omega, HM7, HR7, HQ2, HF7⟩
    · have hd' : decide ((i : Int) < (s.length : Int)) = false := by simp; omega
      have HQ2 := hid (show quoteB s = acc ++ [34] by unfold quoteB; rw [HQ.out, quoteAt_un s i hi, if_pos (by omega)]; simp)
      obtain ⟨v7, w7, hrun7, hr7, hf7⟩ := append_bs wr b _ acc [34] #[.int .u8 34] rfl HR.out (by have := HM.out; simp; omega) hBw
      obtain ⟨g7, c7, hv7⟩ := hr7.2
      subst hv7
      have hcv := hr7.conv
      have HF7 := hid (HF.out.trans hf7 (fun k hk e => by have := (HR.out.own e).1; have := HBE.out; omega))
      have HRUN := hid hrun7
      have hcv2 : ∀ n, n = (acc ++ [34]).length → (convert 35 9 (.slice (some ⟨g7, 0, none⟩) n c7)).run Tryz.prog w7 = .ok (.string (bs (acc ++ [34]))) w7 := fun n hn => by rw [hn]; exact hcv
      obtain ⟨n7, hn7⟩ : ∃ n, n = (acc ++ [34]).length := ⟨_, rfl⟩
      have hcv := hcv2 n7 hn7
      rw [← hn7] at HRUN
      clear hrun7 hr7 hf7 HQ hcv2 hn7
      as_aux_lemma =>
        go_wp2_with (at_builtin; refine Lib.wpList_append_run _ rfl _ _ _ _ rfl _ _ rfl rfl _ _ HRUN.out ?_)
        go_ret
        exact ⟨by rw [HQ2.out]; rfl, HF7.out⟩

end Go.Proofs.YtbmfmnkfdfdjbaaGreatDoor.D
