/-
  The document's Block: the walk. No condition beyond the sizes that are named.
-/
import Derived.Test.YtbmfmnkfdfdjbaaGreatDoorB5
import Derived.Test.YtbmfmnkfdfdjbaaGreatDoorLE
import Derived.Deep.DeepCutAuto
import Derived.Deep.CutBlock
namespace Go.Proofs.YtbmfmnkfdfdjbaaGreatDoor.D
open Go.RowKit Go.Shelf
set_option linter.unusedVariables false
set_option linter.unusedSimpArgs false

theorem cmStep_ge {c : Int} (h : -1 ≤ c) (l : List UInt8) : -1 ≤ cmStep c l := by
  unfold cmStep
  split <;> omega
theorem fl_le (M : List (List UInt8)) (k : Nat) (hk : k ≤ M.length) : (fl M k).1 ≤ M.length ∧ (fl M k).2 ≤ k := by
  rcases fl_spec M k hk with ⟨_, h⟩ | ⟨h1, h2, _⟩
  · rw [h]; exact ⟨Nat.le_refl _, Nat.zero_le _⟩
  · exact ⟨by omega, h2⟩

theorem two_cases {C : Int} {v4 v5 : Value} (h : (C = -1 ∧ v4 = .int .i64 0 ∧ v5 = .bool false) ∨ ∃ c : Nat, C = c ∧ v4 = .int .i64 c ∧ v5 = .bool true) : ∃ (c : Nat) (b : Bool), c = C.toNat ∧ v4 = .int .i64 c ∧ v5 = .bool b := by
  rcases h with ⟨rfl, h1, h2⟩ | ⟨c, rfl, h1, h2⟩
  · exact ⟨0, false, rfl, h1, h2⟩
  · exact ⟨c, true, rfl, h1, h2⟩

set_option maxHeartbeats 4000000 in
set_option maxRecDepth 100000 in
theorem rblock_c (w : World) (s : List UInt8) (hs : s.length ≤ 1100000) :
    Calls Tryz.prog 6 #[.string (bs s)] w fun e w' => e = .returned (.string (bs (blockP s))) ∧ Fr (fun _ => False) w w' := by
  have HLN := hid (rlines_c w s hs)
  have hn := docL_len _ s (Nat.le_refl _)
  have hne := docL_ne _ s (Nat.le_refl _)
  have hl : ∀ l ∈ docL s, l.length ≤ 1100000 := fun l h => Nat.le_trans (lines_le (by rw [linesL_doc]; exact h)) hs
  have HB := hid (show blockP s = Lib.join (((cutTo (commonL (docL s)).toNat (docL s).length (docL s)).take (fl (cutTo (commonL (docL s)).toNat (docL s).length (docL s)) (cutTo (commonL (docL s)).toNat (docL s).length (docL s)).length).2).drop (fl (cutTo (commonL (docL s)).toNat (docL s).length (docL s)) (cutTo (commonL (docL s)).toNat (docL s).length (docL s)).length).1) [10] by
    unfold blockP
    rw [linesL_doc, cut_lines, trim_fl])
  obtain ⟨L, hL⟩ : ∃ L, L = docL s := ⟨_, rfl⟩
  rw [← hL] at HLN hn hne hl HB
  have HL := hid hl
  have h1 : 1 ≤ L.length := List.length_pos_iff.2 hne
  have hn2 : L.length ≤ 1100001 := by omega
  obtain ⟨R, hR⟩ : ∃ R, R = blockP s := ⟨_, rfl⟩
  rw [← hR] at HB ⊢
  clear hl hne hn hL hR
  go_enter Tryz.func6, Tryz.ntmps6
  go_wp2_with fail
  refine HLN.out.mono ?_
  rintro e w1 ⟨v, rfl, hv, hf1⟩
  obtain ⟨g, cap, rfl, hcap, hlow, hsr⟩ := hv.sr
  have HSR := hid hsr
  have HLO := hid hlow
  have HF1 := hid hf1
  obtain ⟨N, hN⟩ : ∃ N, N = L.length := ⟨_, rfl⟩
  have HN := hid hN
  rw [← hN] at h1 hn2 hcap ⊢
  clear hv hsr hlow hf1 HLN hN
  go_wp2_with fail
  go_loopw [4, 5, 6] (fun v4 v5 v6 wx => ∃ (k : Nat) (C : Int), v6 = .int .i64 ((k : Int) + 1) ∧ k ≤ N - 1 ∧ -1 ≤ C ∧ ((C = -1 ∧ v4 = .int .i64 0 ∧ v5 = .bool false) ∨ ∃ c : Nat, C = c ∧ v4 = .int .i64 c ∧ v5 = .bool true) ∧ Hid (C = ((L.drop 1).take k).foldl cmStep (-1)) ∧ Hid (Fr (fun _ => False) w1 wx)) (fun _ _ v _ => N - (intOf v).toNat)
  case atStart => exact ⟨0, -1, rfl, by omega, by omega, Or.inl ⟨rfl, rfl, rfl⟩, hid rfl, hid (Fr.refl _ _)⟩
  case round =>
    obtain ⟨k, C, rfl, hk, hC1, hC, HC, HF⟩ := hrel
    by_cases hend : k = N - 1
    case neg =>
      have hk1 : k + 1 < N := by omega
      have hkd : k < N - 1 := by omega
      have hkl : k + 1 < L.length := by have h : N = L.length := HN.out; omega
      have hld : wr.cell? ⟨g, k + 1, none⟩ = some (.string (bs (L.getD (k + 1) []))) := (HSR.out.keep HF.out (fun f => f)).cell hkl
      have HST := hid (show ((L.drop 1).take (k + 1)).foldl cmStep (-1) = cmStep C (L.getD (k + 1) []) by rw [fold_snoc L k hkl, HC.out])
      have hll : (L.getD (k + 1) []).length ≤ 1100000 := HL.out _ (by rw [List.getD_eq_getElem?_getD, List.getElem?_eq_getElem hkl]; exact List.getElem_mem hkl)
      obtain ⟨l, hl⟩ : ∃ l, l = L.getD (k + 1) [] := ⟨_, rfl⟩
      rw [← hl] at hld HST hll
      have HIN := hid (rindent_c wr l (by omega))
      have hni := indN_le l
      obtain ⟨z, hz⟩ : ∃ z, z = indN l := ⟨_, rfl⟩
      have HZ := hid hz
      rw [← hz] at HIN hni
      have hz2 := size_bs l
      have HKD := hid hkd
      have hk1' : (k : Int) + 1 < (N : Int) := by omega
      have hki : ((k + 1 : Nat) : Int) = (k : Int) + 1 := by omega
      clear hl hz hend hkl hk
      have hstep : ∀ (D : Int) (v4 v5 : Value) (wy : World), cmStep C l = D → ((D = -1 ∧ v4 = .int .i64 0 ∧ v5 = .bool false) ∨ ∃ c : Nat, D = c ∧ v4 = .int .i64 c ∧ v5 = .bool true) → Hid (Fr (fun _ => False) w1 wy) → ∃ (k' : Nat) (C : Int), Value.int .i64 ((k : Int) + 1 + 1) = .int .i64 ((k' : Int) + 1) ∧ k' ≤ N - 1 ∧ -1 ≤ C ∧ ((C = -1 ∧ v4 = .int .i64 0 ∧ v5 = .bool false) ∨ ∃ c : Nat, C = c ∧ v4 = .int .i64 c ∧ v5 = .bool true) ∧ Hid (C = ((L.drop 1).take k').foldl cmStep (-1)) ∧ Hid (Fr (fun _ => False) w1 wy) := fun D v4 v5 wy hD hv hf =>
        ⟨k + 1, D, by rw [hki], by have := HKD.out; omega, by rw [← hD]; exact cmStep_ge hC1 l, hv, hid (by rw [HST.out, hD]), hf⟩
      have HSTEP := hid hstep
      clear hstep hki hC1
      have HIX : ∀ W, (Fr (fun _ => False) wr W) → W.cell? ⟨g, k + 1, none⟩ = some (.string (bs l)) := fun W hf => cells_stay2 hf hld
      have HIX := hid HIX
      rcases hC with ⟨rfl, rfl, rfl⟩ | ⟨c, rfl, rfl, rfl⟩
      · by_cases a1 : z < l.length
        · have b1 : (z : Int) < (l.length : Int) := by omega
          have HD := hid (show cmStep (-1) l = (z : Int) by unfold cmStep; rw [← HZ.out, if_pos ⟨a1, Or.inl (by omega)⟩])
          as_aux_lemma =>
            go_wp2_with fail
            refine HIN.out.mono ?_
            rintro e w2 ⟨rfl, hf2⟩
            have HF2 := hid (HF.out.trans hf2 (fun _ _ f => f))
            have hld2 := HIX.out w2 hf2
            clear hf2 hld
            go_wp2_with fail
            go_roundw
            case measure => have := HKD.out; simp [intOf]; omega
            exact HSTEP.out _ _ _ _ HD.out (Or.inr ⟨z, rfl, rfl, rfl⟩) HF2
        · have b1 : decide ((z : Int) < (l.length : Int)) = false := decide_eq_false (by omega)
          have HD := hid (show cmStep (-1) l = -1 by unfold cmStep; rw [← HZ.out, if_neg (fun e => a1 e.1)])
          as_aux_lemma =>
            go_wp2_with fail
            refine HIN.out.mono ?_
            rintro e w2 ⟨rfl, hf2⟩
            have HF2 := hid (HF.out.trans hf2 (fun _ _ f => f))
            have hld2 := HIX.out w2 hf2
            clear hf2 hld
            go_wp2_with fail
            go_roundw
            case measure => have := HKD.out; simp [intOf]; omega
            exact HSTEP.out _ _ _ _ HD.out (Or.inl ⟨rfl, rfl, rfl⟩) HF2
      · by_cases a1 : z < l.length
        · have b1 : (z : Int) < (l.length : Int) := by omega
          by_cases a3 : z < c
          · have b3 : (z : Int) < (c : Int) := by omega
            have HD := hid (show cmStep (c : Int) l = (z : Int) by unfold cmStep; rw [← HZ.out, if_pos ⟨a1, Or.inr (by omega)⟩])
            as_aux_lemma =>
              go_wp2_with fail
              refine HIN.out.mono ?_
              rintro e w2 ⟨rfl, hf2⟩
              have HF2 := hid (HF.out.trans hf2 (fun _ _ f => f))
              have hld2 := HIX.out w2 hf2
              clear hf2 hld
              go_wp2_with fail
              go_roundw
              case measure => have := HKD.out; simp [intOf]; omega
              exact HSTEP.out _ _ _ _ HD.out (Or.inr ⟨z, rfl, rfl, rfl⟩) HF2
          · have b3 : decide ((z : Int) < (c : Int)) = false := decide_eq_false (by omega)
            have HD := hid (show cmStep (c : Int) l = (c : Int) by unfold cmStep; rw [← HZ.out, if_neg (fun e => e.2.elim (by omega) (by omega))])
            as_aux_lemma =>
              go_wp2_with fail
              refine HIN.out.mono ?_
              rintro e w2 ⟨rfl, hf2⟩
              have HF2 := hid (HF.out.trans hf2 (fun _ _ f => f))
              have hld2 := HIX.out w2 hf2
              clear hf2 hld
              go_wp2_with fail
              go_roundw
              case measure => have := HKD.out; simp [intOf]; omega
              exact HSTEP.out _ _ _ _ HD.out (Or.inr ⟨c, rfl, rfl, rfl⟩) HF2
        · have b1 : decide ((z : Int) < (l.length : Int)) = false := decide_eq_false (by omega)
          have HD := hid (show cmStep (c : Int) l = (c : Int) by unfold cmStep; rw [← HZ.out, if_neg (fun e => a1 e.1)])
          as_aux_lemma =>
            go_wp2_with fail
            refine HIN.out.mono ?_
            rintro e w2 ⟨rfl, hf2⟩
            have HF2 := hid (HF.out.trans hf2 (fun _ _ f => f))
            have hld2 := HIX.out w2 hf2
            clear hf2 hld
            go_wp2_with fail
            go_roundw
            case measure => have := HKD.out; simp [intOf]; omega
            exact HSTEP.out _ _ _ _ HD.out (Or.inr ⟨c, rfl, rfl, rfl⟩) HF2
    have HCL := hid (show C = commonL L by
      rw [HC.out, hend, List.take_of_length_le (by have h : N = L.length := HN.out; simp; omega)]
      rfl)
    obtain ⟨c, b5, hc, rfl, rfl⟩ := two_cases hC
    rw [HCL.out] at hc
    have HCC := hid hc
    have hkn : decide ((k : Int) + 1 < (N : Int)) = false := by simp; omega
    have hkn2 : ¬ k + 1 < N := by omega
    have HSW := hid (HSR.out.keep HF.out (fun f => f))
    have HFW := hid (HF1.out.trans HF.out (fun _ _ f => f))
    obtain ⟨M, hM⟩ : ∃ M, M = cutTo c N L := ⟨_, rfl⟩
    have HM := hid hM
    have hML : M.length = N := by rw [hM, cutTo_len]; exact HN.out.symm
    have HML := hid hML
    have HB2 := hid (show R = Lib.join ((M.take (fl M N).2).drop (fl M N).1) [10] by
      rw [HB.out, ← HCC.out, ← HN.out, ← hM, hML])
    have HLM := hid (show ∀ j, (M.getD j []).length ≤ 1100000 from fun j => by
      by_cases hj : j < L.length
      · rw [hM, cutTo_at c N L j hj]
        have h2 : (L.getD j []).length ≤ 1100000 := HL.out _ (by rw [List.getD_eq_getElem?_getD, List.getElem?_eq_getElem hj]; exact List.getElem_mem hj)
        split
        · rw [List.length_drop]; omega
        · exact h2
      · rw [List.getD_eq_getElem?_getD, List.getElem?_eq_none (by have := HN.out; omega)]
        simp)
    clear hend HC hC HCL hc hM hML HB hk hC1
    go_upto_block 2 with fail
    obtain ⟨w5, hw5⟩ : ∃ w5, w5 = wr := ⟨_, rfl⟩
    rw [← hw5] at HSW HF HFW ⊢
    clear hw5
    go_cut [8, 9, 10] (fun s8 s9 s10 wy => s8 = .int .i64 ((fl M N).1 : Nat) ∧ s9 = .int .i64 (((fl M N).2 : Nat) - 1 : Int) ∧ Hid (SR wy g M) ∧ Hid (Fr (fun _ => False) w wy))
    case first =>
      go_wp2_with fail
      go_loopw [8, 9, 10] (fun v8 v9 v10 wx => ∃ (k F E : Nat), v10 = .int .i64 k ∧ k ≤ N ∧ v8 = .int .i64 F ∧ v9 = .int .i64 ((E : Int) - 1) ∧ F ≤ N ∧ E ≤ N ∧ Hid (fl M k = (F, E)) ∧ Hid (SR wx g (cutTo c k L)) ∧ Hid (Fr (fun _ => False) w wx)) (fun _ _ v _ => N - (intOf v).toNat)
      case atStart => exact ⟨0, N, 0, rfl, by omega, rfl, rfl, by omega, by omega, hid (by unfold fl; rw [HML.out]), hid (by rw [cutTo_zero]; exact HSW.out), HFW⟩
      case round =>
        obtain ⟨k, F, E, rfl, hk, rfl, rfl, hFN, hEN, HFL, HS2, HF2⟩ := hrel
        by_cases hgo : k < N
        · have hgo' : (k : Int) < (N : Int) := by omega
          have HG := hid hgo
          have hkl : k < L.length := by have h : N = L.length := HN.out; omega
          have hMk : M.getD k [] = if 1 ≤ k then (L.getD k []).drop c else L.getD k [] := by
            rw [HM.out, cutTo_at c N L k hkl]
            by_cases h : 1 ≤ k
            · rw [if_pos ⟨h, hgo⟩, if_pos h]
            · rw [if_neg (fun e => h e.1), if_neg h]
          have HMK := hid hMk
          have hM3 : (cutTo c (k + 1) L).getD k [] = M.getD k [] := by
            rw [cutTo_at c (k + 1) L k hkl, hMk]
            by_cases h : 1 ≤ k
            · rw [if_pos ⟨h, by omega⟩, if_pos h]
            · rw [if_neg (fun e => h e.1), if_neg h]
          have HM3 := hid hM3
          have HKL := hid hkl
          clear hMk hM3
          go_upto_if 52 with fail
          go_cut [] (fun wy => Hid (SR wy g (cutTo c (k + 1) L)) ∧ Hid (Fr (fun _ => False) w wy))
          case first =>
            by_cases h0 : k = 0
            · subst h0
              as_aux_lemma =>
                have h00 : decide ((0 : Int) < ((0 : Nat) : Int)) = false := rfl
                go_wp2_with fail
                go_meet
                exact ⟨hid (by have := HS2.out; rw [cutTo_zero] at this; rw [cutTo_one]; exact this), HF2⟩
            · have h1k : 1 ≤ k := by omega
              have h0' : (0 : Int) < (k : Int) := by omega
              have hll : (L.getD k []).length ≤ 1100000 := HL.out _ (by rw [List.getD_eq_getElem?_getD, List.getElem?_eq_getElem hkl]; exact List.getElem_mem hkl)
              have hld : wr.cell? ⟨g, k, none⟩ = some (.string (bs (L.getD k []))) := by
                have h := HS2.out.cell (j := k) (by rw [cutTo_len]; exact hkl)
                rwa [cutTo_at c k L k hkl, if_neg (by omega)] at h
              have hfz : wr.frozen? ⟨g, k, none⟩ = false := HS2.out.frozen k
              have HST := hid (show SR (wr.setCell ⟨g, k, none⟩ (.string (bs ((L.getD k []).drop c)))) g (cutTo c (k + 1) L) by
                rw [← cutTo_step c k L h1k hkl]
                exact HS2.out.set (by rw [cutTo_len]; exact hkl) _)
              obtain ⟨l, hl⟩ : ∃ l, l = L.getD k [] := ⟨_, rfl⟩
              rw [← hl] at hld HST hll
              have hz2 := size_bs l
              obtain ⟨m, hm⟩ : ∃ m : Nat, m = min c l.length := ⟨_, rfl⟩
              have hmin : ∀ w, (Builtin.min_ #[3, 3] 3 #[.int .i64 (c : Int), .int .i64 (l.length : Int)]).run Tryz.prog w = .ok (.int .i64 (m : Int)) w := by
                intro w
                rw [run_min_int2]
                congr 2
                rw [hm]
                split <;> omega
              have sl : ∀ W, (Instr.slice 9 (.string (bs l)) (some (.int .i64 (m : Int))) none none).run Tryz.prog W = .ok (.string (bs (l.drop c))) W := fun W => by
                have h := slice_from 9 Tryz.underlying9 W l (m : Int) (by omega) (by omega)
                rw [Int.toNat_natCast] at h
                rw [h]
                congr 3
                rw [hm]
                rcases Nat.le_total c l.length with h | h
                · rw [Nat.min_eq_left h]
                · rw [Nat.min_eq_right h, List.drop_eq_nil_of_le (Nat.le_refl _), List.drop_eq_nil_of_le h]
              clear hl hm hkl h0
              go_wp2_with fail
              go_region
              go_wp2_with fail
              go_meet
              exact ⟨hid (HST.out.keep (A := fun _ => False) (Fr.refl (fun _ => False) _).drew (fun f => f)), hid ((HF2.out.trans (fr_set1 wr g k _) (fun i hi e => by have h3 : w.heap.size ≤ g := HLO.out; omega)).trans (Fr.refl (fun _ => False) _).drew (fun _ _ f => f))⟩
          case rest =>
            obtain ⟨HS3, HF3⟩ := hcut
            obtain ⟨w6, hw6⟩ : ∃ w6, w6 = wc := ⟨_, rfl⟩
            rw [← hw6] at HS3 HF3 ⊢
            have hld : w6.cell? ⟨g, k, none⟩ = some (.string (bs (M.getD k []))) := by
              have h := HS3.out.cell (j := k) (by rw [cutTo_len]; exact hkl)
              rwa [HM3.out] at h
            have hal := HLM.out k
            have HFK := hid (show fl M (k + 1) = if blankL (M.getD k []) then fl M k else (min (fl M k).1 k, k + 1) from rfl)
            obtain ⟨a, ha⟩ : ∃ a, a = M.getD k [] := ⟨_, rfl⟩
            rw [← ha] at hld hal HFK
            have HIN := hid (fun W => rindent_c W a (by omega))
            have hni := indN_le a
            obtain ⟨z, hz⟩ : ∃ z, z = indN a := ⟨_, rfl⟩
            have HZ := hid hz
            rw [← hz] at HIN hni
            have hz2 := size_bs a
            clear hw6 ha hz HS2 HF2 hkl HMK HM3
            cases hb : blankL a with
            | true =>
              have e1 : decide ((z : Int) < (a.length : Int)) = false := by
                unfold blankL at hb
                have : indN a = a.length := by simpa using hb
                have hzz : z = indN a := HZ.out
                simp
                omega
              have e2 : ¬ z < a.length := by
                unfold blankL at hb
                have : indN a = a.length := by simpa using hb
                have hzz : z = indN a := HZ.out
                omega
              rw [hb, if_pos rfl] at HFK
              have HFL2 := hid (show fl M (k + 1) = (F, E) from HFK.out.trans HFL.out)
              clear hb HFK HFL
              go_wp2_with fail
              go_region_held3 (fun w' => w'.cell? ⟨g, k, none⟩ = some (.string (bs a)) ∧ Fr (fun _ => False) w6 w')
                (first | exact ⟨hld, (Fr.refl _ _).drew⟩ | exact ⟨cells_stay2 (by assumption) hld, by assumption⟩ | go_keep)
                (first
                  | (go_at_call 14; refine (HIN.out _).mono ?_; rintro e w' ⟨rfl, hf'⟩; have hf' := (Fr.refl (fun _ => False) w6).drew.trans hf' (fun _ _ f => f)))
              rename_i hS
              have HS9 := hid (HS3.out.keep hS.2 (fun f => f))
              have HF9 := hid (HF3.out.trans hS.2 (fun _ _ f => f))
              clear hS hld
              go_wp2_with fail
              go_roundw
              case measure => have := HG.out; simp [intOf]; omega
              exact ⟨k + 1, F, E, by go_num, HG.out, rfl, rfl, hFN, hEN, HFL2, HS9, HF9⟩
            | false =>
              have e1 : (z : Int) < (a.length : Int) := by
                unfold blankL at hb
                have : ¬ indN a = a.length := by simpa using hb
                have hzz : z = indN a := HZ.out
                omega
              rw [hb, if_neg (by decide)] at HFK
              have HFL2 := hid (show fl M (k + 1) = (min F k, k + 1) by rw [HFK.out, HFL.out])
              have hmin : ∀ w, (Builtin.min_ #[3, 3] 3 #[.int .i64 (F : Int), .int .i64 (k : Int)]).run Tryz.prog w = .ok (.int .i64 ((min F k : Nat) : Int)) w := by
                intro w
                rw [run_min_int2]
                congr 2
                split <;> omega
              obtain ⟨q, hq⟩ : ∃ q : Nat, q = min F k := ⟨_, rfl⟩
              rw [← hq] at hmin HFL2
              have HQN := hid (show q ≤ N by omega)
              clear hb HFK HFL hq
              go_wp2_with fail
              go_region_held3 (fun w' => w'.cell? ⟨g, k, none⟩ = some (.string (bs a)) ∧ Fr (fun _ => False) w6 w')
                (first | exact ⟨hld, (Fr.refl _ _).drew⟩ | exact ⟨cells_stay2 (by assumption) hld, by assumption⟩ | go_keep)
                (first
                  | (go_at_call 14; refine (HIN.out _).mono ?_; rintro e w' ⟨rfl, hf'⟩; have hf' := (Fr.refl (fun _ => False) w6).drew.trans hf' (fun _ _ f => f)))
              rename_i hS
              have HS9 := hid (HS3.out.keep hS.2 (fun f => f))
              have HF9 := hid (HF3.out.trans hS.2 (fun _ _ f => f))
              clear hS hld
              go_wp2_with fail
              go_roundw
              case measure => have := HG.out; simp [intOf]; omega
              exact ⟨k + 1, q, k + 1, by go_num, HG.out, rfl, by congr 1; omega, HQN.out, HG.out, HFL2, HS9, HF9⟩
        · have hkN : k = N := by omega
          have hgo' : decide ((k : Int) < (N : Int)) = false := by simp; omega
          as_aux_lemma =>
            go_wp2_with fail
            go_meet
            have h := HFL.out
            rw [hkN] at h
            rw [h]
            refine ⟨rfl, rfl, hid ?_, HF2⟩
            have h2 := HS2.out
            rw [hkN] at h2
            rw [HM.out]
            exact h2
    case rest =>
      obtain ⟨rfl, rfl, HS3, HF3⟩ := hcut
      obtain ⟨w6, hw6⟩ : ∃ w6, w6 = wc := ⟨_, rfl⟩
      rw [← hw6] at HS3 HF3 ⊢
      obtain ⟨F, E, hFE⟩ : ∃ F E, fl M N = (F, E) := ⟨_, _, rfl⟩
      have hle := fl_le M N (by rw [HML.out]; exact Nat.le_refl _)
      have hsp := fl_spec M N (by rw [HML.out]; exact Nat.le_refl _)
      rw [hFE] at HB2 hle hsp ⊢
      simp only at HB2 hle hsp ⊢
      have hF1 : F ≤ N := by have := HML.out; omega
      have hE1 : E ≤ N := hle.2
      have hFE2 : F < E ∨ (E = 0 ∧ F = N) := by
        rcases hsp with ⟨_, h⟩ | ⟨h, _⟩
        · injection h with h1 h2
          exact Or.inr ⟨h2, by rw [h1]; exact HML.out⟩
        · exact Or.inl h
      have HEN := hid (And.intro hF1 hE1)
      obtain ⟨w7, hw7⟩ : ∃ w7, w7 = w6.alloc (.cells #[] 5) := ⟨_, rfl⟩
      obtain ⟨B, hB⟩ : ∃ B, B = w6.heap.size := ⟨_, rfl⟩
      have HR7 := hid (show Rw w7 B (.slice (some ⟨B, 0, none⟩) 0 0) [] from by rw [hw7, hB]; exact rw_new w6)
      have HF67 := hid (show Fr (fun _ => False) w6 w7 from hw7 ▸ (Fr.refl _ w6).alloc _)
      have HBE := hid hB
      have HW7 := hid hw7
      have hgB : g < B := by
        obtain ⟨cur, h, _⟩ := HS3.out
        rw [hB]
        exact lt_of_at h
      have HGB := hid hgB
      clear hw6 hle hsp hFE hw7 hB hgB HSW HF HFW HSR HCC HM
      go_wp2_with fail
      rw [← HW7.out, ← HBE.out]
      go_loopw [11, 12] (fun v11 v12 wx => ∃ (k : Nat) (acc : List UInt8) (q cp m : Nat), v12 = .int .i64 k ∧ F ≤ k ∧ (k ≤ E ∨ k = F) ∧ v11 = .slice (some ⟨q, 0, none⟩) m cp ∧ Hid (m = acc.length) ∧ m ≤ 2000000000000 ∧ Hid (acc = Lib.join ((M.take k).drop F) [10]) ∧ Hid (Rw wx B (.slice (some ⟨q, 0, none⟩) m cp) acc) ∧ Hid (Fr (fun i => B ≤ i) w6 wx)) (fun _ v _ => E - (intOf v).toNat)
      case atStart => exact ⟨F, [], B, 0, 0, rfl, Nat.le_refl _, Or.inr rfl, rfl, hid rfl, by omega, hid (by rw [List.drop_eq_nil_of_le (by simp; omega)]; rfl), HR7, hid (fr_no HF67.out)⟩
      case round =>
        obtain ⟨k, acc, q, cp, m, rfl, hFk, hkE, rfl, HMA, hm2, HJ, HR, HFW2⟩ := hrel
        have hBw : B ≤ wr.heap.size := by have := HFW2.out.size; rw [HBE.out]; exact this
        by_cases hgo : k < E
        · have hgo' : (k : Int) ≤ (E : Int) - 1 := by omega
          have hkM : k < M.length := by rw [HML.out]; omega
          have hld : ∀ W, Fr (fun i => B ≤ i) wr W → W.cell? ⟨g, k, none⟩ = some (.string (bs (M.getD k []))) := fun W hf =>
            ((HS3.out.keep HFW2.out (by have := HGB.out; omega)).keep hf (by have := HGB.out; omega)).cell hkM
          have HLD := hid hld
          have hak := HLM.out k
          have hts := take_drop_snoc (M := M) hFk hkM
          have hjl : (Lib.join ((M.take (k + 1)).drop F) [10]).length ≤ 1300000000000 := by
            have h1 := join_le 1100000 ((M.take (k + 1)).drop F) (fun l hl => by
              have := List.mem_of_mem_take (List.mem_of_mem_drop hl)
              obtain ⟨j, hj, rfl⟩ := List.getElem_of_mem this
              have := HLM.out j
              rwa [List.getD_eq_getElem?_getD, List.getElem?_eq_getElem hj] at this)
            have h2 : ((M.take (k + 1)).drop F).length ≤ 1100001 := by have := HML.out; simp; omega
            have h3 := Nat.mul_le_mul h2 (Nat.le_refl (1100000 + 1))
            omega
          obtain ⟨a, ha⟩ : ∃ a, a = M.getD k [] := ⟨_, rfl⟩
          rw [← ha] at HLD hak hts
          have hjs := join_snoc ((M.take k).drop F) a
          rw [← hts, ← HJ.out] at hjs
          have HG := hid hgo
          clear hld ha hts
          by_cases hkF : F < k
          · have hkF' : (F : Int) < (k : Int) := by omega
            have hne : ¬ (M.take k).drop F = [] := by
              intro e
              have := congrArg List.length e
              simp at this
              omega
            rw [if_neg hne] at hjs
            obtain ⟨v8, w8, hrun8, hr8, hf8⟩ := append_bs wr B _ acc [10] #[.int .u8 10] rfl HR.out (by have := HMA.out; simp; omega) hBw
            have hf8' : Fr (fun i => B ≤ i) wr w8 := hf8.mono (fun i hi e => (HR.out.own e).1)
            obtain ⟨q8, cp8, hv8⟩ := hr8.2
            have hl8 : (acc ++ [10]).length = m + 1 := by rw [List.length_append, ← HMA.out]; rfl
            rw [hl8] at hv8
            subst hv8
            obtain ⟨v9, w9, hrun9, hr9, hf9⟩ := append_str w8 B _ (acc ++ [10]) a hr8 (by rw [hl8]; omega) (Nat.le_trans hBw hf8.size)
            have hf9' : Fr (fun i => B ≤ i) wr w9 := hf8'.trans (hf9.mono (fun i hi e => (hr8.own e).1)) (fun _ _ e => e)
            obtain ⟨q9, cp9, hv9⟩ := hr9.2
            have hl9 : (acc ++ [10] ++ a).length = m + 1 + a.length := by rw [List.length_append, hl8]
            rw [hl9] at hv9
            subst hv9
            have hld8 := HLD.out w8 hf8'
            have HR9 := hid (show Rw w9 B (.slice (some ⟨q9, 0, none⟩) (m + 1 + a.length) cp9) (acc ++ [10] ++ a) from hr9)
            have HM9 := hid hl9.symm
            have HJ9 := hid hjs.symm
            have hm9 : m + 1 + a.length ≤ 2000000000000 := by rw [hjs, hl9] at hjl; omega
            have HM92 := hid hm9
            have HF9 := hid (HFW2.out.trans hf9' (fun _ _ e => e))
            have HRUN8 := hid hrun8
            have HRUN9 := hid hrun9
            clear hjs hjl hne hrun8 hrun9 hr8 hr9 hf8 hf8' hf9 hf9' hl8 hl9 hm9 hgo hkE
            go_wp2_with (first
              | (at_builtin; refine Lib.wpList_append_run _ rfl _ _ _ _ rfl _ _ rfl rfl _ _ HRUN8.out ?_)
              | (at_builtin; refine Lib.wpList_append_run _ rfl _ _ _ _ rfl _ _ rfl rfl _ _ HRUN9.out ?_))
            go_roundw
            case measure => have := HG.out; simp [intOf]; omega
            exact ⟨k + 1, acc ++ [10] ++ a, q9, cp9, m + 1 + a.length, by go_num, by omega, Or.inl HG.out, rfl, HM9, HM92.out, HJ9, HR9, HF9⟩
          · have hkF' : decide ((F : Int) < (k : Int)) = false := by simp; omega
            have hne : (M.take k).drop F = [] := List.drop_eq_nil_of_le (by simp; omega)
            rw [if_pos hne] at hjs
            have hacc : acc = [] := by rw [HJ.out, hne]; rfl
            have hm0 : m = 0 := by rw [HMA.out, hacc]; rfl
            obtain ⟨v9, w9, hrun9, hr9, hf9⟩ := append_str wr B _ acc a HR.out (by rw [← HMA.out]; omega) hBw
            have hf9' : Fr (fun i => B ≤ i) wr w9 := hf9.mono (fun i hi e => (HR.out.own e).1)
            obtain ⟨q9, cp9, hv9⟩ := hr9.2
            have hl9 : (acc ++ a).length = m + a.length := by rw [List.length_append, ← HMA.out]
            rw [hl9] at hv9
            subst hv9
            have hld8 := HLD.out wr (Fr.refl _ _)
            have HR9 := hid (show Rw w9 B (.slice (some ⟨q9, 0, none⟩) (m + a.length) cp9) (acc ++ a) from hr9)
            have HM9 := hid hl9.symm
            have HJ9 := hid (show acc ++ a = Lib.join ((M.take (k + 1)).drop F) [10] by rw [hjs, hacc]; rfl)
            have HM92 := hid (show m + a.length ≤ 2000000000000 by omega)
            have HF9 := hid (HFW2.out.trans hf9' (fun _ _ e => e))
            have HRUN9 := hid hrun9
            clear hjs hjl hne hrun9 hr9 hf9 hf9' hl9 hgo hkE hacc hm0
            go_wp2_with (at_builtin; refine Lib.wpList_append_run _ rfl _ _ _ _ rfl _ _ rfl rfl _ _ HRUN9.out ?_)
            go_roundw
            case measure => have := HG.out; simp [intOf]; omega
            exact ⟨k + 1, acc ++ a, q9, cp9, m + a.length, by go_num, by omega, Or.inl HG.out, rfl, HM9, HM92.out, HJ9, HR9, HF9⟩
        · have hgo' : decide ((k : Int) ≤ (E : Int) - 1) = false := by simp; omega
          have hacc : acc = R := by
            rw [HJ.out, HB2.out]
            by_cases h : k = E
            · rw [h]
            · have hkF : k = F := hkE.resolve_left (by omega)
              rw [List.drop_eq_nil_of_le (by simp; omega), List.drop_eq_nil_of_le (by simp; omega)]
          have hcv := HR.out.conv
          rw [hacc] at hcv
          have HF9 := hid (HF3.out.trans HFW2.out (fun i hi e => by have h1 := HF3.out.size; have h2 := HBE.out; omega))
          clear hacc HMA HJ HR hkE
          go_wp2_with fail
          go_ret
          exact ⟨rfl, HF9.out⟩

end Go.Proofs.YtbmfmnkfdfdjbaaGreatDoor.D
