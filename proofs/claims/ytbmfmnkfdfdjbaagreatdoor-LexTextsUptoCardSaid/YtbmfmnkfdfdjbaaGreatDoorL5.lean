/-
  The reader goes over what is ignored. The library's tables are as they were laid.
-/
import Derived.Test.YtbmfmnkfdfdjbaaGreatDoorL4
namespace Go.Proofs.YtbmfmnkfdfdjbaaGreatDoor.D
open Go.RowKit Go.Shelf
set_option linter.unusedVariables false
set_option linter.unusedSimpArgs false

theorem pk_head (s : List UInt8) (j : Nat) : (s.drop j).getD 0 0 = pk s j := by simp [pk, List.getD_eq_getElem?_getD]
theorem drop_ne {s : List UInt8} {j : Nat} (h : j < s.length) : s.drop j ≠ [] := by
  intro e
  have := congrArg List.length e
  simp at this
  omega
/-- What ignored came to. -/
def IgnPost (w : World) (r : Nat) (s : List UInt8) (i n : Nat) (x : Ending) (w' : World) : Prop :=
  Fr (· = r) w w' ∧ ((ign (s.drop i)).2 = true → x = .returned (.tuple #[]) ∧ ∃ f', RdAt w' r s (i + (ign (s.drop i)).1) f' n) ∧
    ((ign (s.drop i)).2 = false → x = .panicked (wrongAt (i + (ign (s.drop i)).1) 50))
/-- Where a reader stands. -/
def atOf (r : Nat) (w : World) : Nat := match w.cell? ⟨r, 1, none⟩ with | some v => (intOf v).toNat | none => 0
theorem atOf_rd {w : World} {r : Nat} {s : List UInt8} {i f n : Nat} (h : RdAt w r s i f n) : atOf r w = i := by
  unfold atOf
  rw [cell_at h 1]
  simp [intOf]

set_option maxHeartbeats 4000000 in
set_option maxRecDepth 100000 in
theorem ignored_c (w : World) (r : Nat) (s : List UInt8) (i f n : Nat) (h : RdAt w r s i f n) (hV : Vars w) (hr : 2 < r) (hi : i ≤ s.length) (hs : s.length ≤ 1048576) :
    Calls Tryz.prog 39 #[.pointer (some ⟨r, 0, none⟩)] w (IgnPost w r s i n) := by
  have H := hid h
  have HV := hid hV
  have HR := hid hr
  have HI := hid hi
  have HS := hid hs
  have hz := size_bs s
  clear h hV hr
  unfold IgnPost
  obtain ⟨I, hI⟩ : ∃ I, I = ign (s.drop i) := ⟨_, rfl⟩
  rw [← hI]
  have HE := hid hI
  clear hI
  go_enter Tryz.func39, Tryz.ntmps39
  go_wp2_with fail
  go_loopw [2] (fun v wx => ∃ j f' : Nat, i ≤ j ∧ j ≤ s.length ∧ Hid (RdAt wx r s j f' n) ∧ Hid (I = ((ign (s.drop j)).1 + (j - i), (ign (s.drop j)).2)) ∧ Hid (Fr (· = r) w wx)) (fun _ wx => s.length - atOf r wx)
  case atStart => exact ⟨i, f, Nat.le_refl _, hi, H, hid (by rw [HE.out]; simp), hid (Fr.refl _ _)⟩
  case round =>
    obtain ⟨j, f', hij, hj, HA, HQ, HF⟩ := hrel
    have HVr := hid (HV.out.one HF.out HR.out)
    have HM := hid (atOf_rd HA.out)
    have c0 : wr.cell? ⟨r, 0, none⟩ = some (.string (bs s)) := cell_at HA.out 0
    have c1 : wr.cell? ⟨r, 1, none⟩ = some (.int .i64 j) := cell_at HA.out 1
    by_cases hd : j < s.length
    case neg =>
      have hd' : decide ((j : Int) < (s.length : Int)) = false := by simp; omega
      have HJ := hid (show j = s.length by omega)
      go_wp2_with fail
      go_quiet (fail)
      go_wp2_with fail
      go_end0
      have e : ign (s.drop j) = (0, true) := by rw [HJ.out]; simp [ign_nil]
      have hq : I = ((ign (s.drop j)).1 + (j - i), (ign (s.drop j)).2) := HQ.out
      rw [e] at hq
      refine ⟨HF.out.trans (fr_no fr_drewN) (fun _ _ e => e), fun _ => ⟨rfl, f', ?_⟩, fun e2 => by rw [hq] at e2; cases e2⟩
      rw [hq]
      simp only [Nat.zero_add]
      rw [show i + (j - i) = j by omega]
      exact RdAt.stay HA.out fr_drewN
    have HD1 := hid hd
    have HIJ := hid hij
    obtain ⟨v, hv⟩ : ∃ v : Int, v = ((pk s j).toNat : Int) := ⟨_, rfl⟩
    have hx : ∀ w, (Instr.index 9 (.string (bs s)) (.int .i64 (j : Int))).run Tryz.prog w = .ok (.int .u8 v) w := fun w => hv ▸ idx_bs _ Tryz.underlying9 w s _ j (by omega) hd
    have HC := hid (fun W => ib_c W [32, 9, 10, 13, 44] (pk s j))
    have hd' : (j : Int) < (s.length : Int) := by omega
    have HN := hid (drop_ne hd)
    have HP := hid (pk_head s j)
    cases hb : wsB.contains (pk s j) with
    | true =>
      as_aux_lemma =>
        obtain ⟨m, hm, hml⟩ := ib_in hb
        have HE2 := hid (ign_ws HN.out (by rw [HP.out]; exact hb))
        have HC : Hid (∀ W, Calls Tryz.prog 48 #[.string (bs [32, 9, 10, 13, 44]), .int .u8 v] W fun e w' => e = .returned (.int .i64 m) ∧ w' = W) := hv ▸ hm ▸ HC
        have HD := hid (show j + 1 ≤ s.length by omega)
        have hm0 : (0 : Int) ≤ (m : Int) := by omega
        clear hb hm hml hv
        go_wp2_with fail
        go_quiet (fail)
        obtain ⟨wa, hwa⟩ : ∃ wa, wa = wr.drewN nq := ⟨_, rfl⟩
        rw [← hwa]
        have HFa := hid (show Fr (fun _ => False) wr wa from hwa ▸ fr_drewN)
        have a0 := cells_stay2 HFa.out c0
        have a1 := cells_stay2 HFa.out c1
        clear hwa c0 c1
        go_wp2_with fail
        go_quiet (fail)
        obtain ⟨wb, hwb⟩ : ∃ wb, wb = wa.drewN nq := ⟨_, rfl⟩
        rw [← hwb]
        have HFb := hid (show Fr (fun _ => False) wr wb from HFa.out.trans (hwb ▸ fr_drewN) (fun _ _ f => f))
        have b0 : wb.cell? ⟨r, 0, none⟩ = some (.string (bs s)) := cell_at (HA.out.stay HFb.out) 0
        have b1 : wb.cell? ⟨r, 1, none⟩ = some (.int .i64 j) := cell_at (HA.out.stay HFb.out) 1
        have bf : wb.frozen? ⟨r, 1, none⟩ = false := frozen_at (HA.out.stay HFb.out) 1
        clear hwb a0 a1
        go_wp2_with fail
        refine (HC.out _).mono ?_
        rintro e w2 ⟨rfl, hw2⟩
        rw [hw2]
        clear hw2
        go_wp2_with fail
        go_roundw
        case measure =>
          have h1 : j + 1 ≤ s.length := HD.out
          have h2 : atOf r wr = j := HM.out
          have h3 : atOf r (wb.setCell ⟨r, 1, none⟩ (.int .i64 ((j : Int) + 1))) = j + 1 := by
            have := atOf_rd (RdAt.move (w := wb) (HA.out.stay HFb.out) (j + 1))
            simpa using this
          rw [h2, h3]
          omega
        refine ⟨j + 1, f', by have h1 : i ≤ j := HIJ.out; omega, HD.out, hid ?_, hid ?_, hid ?_⟩
        · have := RdAt.move (w := wb) (HA.out.stay HFb.out) (j + 1)
          simpa using this
        · have hq : I = ((ign (s.drop j)).1 + (j - i), (ign (s.drop j)).2) := HQ.out
          have h1 : i ≤ j := HIJ.out
          rw [hq, HE2.out, List.drop_drop]
          simp only [Prod.mk.injEq, and_true]
          omega
        · exact (HF.out.trans (fr_no HFb.out) (fun _ _ e => e)).trans (fr_set1 _ r 1 _) (fun _ _ e => e)
    | false =>
      have hm := ib_out hb
      have HB0 := hid (show wsB.contains ((s.drop j).getD 0 0) = false by rw [HP.out]; exact hb)
      have HC : Hid (∀ W, Calls Tryz.prog 48 #[.string (bs [32, 9, 10, 13, 44]), .int .u8 v] W fun e w' => e = .returned (.int .i64 (-1)) ∧ w' = W) := hv ▸ (ib_out hb : Lib.indexByte [32, 9, 10, 13, 44] (pk s j) = -1) ▸ HC
      cases hm2 : hasP s j [239, 187, 191] with
      | true =>
        as_aux_lemma =>
          have HE2 := hid (ign_mark HN.out HB0.out hm2)
          have HD := hid (show j + 3 ≤ s.length by
            have h3 : markB.length ≤ (s.drop j).length := (List.isPrefixOf_iff_prefix.1 (show markB.isPrefixOf (s.drop j) = true from hm2)).length_le
            have h4 : markB.length = 3 := rfl
            simp only [List.length_drop] at h3
            omega)
          clear hb hm hv
          go_wp2_with fail
          go_quiet (fail)
          obtain ⟨wa, hwa⟩ : ∃ wa, wa = wr.drewN nq := ⟨_, rfl⟩
          rw [← hwa]
          have HFa := hid (show Fr (fun _ => False) wr wa from hwa ▸ fr_drewN)
          have a0 := cells_stay2 HFa.out c0
          have a1 := cells_stay2 HFa.out c1
          clear hwa c0 c1
          go_wp2_with fail
          go_quiet (fail)
          obtain ⟨wb, hwb⟩ : ∃ wb, wb = wa.drewN nq := ⟨_, rfl⟩
          rw [← hwb]
          have HFb := hid (show Fr (fun _ => False) wr wb from HFa.out.trans (hwb ▸ fr_drewN) (fun _ _ f => f))
          have b0 : wb.cell? ⟨r, 0, none⟩ = some (.string (bs s)) := cell_at (HA.out.stay HFb.out) 0
          have b1 : wb.cell? ⟨r, 1, none⟩ = some (.int .i64 j) := cell_at (HA.out.stay HFb.out) 1
          have bf : wb.frozen? ⟨r, 1, none⟩ = false := frozen_at (HA.out.stay HFb.out) 1
          clear hwb a0 a1
          go_wp2_with fail
          refine (HC.out _).mono ?_
          rintro e w2 ⟨rfl, hw2⟩
          rw [hw2]
          clear hw2
          have HH := hid (has_c wb r s j f' n (HA.out.stay HFb.out) (Nat.le_of_lt HD1.out) HS.out [239, 187, 191])
          go_wp2_with fail
          refine HH.out.mono ?_
          rintro e wc ⟨rfl, hfc⟩
          have HFc := hid (HFb.out.trans hfc (fun _ _ f => f))
          have d0 : wc.cell? ⟨r, 0, none⟩ = some (.string (bs s)) := cell_at (HA.out.stay HFc.out) 0
          have d1 : wc.cell? ⟨r, 1, none⟩ = some (.int .i64 j) := cell_at (HA.out.stay HFc.out) 1
          have df : wc.frozen? ⟨r, 1, none⟩ = false := frozen_at (HA.out.stay HFc.out) 1
          have df2 : wc.frozen? ⟨r, 2, none⟩ = false := frozen_at (HA.out.stay HFc.out) 2
          clear hfc HH b0 b1 bf
          rw [hm2]
          clear hm2
          go_wp2_with fail
          go_roundw
          case measure =>
            have h1 : j + 3 ≤ s.length := HD.out
            have h2 : atOf r wr = j := HM.out
            have h3 : atOf r (wc.setCell ⟨r, 1, none⟩ (.int .i64 ((j : Int) + 3))) = j + 3 := by
              have := atOf_rd (RdAt.move (w := wc) (HA.out.stay HFc.out) (j + 3))
              simpa using this
            rw [h2, h3]
            omega
          refine ⟨j + 3, f', by have h1 : i ≤ j := HIJ.out; omega, HD.out, hid ?_, hid ?_, hid ?_⟩
          · have := RdAt.move (w := wc) (HA.out.stay HFc.out) (j + 3)
            simpa using this
          · have hq : I = ((ign (s.drop j)).1 + (j - i), (ign (s.drop j)).2) := HQ.out
            have h1 : i ≤ j := HIJ.out
            rw [hq, HE2.out, List.drop_drop]
            simp only [Prod.mk.injEq, and_true]
            omega
          · exact (HF.out.trans (fr_no HFc.out) (fun _ _ e => e)).trans (fr_set1 _ r 1 _) (fun _ _ e => e)
      | false =>
        have HM0 := hid (show markB.isPrefixOf (s.drop j) = false from hm2)
        by_cases h35 : pk s j = 35
        case neg =>
          as_aux_lemma =>
            have HE2 := hid (ign_not HN.out HB0.out HM0.out (by rw [HP.out]; exact h35))
            have e35 : (v == 35) = false := by
              have := UInt8.toNat_lt (pk s j)
              have h2 : (pk s j).toNat ≠ 35 := fun e => h35 (UInt8.toNat_inj.1 e)
              simp
              omega
            clear hb hm hv h35
            go_wp2_with fail
            go_quiet (fail)
            obtain ⟨wa, hwa⟩ : ∃ wa, wa = wr.drewN nq := ⟨_, rfl⟩
            rw [← hwa]
            have HFa := hid (show Fr (fun _ => False) wr wa from hwa ▸ fr_drewN)
            have a0 := cells_stay2 HFa.out c0
            have a1 := cells_stay2 HFa.out c1
            clear hwa c0 c1
            go_wp2_with fail
            go_quiet (fail)
            obtain ⟨wb, hwb⟩ : ∃ wb, wb = wa.drewN nq := ⟨_, rfl⟩
            rw [← hwb]
            have HFb := hid (show Fr (fun _ => False) wr wb from HFa.out.trans (hwb ▸ fr_drewN) (fun _ _ f => f))
            have b0 : wb.cell? ⟨r, 0, none⟩ = some (.string (bs s)) := cell_at (HA.out.stay HFb.out) 0
            have b1 : wb.cell? ⟨r, 1, none⟩ = some (.int .i64 j) := cell_at (HA.out.stay HFb.out) 1
            have bf : wb.frozen? ⟨r, 1, none⟩ = false := frozen_at (HA.out.stay HFb.out) 1
            clear hwb a0 a1
            go_wp2_with fail
            refine (HC.out _).mono ?_
            rintro e w2 ⟨rfl, hw2⟩
            rw [hw2]
            clear hw2
            have HH := hid (has_c wb r s j f' n (HA.out.stay HFb.out) (Nat.le_of_lt HD1.out) HS.out [239, 187, 191])
            go_wp2_with fail
            refine HH.out.mono ?_
            rintro e wc ⟨rfl, hfc⟩
            have HFc := hid (HFb.out.trans hfc (fun _ _ f => f))
            have d0 : wc.cell? ⟨r, 0, none⟩ = some (.string (bs s)) := cell_at (HA.out.stay HFc.out) 0
            have d1 : wc.cell? ⟨r, 1, none⟩ = some (.int .i64 j) := cell_at (HA.out.stay HFc.out) 1
            have df : wc.frozen? ⟨r, 1, none⟩ = false := frozen_at (HA.out.stay HFc.out) 1
            have df2 : wc.frozen? ⟨r, 2, none⟩ = false := frozen_at (HA.out.stay HFc.out) 2
            clear hfc HH b0 b1 bf
            rw [hm2]
            clear hm2
            go_wp2_with fail
            (try simp only [Exit.inBlock, Exit.then]); refine bodyPost_ret (results_none rfl _ _ _) rfl ?_
            have hq : I = ((ign (s.drop j)).1 + (j - i), (ign (s.drop j)).2) := HQ.out
            rw [HE2.out] at hq
            have h1 : i ≤ j := HIJ.out
            refine ⟨HF.out.trans (fr_no HFc.out) (fun _ _ e => e), fun _ => ⟨rfl, f', ?_⟩, fun e2 => (by rw [hq] at e2; cases e2)⟩
            rw [hq]
            simp only [Nat.zero_add]
            rw [show i + (j - i) = j by omega]
            exact HA.out.stay HFc.out
        have e35 : (v == 35) = true := by rw [hv, h35]; rfl
        have HE3 := hid (ign_com HN.out HB0.out HM0.out (by rw [HP.out]; exact h35))
        have H35 := hid h35
        clear hb hm hv h35
        go_wp2_with fail
        go_quiet (fail)
        obtain ⟨wa, hwa⟩ : ∃ wa, wa = wr.drewN nq := ⟨_, rfl⟩
        rw [← hwa]
        have HFa := hid (show Fr (fun _ => False) wr wa from hwa ▸ fr_drewN)
        have a0 := cells_stay2 HFa.out c0
        have a1 := cells_stay2 HFa.out c1
        clear hwa c0 c1
        go_wp2_with fail
        go_quiet (fail)
        obtain ⟨wb, hwb⟩ : ∃ wb, wb = wa.drewN nq := ⟨_, rfl⟩
        rw [← hwb]
        have HFb := hid (show Fr (fun _ => False) wr wb from HFa.out.trans (hwb ▸ fr_drewN) (fun _ _ f => f))
        have b0 : wb.cell? ⟨r, 0, none⟩ = some (.string (bs s)) := cell_at (HA.out.stay HFb.out) 0
        have b1 : wb.cell? ⟨r, 1, none⟩ = some (.int .i64 j) := cell_at (HA.out.stay HFb.out) 1
        have bf : wb.frozen? ⟨r, 1, none⟩ = false := frozen_at (HA.out.stay HFb.out) 1
        clear hwb a0 a1
        go_wp2_with fail
        refine (HC.out _).mono ?_
        rintro e w2 ⟨rfl, hw2⟩
        rw [hw2]
        clear hw2
        have HH := hid (has_c wb r s j f' n (HA.out.stay HFb.out) (Nat.le_of_lt HD1.out) HS.out [239, 187, 191])
        go_wp2_with fail
        refine HH.out.mono ?_
        rintro e wc ⟨rfl, hfc⟩
        have HFc := hid (HFb.out.trans hfc (fun _ _ f => f))
        have d0 : wc.cell? ⟨r, 0, none⟩ = some (.string (bs s)) := cell_at (HA.out.stay HFc.out) 0
        have d1 : wc.cell? ⟨r, 1, none⟩ = some (.int .i64 j) := cell_at (HA.out.stay HFc.out) 1
        have df : wc.frozen? ⟨r, 1, none⟩ = false := frozen_at (HA.out.stay HFc.out) 1
        have df2 : wc.frozen? ⟨r, 2, none⟩ = false := frozen_at (HA.out.stay HFc.out) 2
        clear hfc HH b0 b1 bf
        rw [hm2]
        clear hm2 hx
        go_wp2_with fail
        go_loopw [3, 4] (fun _ _ wy => ∃ q f'' : Nat, j ≤ q ∧ q ≤ s.length ∧ Hid (RdAt wy r s q f'' n) ∧ Hid (com (s.drop j) = ((com (s.drop q)).1 + (q - j), (com (s.drop q)).2)) ∧ Hid (Fr (· = r) w wy)) (fun _ _ wy => s.length - atOf r wy)
        case atStart => exact ⟨j, f', Nat.le_refl _, Nat.le_of_lt HD1.out, hid (HA.out.stay HFc.out), hid (by simp), hid (HF.out.trans (fr_no HFc.out) (fun _ _ e => e))⟩
        case round =>
          obtain ⟨q, f'', hjq, hql, HB, HK, HG⟩ := hrel
          have HJQ := hid hjq
          have HQL := hid hql
          have g0 : wr.cell? ⟨r, 0, none⟩ = some (.string (bs s)) := cell_at HB.out 0
          have g1 : wr.cell? ⟨r, 1, none⟩ = some (.int .i64 q) := cell_at HB.out 1
          by_cases hd2 : q < s.length
          case neg =>
            as_aux_lemma =>
              have HZ := hid (show com (s.drop q) = (0, true) from com_end (Or.inl (List.drop_eq_nil_of_le (by omega))))
              have hd3 : decide ((q : Int) < (s.length : Int)) = false := by simp; omega
              skip
              skip
              go_wp2_with fail
              go_quiet (fail)
              go_wp2_with fail
              go_roundw
              case measure =>
                have h1 : com (s.drop j) = ((com (s.drop q)).1 + (q - j), (com (s.drop q)).2) := HK.out
                have h2 := com_pos HN.out (show (s.drop j).getD 0 0 = 35 from (HP.out).trans H35.out)
                have h3 : com (s.drop q) = (0, true) := HZ.out
                have h4 := HM.out
                have h5 : atOf r (wr.drewN nq) = q := atOf_rd (HB.out.stay fr_drewN)
                have h6 : q ≤ s.length := HQL.out
                rw [h1, h3] at h2
                simp only at h2
                rw [h4, h5]
                omega
              have h1 : com (s.drop j) = ((com (s.drop q)).1 + (q - j), (com (s.drop q)).2) := HK.out
              have h3 : com (s.drop q) = (0, true) := HZ.out
              have h6 : i ≤ j := HIJ.out
              have h7 : j ≤ q := HJQ.out
              refine ⟨q, f'', by omega, HQL.out, hid (HB.out.stay fr_drewN), hid ?_, hid (HG.out.trans (fr_no fr_drewN) (fun _ _ e => e))⟩
              have hq : I = ((ign (s.drop j)).1 + (j - i), (ign (s.drop j)).2) := HQ.out
              rw [h3] at h1
              have he : ign (s.drop j) = ((ign (s.drop q)).1 + (q - j), (ign (s.drop q)).2) := by
                rw [HE3.out, h1]
                simp only [if_true, List.drop_drop, Nat.zero_add]
                rw [show j + (q - j) = q by omega]
              rw [hq, he]
              simp only [Prod.mk.injEq, and_true]
              omega
          obtain ⟨u, hu⟩ : ∃ u : Int, u = ((pk s q).toNat : Int) := ⟨_, rfl⟩
          have hx : ∀ w, (Instr.index 9 (.string (bs s)) (.int .i64 (q : Int))).run Tryz.prog w = .ok (.int .u8 u) w := fun w => hu ▸ idx_bs _ Tryz.underlying9 w s _ q (by omega) hd2
          have hd3 : (q : Int) < (s.length : Int) := by omega
          have HQ0 := hid (pk_head s q)
          have HU := hid hu
          by_cases h10 : pk s q = 10
          · as_aux_lemma =>
              have HZ := hid (show com (s.drop q) = (0, true) from com_end (Or.inr (Or.inl (HQ0.out.trans h10))))
              have e10 : (u == 10) = true := by rw [hu, h10]; rfl
              have e10' : (u != 10) = false := by rw [hu, h10]; rfl
              clear hu
              clear h10
              go_wp2_with fail
              go_quiet (fail)
              go_wp2_with fail
              go_roundw
              case measure =>
                have h1 : com (s.drop j) = ((com (s.drop q)).1 + (q - j), (com (s.drop q)).2) := HK.out
                have h2 := com_pos HN.out (show (s.drop j).getD 0 0 = 35 from (HP.out).trans H35.out)
                have h3 : com (s.drop q) = (0, true) := HZ.out
                have h4 := HM.out
                have h5 : atOf r (wr.drewN nq) = q := atOf_rd (HB.out.stay fr_drewN)
                have h6 : q ≤ s.length := HQL.out
                rw [h1, h3] at h2
                simp only at h2
                rw [h4, h5]
                omega
              have h1 : com (s.drop j) = ((com (s.drop q)).1 + (q - j), (com (s.drop q)).2) := HK.out
              have h3 : com (s.drop q) = (0, true) := HZ.out
              have h6 : i ≤ j := HIJ.out
              have h7 : j ≤ q := HJQ.out
              refine ⟨q, f'', by omega, HQL.out, hid (HB.out.stay fr_drewN), hid ?_, hid (HG.out.trans (fr_no fr_drewN) (fun _ _ e => e))⟩
              have hq : I = ((ign (s.drop j)).1 + (j - i), (ign (s.drop j)).2) := HQ.out
              rw [h3] at h1
              have he : ign (s.drop j) = ((ign (s.drop q)).1 + (q - j), (ign (s.drop q)).2) := by
                rw [HE3.out, h1]
                simp only [if_true, List.drop_drop, Nat.zero_add]
                rw [show j + (q - j) = q by omega]
              rw [hq, he]
              simp only [Prod.mk.injEq, and_true]
              omega
          have e10 : (u == 10) = false := by
            have h2 : (pk s q).toNat ≠ 10 := fun e => h10 (UInt8.toNat_inj.1 e)
            simp
            omega
          have e10' : (u != 10) = true := by
            have h2 : (pk s q).toNat ≠ 10 := fun e => h10 (UInt8.toNat_inj.1 e)
            simp
            omega
          by_cases h13 : pk s q = 13
          · as_aux_lemma =>
              have HZ := hid (show com (s.drop q) = (0, true) from com_end (Or.inr (Or.inr (HQ0.out.trans h13))))
              have e13 : (u == 13) = true := by rw [hu, h13]; rfl
              have e13' : (u != 13) = false := by rw [hu, h13]; rfl
              clear hu h10
              clear h13
              go_wp2_with fail
              go_quiet (fail)
              go_wp2_with fail
              go_roundw
              case measure =>
                have h1 : com (s.drop j) = ((com (s.drop q)).1 + (q - j), (com (s.drop q)).2) := HK.out
                have h2 := com_pos HN.out (show (s.drop j).getD 0 0 = 35 from (HP.out).trans H35.out)
                have h3 : com (s.drop q) = (0, true) := HZ.out
                have h4 := HM.out
                have h5 : atOf r (wr.drewN nq) = q := atOf_rd (HB.out.stay fr_drewN)
                have h6 : q ≤ s.length := HQL.out
                rw [h1, h3] at h2
                simp only at h2
                rw [h4, h5]
                omega
              have h1 : com (s.drop j) = ((com (s.drop q)).1 + (q - j), (com (s.drop q)).2) := HK.out
              have h3 : com (s.drop q) = (0, true) := HZ.out
              have h6 : i ≤ j := HIJ.out
              have h7 : j ≤ q := HJQ.out
              refine ⟨q, f'', by omega, HQL.out, hid (HB.out.stay fr_drewN), hid ?_, hid (HG.out.trans (fr_no fr_drewN) (fun _ _ e => e))⟩
              have hq : I = ((ign (s.drop j)).1 + (j - i), (ign (s.drop j)).2) := HQ.out
              rw [h3] at h1
              have he : ign (s.drop j) = ((ign (s.drop q)).1 + (q - j), (ign (s.drop q)).2) := by
                rw [HE3.out, h1]
                simp only [if_true, List.drop_drop, Nat.zero_add]
                rw [show j + (q - j) = q by omega]
              rw [hq, he]
              simp only [Prod.mk.injEq, and_true]
              omega
          have e13 : (u == 13) = false := by
            have h2 : (pk s q).toNat ≠ 13 := fun e => h13 (UInt8.toNat_inj.1 e)
            simp
            omega
          have e13' : (u != 13) = true := by
            have h2 : (pk s q).toNat ≠ 13 := fun e => h13 (UInt8.toNat_inj.1 e)
            simp
            omega
          have HNO := hid (show ¬ ((s.drop q).getD 0 0 = 10 ∨ (s.drop q).getD 0 0 = 13) by rw [HQ0.out]; exact fun e => e.elim h10 h13)
          have HNE := hid (drop_ne hd2)
          have HM2 := hid (atOf_rd HB.out)
          clear hu h10 h13
          go_wp2_with fail
          go_quiet (fail)
          obtain ⟨wx, hwx⟩ : ∃ wx, wx = wr.drewN nq := ⟨_, rfl⟩
          rw [← hwx]
          have HFx := hid (show Fr (fun _ => False) wr wx from hwx ▸ fr_drewN)
          have HBx := hid (HB.out.stay HFx.out)
          have x1 : wx.cell? ⟨r, 1, none⟩ = some (.int .i64 q) := cell_at HBx.out 1
          have x2 : wx.cell? ⟨r, 2, none⟩ = some (.int .i64 f'') := cell_at HBx.out 2
          have xf : wx.frozen? ⟨r, 2, none⟩ = false := frozen_at HBx.out 2
          have HBy := hid (RdAt.begin HBx.out q)
          have HGy := hid (show Fr (· = r) w (wx.setCell ⟨r, 2, none⟩ (.int .i64 q)) from (HG.out.trans (fr_no HFx.out) (fun _ _ e => e)).trans (fr_set1 _ r 2 _) (fun _ _ e => e))
          have HSC := hid (source_c _ r s q q n HBy.out (HV.out.one HGy.out HR.out) HQL.out HS.out)
          clear hwx g0 g1 hx e10 e10' e13 e13'
          go_wp2_with fail
          refine HSC.out.mono ?_
          rintro e wz ⟨hfz, hnone, hsome⟩
          cases hsrc : src (s.drop q) with
          | none =>
            as_aux_lemma =>
              obtain ⟨rfl, hbz⟩ := hnone hsrc
              have HZ := hid (com_bad HNE.out HNO.out hsrc)
              have HBz := hid hbz
              have HGz := hid (HGy.out.trans hfz (fun _ _ e => e))
              have HMU := hid (must_not wz r s q q n HBz.out 50)
              clear hnone hsome hsrc hbz hfz
              go_wp2_with fail
              refine HMU.out.mono ?_
              rintro e wv ⟨rfl, rfl⟩
              go_wp2_with fail
              have hq : I = ((ign (s.drop j)).1 + (j - i), (ign (s.drop j)).2) := HQ.out
              have h1 : com (s.drop j) = ((com (s.drop q)).1 + (q - j), (com (s.drop q)).2) := HK.out
              have h3 : com (s.drop q) = (0, false) := HZ.out
              have h6 : i ≤ j := HIJ.out
              have h7 : j ≤ q := HJQ.out
              rw [HE3.out, h1, h3] at hq
              simp only [Bool.false_eq_true, if_false, Nat.zero_add] at hq
              refine ⟨rfl, HGz.out, fun e2 => (by rw [hq] at e2; cases e2), fun _ => ?_⟩
              rw [hq]
              simp only
              rw [show i + (q - j + (j - i)) = q by omega]
          | some p =>
            as_aux_lemma =>
              obtain ⟨c, k⟩ := p
              obtain ⟨rfl, hbz⟩ := hsome c k hsrc
              have HZ := hid (com_step HNE.out HNO.out hsrc)
              have HLE := hid (src_le hsrc)
              have HBz := hid hbz
              have HGz := hid (HGy.out.trans hfz (fun _ _ e => e))
              have HMU := hid (must_c wz r s (q + k) q n HBz.out 50)
              clear hnone hsome hsrc hbz hfz
              go_wp2_with fail
              refine HMU.out.mono ?_
              rintro e wv ⟨rfl, rfl⟩
              go_wp2_with fail
              go_roundw
              case measure =>
                have h1 : 1 ≤ k ∧ k ≤ (s.drop q).length ∧ k ≤ 3 := HLE.out
                simp only [List.length_drop] at h1
                have h2 : atOf r wr = q := HM2.out
                have h3 : atOf r wv = q + k := atOf_rd HBz.out
                rw [h2, h3]
                omega
              have h1 : 1 ≤ k ∧ k ≤ (s.drop q).length ∧ k ≤ 3 := HLE.out
              simp only [List.length_drop] at h1
              have h7 : j ≤ q := HJQ.out
              have h8 : q ≤ s.length := HQL.out
              refine ⟨q + k, q, by omega, by omega, HBz, hid ?_, HGz⟩
              have h1 : com (s.drop j) = ((com (s.drop q)).1 + (q - j), (com (s.drop q)).2) := HK.out
              rw [h1, HZ.out, List.drop_drop]
              simp only [Prod.mk.injEq, and_true]
              omega

end Go.Proofs.YtbmfmnkfdfdjbaaGreatDoor.D
