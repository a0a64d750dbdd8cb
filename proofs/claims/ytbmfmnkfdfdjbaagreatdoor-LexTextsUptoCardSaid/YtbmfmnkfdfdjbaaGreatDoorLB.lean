/-
  The reader reads a string. The library's tables are as they were laid.
-/
import Derived.Test.YtbmfmnkfdfdjbaaGreatDoorLA
namespace Go.Proofs.YtbmfmnkfdfdjbaaGreatDoor.D
open Go.RowKit Go.Shelf
set_option linter.unusedVariables false
set_option linter.unusedSimpArgs false

def TextPost (w : World) (r : Nat) (s : List UInt8) (R : Option (List UInt8 × Nat)) (f n : Nat) (x : Ending) (w' : World) : Prop :=
  Fr (· = r) w w' ∧ (∀ l e, R = some (l, e) → x = .returned (.string (bs l)) ∧ RdAt w' r s e f n) ∧ (R = none → x = .panicked (wrongAt f 52))
/-- What is said behind what was said. -/
def after (acc : List UInt8) (R : Option (List UInt8 × Nat)) : Option (List UInt8 × Nat) := R.map fun q => (acc ++ q.1, q.2)
theorem after_map (acc p : List UInt8) (R : Option (List UInt8 × Nat)) : after acc (R.map fun q => (p ++ q.1, q.2)) = after (acc ++ p) R := by
  cases R with
  | none => rfl
  | some q => simp [after]

set_option maxHeartbeats 2000000 in
set_option maxRecDepth 100000 in
theorem text_c (w : World) (r : Nat) (s : List UInt8) (i f n : Nat) (h : RdAt w r s i f n) (hV : Vars w) (hr : 2 < r) (hi : i < s.length) (hs : s.length ≤ 1048576) :
    Calls Tryz.prog 55 #[.pointer (some ⟨r, 0, none⟩)] w (TextPost w r s (textP s (i + 1)) f n) := by
  obtain ⟨R, hR⟩ : ∃ R, R = textP s (i + 1) := ⟨_, rfl⟩
  rw [← hR]
  obtain ⟨b, hb⟩ : ∃ b, b = w.heap.size := ⟨_, rfl⟩
  obtain ⟨w1, hw1⟩ : ∃ w1, w1 = w.alloc (.cells #[.pointer none, .slice none 0 0] 38) := ⟨_, rfl⟩
  have hf1 : Fr (fun _ => False) w w1 := hw1 ▸ (Fr.refl _ w).alloc _
  have HB1 := hid (show Bd w1 b b [] from hw1 ▸ hb ▸ Bd.new w)
  have H1 := hid (h.stay hf1)
  have hrb : r < b := hb ▸ lt_of_at h
  have c1 : w1.cell? ⟨r, 1, none⟩ = some (.int .i64 i) := cell_at H1.out 1
  have cf : w1.frozen? ⟨r, 1, none⟩ = false := frozen_at H1.out 1
  have H2 := hid (show RdAt (w1.setCell ⟨r, 1, none⟩ (.int .i64 ((i : Int) + 1))) r s (i + 1) f n by have := RdAt.move H1.out (i + 1); simpa using this)
  have HF2 := hid (show Fr (· = r) w (w1.setCell ⟨r, 1, none⟩ (.int .i64 ((i : Int) + 1))) from (fr_no hf1).trans (fr_set1 _ r 1 _) (fun _ _ e => e))
  have HB2 := hid (HB1.out.one (fr_set1 w1 r 1 (.int .i64 ((i : Int) + 1))) hrb)
  have HR := hid hR
  have HV := hid hV
  have HRR := hid hr
  have HRB := hid hrb
  have HS := hid hs
  have HI := hid hi
  have HW1 := hid hw1
  have HBE := hid hb
  have hz := size_bs s
  rw [hw1] at c1 cf
  clear h hV hR hb hw1 hf1 hr hrb HB1 H1
  go_enter Tryz.func55, Tryz.ntmps55
  go_wp2_with fail
  rw [← HW1.out, ← HBE.out]
  obtain ⟨w2, hw2⟩ : ∃ w2, w2 = w1.setCell ⟨r, 1, none⟩ (.int .i64 ((i : Int) + 1)) := ⟨_, rfl⟩
  rw [← hw2] at H2 HF2 HB2 ⊢
  clear hw2 c1 cf
  go_loopw [4, 5, 6] (fun _ _ _ wx => ∃ (j : Nat) (acc : List UInt8), i + 1 ≤ j ∧ j ≤ s.length ∧ acc.length ≤ 3 * j ∧ Hid (RdAt wx r s j f n) ∧ Hid (R = after acc (textP s j)) ∧ Hid (Bd wx b b acc) ∧ Hid (Fr (· = r) w wx)) (fun _ _ _ wx => s.length - atOf r wx)
  case atStart => exact ⟨i + 1, [], Nat.le_refl _, hi, by simp, H2, hid (by rw [HR.out]; unfold after; cases textP s (i + 1) <;> rfl), HB2, HF2⟩
  case round =>
    obtain ⟨j, acc, hij, hj, hacc, HA, HQ, HBd, HF⟩ := hrel
    have k1 : wr.cell? ⟨r, 1, none⟩ = some (.int .i64 j) := cell_at HA.out 1
    have HSC := hid (source_c wr r s j f n HA.out (HV.out.one HF.out HRR.out) hj HS.out)
    have HM := hid (atOf_rd HA.out)
    have HJ := hid (And.intro hij (And.intro hj hacc))
    have hj2 : j ≤ 1048576 := by omega
    clear hacc
    go_wp2_with fail
    refine HSC.out.mono ?_
    rintro e w3 ⟨hf3, hnone, hsome⟩
    cases hsrc : src (s.drop j) with
    | none =>
      as_aux_lemma =>
        obtain ⟨rfl, h3⟩ := hnone hsrc
        have HN := hid (show R = none by rw [HQ.out, textP_none hsrc]; rfl)
        have H3 := hid h3
        have HF3 := hid (HF.out.trans hf3 (fun _ _ e => e))
        have HMU := hid (must_not w3 r s j f n H3.out 52)
        clear hnone hsome hsrc h3 hf3
        go_wp2_with fail
        refine HMU.out.mono ?_
        rintro e w4 ⟨rfl, rfl⟩
        go_wp2_with fail
        exact ⟨rfl, HF3.out, (fun l e he => by rw [HN.out] at he; cases he), fun _ => rfl⟩
    | some p =>
      obtain ⟨c, k⟩ := p
      obtain ⟨rfl, h3⟩ := hsome c k hsrc
      have H3 := hid h3
      have HF3 := hid (HF.out.trans hf3 (fun _ _ e => e))
      have HB3 := hid (HBd.out.one hf3 HRB.out)
      have HU := hid (textP_un hsrc)
      have HK := hid (src_le hsrc)
      have hk4 : k ≤ 3 := (src_le hsrc).2.2
      have hjk : j + k ≤ s.length := by have := (src_le hsrc).2.1; simp only [List.length_drop] at this; omega
      have hjk2 : j + k ≤ 1048576 := by omega
      clear hnone hsome hsrc h3 hf3 HSC
      by_cases hnl : c = 10 ∨ c = 13
      · as_aux_lemma =>
          have HN := hid (show R = none by rw [HQ.out, HU.out, if_pos hnl]; rfl)
          have HMU := hid (must_not w3 r s (j + k) f n H3.out 52)
          rcases hnl with rfl | rfl
          · go_wp2_with fail
            refine HMU.out.mono ?_
            rintro e w4 ⟨rfl, rfl⟩
            go_wp2_with fail
            exact ⟨rfl, HF3.out, (fun l e he => by rw [HN.out] at he; cases he), fun _ => rfl⟩
          · go_wp2_with fail
            refine HMU.out.mono ?_
            rintro e w4 ⟨rfl, rfl⟩
            go_wp2_with fail
            exact ⟨rfl, HF3.out, (fun l e he => by rw [HN.out] at he; cases he), fun _ => rfl⟩
      have HNL := hid hnl
      have e10 : ((c : Int) != 10) = true := by simp; omega
      have e13 : ((c : Int) != 13) = true := by simp; omega
      have e10' : ((c : Int) == 10) = false := by simp; omega
      have e13' : ((c : Int) == 13) = false := by simp; omega
      have HMU := hid (must_c w3 r s (j + k) f n H3.out 52)
      by_cases h34 : c = 34
      · as_aux_lemma =>
          have HN := hid (show R = some (acc, j + k) by rw [HQ.out, HU.out, if_neg hnl, if_pos h34]; simp [after])
          have hBw : b ≤ w3.heap.size := by
            have := HF3.out.size
            rw [HBE.out]
            exact this
          have HST := hid (bstr_c w3 b b acc HB3.out hBw)
          subst h34
          clear hnl e10 e13 e10' e13' hBw
          go_wp2_with fail
          refine HMU.out.mono ?_
          rintro e w4 ⟨rfl, hw4⟩
          rw [hw4]
          clear hw4
          go_wp2_with fail
          refine HST.out.mono ?_
          rintro e w5 ⟨rfl, hb5⟩
          have HF5 := hid (HF3.out.below2 hb5 (by rw [HBE.out]; exact Nat.le_refl _))
          have H5 := hid (H3.out.keep (fr_below hb5) (by have := HRB.out; show ¬ b ≤ r; omega))
          clear hb5
          go_wp2_with fail
          go_ret
          refine ⟨HF5.out, fun l e he => ?_, fun he => (by rw [HN.out] at he; cases he)⟩
          rw [HN.out] at he
          injection he with he
          injection he with e1 e2
          subst e1 e2
          exact ⟨rfl, H5.out⟩
      have e34 : ((c : Int) == 34) = false := by simp; omega
      by_cases h92 : c = 92
      · have HN := hid (show R = after acc ((esc s (j + k)).bind fun p => (textP s p.2).map fun q => (p.1 ++ q.1, q.2)) by rw [HQ.out, HU.out, if_neg hnl, if_neg h34, if_pos h92])
        have HES := hid (escape_c w3 r s (j + k) f n H3.out hjk HS.out)
        subst h92
        clear hnl e10 e13 e10' e13' h34
        go_wp2_with fail
        refine HMU.out.mono ?_
        rintro e w4 ⟨rfl, hw4⟩
        rw [hw4]
        clear hw4
        go_wp2_with fail
        refine HES.out.mono ?_
        rintro e w5 ⟨hf5, hsome, hnone⟩
        have HF5 := hid (HF3.out.trans hf5 (fun _ _ e => e))
        cases hes : esc s (j + k) with
        | none =>
          as_aux_lemma =>
            obtain rfl := hnone hes
            have HN2 := hid (show R = none by rw [HN.out, hes]; rfl)
            clear hsome hnone hes hf5
            go_wp2_with fail
            exact ⟨rfl, HF5.out, (fun l e he => by rw [HN2.out] at he; cases he), fun _ => rfl⟩
        | some p =>
          as_aux_lemma =>
            obtain ⟨l, m⟩ := p
            obtain ⟨rfl, h5⟩ := hsome l m hes
            have HN2 := hid (show R = after (acc ++ l) (textP s m) by rw [HN.out, hes]; exact after_map acc l (textP s m))
            have HLE := hid (esc_le hes)
            have H5 := hid h5
            have HB5 := hid (HB3.out.one hf5 HRB.out)
            have hBw : b ≤ w5.heap.size := by
              have := HF5.out.size
              rw [HBE.out]
              exact this
            have HWS := hid (wstr_c w5 b b acc l HB5.out (by have h1 : i + 1 ≤ j ∧ j ≤ s.length ∧ acc.length ≤ 3 * j := HJ.out; have h2 : j + k < m ∧ m ≤ s.length ∧ l.length ≤ 3 := HLE.out; omega) hBw)
            clear hsome hnone hes hf5 h5 hBw
            go_wp2_with fail
            refine HWS.out.mono ?_
            rintro e w6 ⟨rfl, hb6, hbl6⟩
            have HF6 := hid (HF5.out.below2 hbl6 (by rw [HBE.out]; exact Nat.le_refl _))
            have H6 := hid (H5.out.keep (fr_below hbl6) (by have := HRB.out; show ¬ b ≤ r; omega))
            have HB6 := hid hb6
            clear hb6 hbl6
            go_wp2_with fail
            go_roundw
            case measure =>
              have h1 : i + 1 ≤ j ∧ j ≤ s.length ∧ acc.length ≤ 3 * j := HJ.out
              have h2 : j + k < m ∧ m ≤ s.length ∧ l.length ≤ 3 := HLE.out
              have h3 := HM.out
              have h4 : atOf r w6 = m := atOf_rd H6.out
              rw [h3, h4]
              omega
            have h1 : i + 1 ≤ j ∧ j ≤ s.length ∧ acc.length ≤ 3 * j := HJ.out
            have h2 : j + k < m ∧ m ≤ s.length ∧ l.length ≤ 3 := HLE.out
            exact ⟨m, acc ++ l, by omega, by omega, by rw [List.length_append]; omega, H6, HN2, HB6, HF6⟩
      have e92 : ((c : Int) == 92) = false := by simp; omega
      have HN := hid (show R = after (acc ++ (s.drop j).take k) (textP s (j + k)) by rw [HQ.out, HU.out, if_neg hnl, if_neg h34, if_neg h92]; exact after_map acc _ (textP s (j + k)))
      have sl : ∀ W, (Instr.slice 9 (.string (bs s)) (some (.int .i64 (j : Int))) (some (.int .i64 ((j + k : Nat) : Int))) none).run Tryz.prog W = .ok (.string (bs ((s.drop j).take k))) W := fun W => by
        rw [slice_str 9 Tryz.underlying9 W s (j : Int) ((j + k : Nat) : Int) (by omega) (by omega) (by omega)]
        rw [show ((j : Int)).toNat = j by omega, show (((j + k : Nat) : Int)).toNat - j = k by omega]
      obtain ⟨q, hq⟩ : ∃ q, q = j + k := ⟨_, rfl⟩
      rw [← hq] at sl HN H3 hjk hjk2
      have hBw : b ≤ w3.drew.heap.size := by
        have := HF3.out.size
        rw [HBE.out]
        exact this
      have HPL : ((s.drop j).take k).length ≤ 3 := by simp; omega
      have HWS := hid (wstr_c w3.drew b b acc ((s.drop j).take k) (HB3.out.stay (Fr.refl _ w3).drew) (by have h1 : i + 1 ≤ j ∧ j ≤ s.length ∧ acc.length ≤ 3 * j := HJ.out; omega) hBw)
      have HLA := hid HPL
      obtain ⟨L, hL⟩ : ∃ L, L = (s.drop j).take k := ⟨_, rfl⟩
      rw [← hL] at HN HWS HLA sl
      have HQQ := hid hq
      have z0 : w3.cell? ⟨r, 0, none⟩ = some (.string (bs s)) := cell_at H3.out 0
      have z1 : w3.cell? ⟨r, 1, none⟩ = some (.int .i64 q) := cell_at H3.out 1
      clear hnl e10 e13 h34 h92 hBw HPL hL hq
      have e10 : ((c : Int) != 10) = true := by simpa using e10'
      have e13 : ((c : Int) != 13) = true := by simpa using e13'
      go_wp2_with fail
      refine HMU.out.mono ?_
      rintro e w4 ⟨rfl, hw4⟩
      rw [hw4]
      clear hw4
      go_upto_region 7 with fail
      go_region_held3 (fun w' => w'.cell? ⟨r, 0, none⟩ = some (.string (bs s)) ∧ w'.cell? ⟨r, 1, none⟩ = some (.int .i64 q) ∧ Fr (fun i => b ≤ i) w3 w')
        (first | exact ⟨z0, z1, (Fr.refl _ _).drew⟩ | exact ⟨cell_keep (by assumption) z0 (show ¬ b ≤ r by have := HRB.out; omega), cell_keep (by assumption) z1 (show ¬ b ≤ r by have := HRB.out; omega), by assumption⟩ | go_keep)
        (first
          | (go_at_call 16; refine HWS.out.mono ?_; rintro e w' ⟨rfl, hb', hbl'⟩; have HBZ := hid hb'; have hf' : Fr (fun i => b ≤ i) w3 w' := ((Fr.refl (fun i => b ≤ i) w3).drew).trans (fr_below hbl') (fun _ _ e => e)))
      rename_i hS
      have HA7 := hid (H3.out.keep hS.2.2 (by have := HRB.out; show ¬ b ≤ r; omega))
      have HF7 := hid (show Fr (· = r) w w' from HF3.out.trans hS.2.2 (fun i hi e => absurd hi (by have h0 : b = w.heap.size := HBE.out; have e : b ≤ i := e; omega)))
      clear hS z0 z1
      go_wp2_with fail
      go_roundw
      case measure =>
        have h1 : 1 ≤ k ∧ k ≤ (s.drop j).length ∧ k ≤ 3 := HK.out
        have h3 := HM.out
        have h4 : atOf r w' = q := atOf_rd HA7.out
        have h5 : q = j + k := HQQ.out
        rw [h3, h4]
        omega
      have h1 : i + 1 ≤ j ∧ j ≤ s.length ∧ acc.length ≤ 3 * j := HJ.out
      have h2 : 1 ≤ k ∧ k ≤ (s.drop j).length ∧ k ≤ 3 := HK.out
      have h5 : q = j + k := HQQ.out
      have h6 : L.length ≤ 3 := HLA.out
      exact ⟨q, acc ++ L, by omega, by omega, by rw [List.length_append]; omega, HA7, HN, HBZ, HF7⟩

end Go.Proofs.YtbmfmnkfdfdjbaaGreatDoor.D
