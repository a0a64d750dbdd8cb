/-
  The reader reads a block string: the walk. The library's variables are as they were laid.
-/
import Derived.Test.YtbmfmnkfdfdjbaaGreatDoorLE
namespace Go.Proofs.YtbmfmnkfdfdjbaaGreatDoor.D
open Go.RowKit Go.Shelf
set_option linter.unusedVariables false
set_option linter.unusedSimpArgs false

def blockS (s : List UInt8) (i : Nat) : Option (List UInt8 × Nat) := (rawP s (i + 3)).map fun q => (blockP q.1, q.2)

set_option maxHeartbeats 2000000 in
set_option maxRecDepth 100000 in
theorem block_c (w : World) (r : Nat) (s : List UInt8) (i f n : Nat) (h : RdAt w r s i f n) (hV : Vars w) (hr : 2 < r) (hi : i + 3 ≤ s.length) (hs : s.length ≤ 1000000) :
    Calls Tryz.prog 54 #[.pointer (some ⟨r, 0, none⟩)] w (TextPost w r s (blockS s i) f n) := by
  obtain ⟨R, hR⟩ : ∃ R, R = rawP s (i + 3) := ⟨_, rfl⟩
  have HRB0 := hid (show blockS s i = R.map fun q => (blockP q.1, q.2) by rw [hR]; rfl)
  obtain ⟨b, hb⟩ : ∃ b, b = w.heap.size := ⟨_, rfl⟩
  obtain ⟨w1, hw1⟩ : ∃ w1, w1 = w.alloc (.cells #[.pointer none, .slice none 0 0] 38) := ⟨_, rfl⟩
  have hf1 : Fr (fun _ => False) w w1 := hw1 ▸ (Fr.refl _ w).alloc _
  have HB1 := hid (show Bd w1 b b [] from hw1 ▸ hb ▸ Bd.new w)
  have H1 := hid (h.stay hf1)
  have hrb : r < b := hb ▸ lt_of_at h
  have c1 : w1.cell? ⟨r, 1, none⟩ = some (.int .i64 i) := cell_at H1.out 1
  have cf : w1.frozen? ⟨r, 1, none⟩ = false := frozen_at H1.out 1
  have H2 := hid (show RdAt (w1.setCell ⟨r, 1, none⟩ (.int .i64 ((i : Int) + 3))) r s (i + 3) f n by have := RdAt.move H1.out (i + 3); simpa using this)
  have HF2 := hid (show Fr (· = r) w (w1.setCell ⟨r, 1, none⟩ (.int .i64 ((i : Int) + 3))) from (fr_no hf1).trans (fr_set1 _ r 1 _) (fun _ _ e => e))
  have HB2 := hid (HB1.out.one (fr_set1 w1 r 1 (.int .i64 ((i : Int) + 3))) hrb)
  have HR := hid hR
  have HV := hid hV
  have HRR := hid hr
  have HRB := hid hrb
  have HS := hid hs
  have HI := hid hi
  have HW1 := hid hw1
  have HBE := hid hb
  have hz := size_bs s
  rw [hw1] at c1 cf
  clear h hV hR hb hw1 hf1 hr hrb HB1 H1
  go_enter Tryz.func54, Tryz.ntmps54
  go_wp2_with fail
  rw [← HW1.out, ← HBE.out]
  obtain ⟨w2, hw2⟩ : ∃ w2, w2 = w1.setCell ⟨r, 1, none⟩ (.int .i64 ((i : Int) + 3)) := ⟨_, rfl⟩
  rw [← hw2] at H2 HF2 HB2 ⊢
  clear hw2 c1 cf
  go_loopw [4, 5, 6] (fun _ _ _ wx => ∃ (j : Nat) (acc : List UInt8), j ≤ s.length ∧ acc.length ≤ j ∧ Hid (RdAt wx r s j f n) ∧ Hid (R = after acc (rawP s j)) ∧ Hid (Bd wx b b acc) ∧ Hid (Fr (· = r) w wx)) (fun _ _ _ wx => s.length - atOf r wx)
  case atStart => exact ⟨i + 3, [], hi, by simp, H2, hid (by rw [HR.out]; unfold after; cases rawP s (i + 3) <;> rfl), HB2, HF2⟩
  case round =>
    obtain ⟨j, acc, hj, hacc, HA, HQ, HBd, HF⟩ := hrel
    have k1 : wr.cell? ⟨r, 1, none⟩ = some (.int .i64 j) := cell_at HA.out 1
    have HM := hid (atOf_rd HA.out)
    have HJ := hid (And.intro hj hacc)
    have hj2 : j ≤ 1000000 := by omega
    have HU := hid (rawP_un s j hj)
    have HH1 := hid (has_c wr r s j f n HA.out hj (by omega) [92, 34, 34, 34])
    have HH2 := hid (fun W (h : RdAt W r s j f n) => has_c W r s j f n h HJ.out.1 (by have := HS.out; omega) [34, 34, 34])
    clear hacc
    go_wp2_with fail
    refine HH1.out.mono ?_
    rintro e w3 ⟨rfl, hf3⟩
    have H3 := hid (HA.out.stay hf3)
    have HF3 := hid (HF.out.trans (fr_no (S := (· = r)) hf3) (fun _ _ e => e))
    have HB3 := hid (HBd.out.stay hf3)
    have hBw : b ≤ w3.heap.size := by
      have := HF3.out.size
      rw [HBE.out]
      exact this
    have HBW := hid hBw
    clear hf3 k1 HH1 hBw
    cases he1 : hasP s j [92, 34, 34, 34] with
    | true =>
      as_aux_lemma =>
        have hroom := has_room he1 (by decide)
        have hroom2 : j + 4 ≤ s.length := hroom
        have HN := hid (show R = after (acc ++ [34, 34, 34]) (rawP s (j + 4)) by
          rw [HQ.out, HU.out, if_pos (show hasP s j eqqB = true from he1)]
          exact after_map acc qqqB (rawP s (j + 4)))
        have HWS := hid (wstr_c w3 b b acc [34, 34, 34] HB3.out (by have h1 : j ≤ s.length ∧ acc.length ≤ j := HJ.out; simp; omega) HBW.out)
        have HRO := hid hroom2
        clear he1 hroom hroom2
        go_wp2_with fail
        refine HWS.out.mono ?_
        rintro e w4 ⟨rfl, hb4, hbl4⟩
        have HF4 := hid (HF3.out.below2 hbl4 (by rw [HBE.out]; exact Nat.le_refl _))
        have H4 := hid (H3.out.keep (fr_below hbl4) (by have := HRB.out; show ¬ b ≤ r; omega))
        have HB4 := hid hb4
        have k1 : w4.cell? ⟨r, 1, none⟩ = some (.int .i64 j) := cell_at H4.out 1
        have kf : w4.frozen? ⟨r, 1, none⟩ = false := frozen_at H4.out 1
        have H5 := hid (show RdAt (w4.setCell ⟨r, 1, none⟩ (.int .i64 ((j : Int) + 4))) r s (j + 4) f n by have := RdAt.move H4.out (j + 4); simpa using this)
        have HF5 := hid (show Fr (· = r) w (w4.setCell ⟨r, 1, none⟩ (.int .i64 ((j : Int) + 4))) from HF4.out.trans (fr_set1 _ r 1 _) (fun _ _ e => e))
        have HB5 := hid (HB4.out.one (fr_set1 w4 r 1 (.int .i64 ((j : Int) + 4))) HRB.out)
        clear hb4 hbl4
        go_wp2_with fail
        go_roundw
        case measure =>
          have h1 : j + 4 ≤ s.length := HRO.out
          have h3 := HM.out
          have h4 := atOf_rd H5.out
          rw [h3, h4]
          omega
        have h1 : j ≤ s.length ∧ acc.length ≤ j := HJ.out
        exact ⟨j + 4, acc ++ [34, 34, 34], HRO.out, by simp; omega, H5, HN, HB5, HF5⟩
    | false =>
      have HE1 := hid he1
      clear he1
      go_wp2_with fail
      refine (HH2.out w3 H3.out).mono ?_
      rintro e w4 ⟨rfl, hf4⟩
      have H4 := hid (H3.out.stay hf4)
      have HF4 := hid (HF3.out.trans (fr_no (S := (· = r)) hf4) (fun _ _ e => e))
      have HB4 := hid (HB3.out.stay hf4)
      have hBw : b ≤ w4.heap.size := by
        have := HF4.out.size
        rw [HBE.out]
        exact this
      have HBW4 := hid hBw
      clear hf4 HH2 hBw
      cases he2 : hasP s j [34, 34, 34] with
      | true =>
        as_aux_lemma =>
          have hroom2 : j + 3 ≤ s.length := has_room he2 (by decide)
          have HN := hid (show blockS s i = some (blockP acc, j + 3) by
            have h1 : R = some (acc, j + 3) := by
              rw [HQ.out, HU.out, if_neg (by rw [show hasP s j eqqB = false from HE1.out]; decide), if_pos (show hasP s j qqqB = true from he2)]
              simp [after]
            rw [HRB0.out, h1]
            rfl)
          have k1 : w4.cell? ⟨r, 1, none⟩ = some (.int .i64 j) := cell_at H4.out 1
          have kf : w4.frozen? ⟨r, 1, none⟩ = false := frozen_at H4.out 1
          have H5 := hid (show RdAt (w4.setCell ⟨r, 1, none⟩ (.int .i64 ((j : Int) + 3))) r s (j + 3) f n by have := RdAt.move H4.out (j + 3); simpa using this)
          have HF5 := hid (show Fr (· = r) w (w4.setCell ⟨r, 1, none⟩ (.int .i64 ((j : Int) + 3))) from HF4.out.trans (fr_set1 _ r 1 _) (fun _ _ e => e))
          have HB5 := hid (HB4.out.one (fr_set1 w4 r 1 (.int .i64 ((j : Int) + 3))) HRB.out)
          have HST := hid (bstr_c (w4.setCell ⟨r, 1, none⟩ (.int .i64 ((j : Int) + 3))) b b acc HB5.out (by have h1 := (fr_set1 w4 r 1 (.int .i64 ((j : Int) + 3))).size; have h2 : b ≤ w4.heap.size := HBW4.out; omega))
          have hal : acc.length ≤ 1000000 := by have h1 : j ≤ s.length ∧ acc.length ≤ j := HJ.out; omega
          have HAL := hid hal
          clear he2 hroom2 hal
          go_wp2_with fail
          refine HST.out.mono ?_
          rintro e w6 ⟨rfl, hb6⟩
          have HF6 := hid (HF5.out.below2 hb6 (by rw [HBE.out]; exact Nat.le_refl _))
          have H6 := hid (H5.out.keep (fr_below hb6) (by have := HRB.out; show ¬ b ≤ r; omega))
          have HBK := hid (block_text_c w6 acc (HV.out.one HF6.out HRR.out) (Nat.le_trans HAL.out (by decide)) (fun l hl => Nat.le_trans (lines_le hl) (Nat.le_trans HAL.out (by decide))) (by have h1 := linesL_le acc; have h2 : acc.length ≤ 1000000 := HAL.out; omega) (block_le (Nat.le_trans HAL.out (by decide))))
          obtain ⟨BP, hBP⟩ : ∃ BP, BP = blockP acc := ⟨_, rfl⟩
          rw [← hBP] at HN HBK
          clear hb6 hBP
          go_wp2_with fail
          refine HBK.out.mono ?_
          rintro e w7 ⟨rfl, hf7⟩
          have HF7 := hid (HF6.out.trans (fr_no (S := (· = r)) hf7) (fun _ _ e => e))
          have H7 := hid (H6.out.stay hf7)
          clear hf7
          go_wp2_with fail
          go_ret
          refine ⟨HF7.out, fun l e he => ?_, fun he => (by rw [HN.out] at he; cases he)⟩
          rw [HN.out] at he
          injection he with he
          injection he with e1 e2
          subst e1 e2
          exact ⟨rfl, H7.out⟩
      | false =>
        have HU2 := hid (show R = after acc (match src (s.drop j) with | none => none | some (_, k) => (rawP s (j + k)).map fun q => ((s.drop j).take k ++ q.1, q.2)) by
          rw [HQ.out, HU.out, if_neg (by rw [show hasP s j eqqB = false from HE1.out]; decide), if_neg (by rw [show hasP s j qqqB = false from he2]; decide)]
          rcases src (s.drop j) with _ | ⟨a, b⟩ <;> rfl)
        have k1 : w4.cell? ⟨r, 1, none⟩ = some (.int .i64 j) := cell_at H4.out 1
        have HSC := hid (source_c w4 r s j f n H4.out (HV.out.one HF4.out HRR.out) hj (by have := HS.out; omega))
        clear he2
        go_wp2_with fail
        refine HSC.out.mono ?_
        rintro e w5 ⟨hf5, hnone, hsome⟩
        cases hsrc : src (s.drop j) with
        | none =>
          as_aux_lemma =>
            obtain ⟨rfl, h5⟩ := hnone hsrc
            have HN := hid (show blockS s i = none by rw [HRB0.out, HU2.out, hsrc]; rfl)
            have H5 := hid h5
            have HF5 := hid (HF4.out.trans hf5 (fun _ _ e => e))
            have HMU := hid (must_not w5 r s j f n H5.out 52)
            clear hnone hsome hsrc h5 hf5
            go_wp2_with fail
            refine HMU.out.mono ?_
            rintro e w6 ⟨rfl, rfl⟩
            go_wp2_with fail
            exact ⟨rfl, HF5.out, (fun l e he => by rw [HN.out] at he; cases he), fun _ => rfl⟩
        | some p =>
          obtain ⟨c, k⟩ := p
          obtain ⟨rfl, h5⟩ := hsome c k hsrc
          have H5 := hid h5
          have HF5 := hid (HF4.out.trans hf5 (fun _ _ e => e))
          have HB5 := hid (HB4.out.one hf5 HRB.out)
          have HN := hid (show R = after (acc ++ (s.drop j).take k) (rawP s (j + k)) by rw [HU2.out, hsrc]; exact after_map acc _ (rawP s (j + k)))
          have HK := hid (src_le hsrc)
          have hjk : j + k ≤ s.length := by have := (src_le hsrc).2.1; simp only [List.length_drop] at this; omega
          have hk4 : k ≤ 3 := (src_le hsrc).2.2
          have sl : ∀ W, (Instr.slice 9 (.string (bs s)) (some (.int .i64 (j : Int))) (some (.int .i64 ((j + k : Nat) : Int))) none).run Tryz.prog W = .ok (.string (bs ((s.drop j).take k))) W := fun W => by
            rw [slice_str 9 Tryz.underlying9 W s (j : Int) ((j + k : Nat) : Int) (by omega) (by omega) (by omega)]
            rw [show ((j : Int)).toNat = j by omega, show (((j + k : Nat) : Int)).toNat - j = k by omega]
          obtain ⟨q, hq⟩ : ∃ q, q = j + k := ⟨_, rfl⟩
          rw [← hq] at sl HN H5 hjk
          have hBw : b ≤ w5.drew.heap.size := by
            have := HF5.out.size
            rw [HBE.out]
            exact this
          have HPL : ((s.drop j).take k).length ≤ k := by simp; omega
          have HWS := hid (wstr_c w5.drew b b acc ((s.drop j).take k) (HB5.out.stay (Fr.refl _ w5).drew) (by have h1 : j ≤ s.length ∧ acc.length ≤ j := HJ.out; omega) hBw)
          have HLA := hid HPL
          have HMU := hid (must_c w5 r s q f n H5.out 52)
          obtain ⟨L, hL⟩ : ∃ L, L = (s.drop j).take k := ⟨_, rfl⟩
          rw [← hL] at HN HWS HLA sl
          have HQQ := hid hq
          have HJK := hid hjk
          have z0 : w5.cell? ⟨r, 0, none⟩ = some (.string (bs s)) := cell_at H5.out 0
          have z1 : w5.cell? ⟨r, 1, none⟩ = some (.int .i64 q) := cell_at H5.out 1
          have hq2 : q ≤ 1000000 := by omega
          clear hBw HPL hL hq hnone hsome hsrc h5 hf5 k1
          go_wp2_with fail
          refine HMU.out.mono ?_
          rintro e w6 ⟨rfl, hw6⟩
          rw [hw6]
          clear hw6
          go_upto_region 12 with fail
          go_region_held3 (fun w' => w'.cell? ⟨r, 0, none⟩ = some (.string (bs s)) ∧ w'.cell? ⟨r, 1, none⟩ = some (.int .i64 q) ∧ Fr (fun i => b ≤ i) w5 w')
            (first | exact ⟨z0, z1, (Fr.refl _ _).drew⟩ | exact ⟨cell_keep (by assumption) z0 (show ¬ b ≤ r by have := HRB.out; omega), cell_keep (by assumption) z1 (show ¬ b ≤ r by have := HRB.out; omega), by assumption⟩ | go_keep)
            (first
              | (go_at_call 16; refine HWS.out.mono ?_; rintro e w' ⟨rfl, hb', hbl'⟩; have HBZ := hid hb'; have hf' : Fr (fun i => b ≤ i) w5 w' := ((Fr.refl (fun i => b ≤ i) w5).drew).trans (fr_below hbl') (fun _ _ e => e)))
          rename_i hS
          have HA7 := hid (H5.out.keep hS.2.2 (by have := HRB.out; show ¬ b ≤ r; omega))
          have HF7 := hid (show Fr (· = r) w w' from HF5.out.trans hS.2.2 (fun i hi e => absurd hi (by have h0 : b = w.heap.size := HBE.out; have e : b ≤ i := e; omega)))
          clear hS z0 z1
          go_wp2_with fail
          go_roundw
          case measure =>
            have h1 : 1 ≤ k ∧ k ≤ (s.drop j).length ∧ k ≤ 3 := HK.out
            have h3 := HM.out
            have h4 : atOf r w' = q := atOf_rd HA7.out
            have h5 : q = j + k := HQQ.out
            have h6 : q ≤ s.length := HJK.out
            rw [h3, h4]
            omega
          have h1 : j ≤ s.length ∧ acc.length ≤ j := HJ.out
          have h5 : q = j + k := HQQ.out
          have h6 : L.length ≤ k := HLA.out
          exact ⟨q, acc ++ L, HJK.out, by rw [List.length_append]; omega, HA7, HN, HBZ, HF7⟩

end Go.Proofs.YtbmfmnkfdfdjbaaGreatDoor.D
