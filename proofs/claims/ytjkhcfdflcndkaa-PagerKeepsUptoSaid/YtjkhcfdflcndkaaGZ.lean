/-
  fixed: it is true. No condition.
-/
import Derived.Test.YtjkhcfdflcndkaaGY
namespace Go.Proofs.Ytjkhcfdflcndkaa.D
open Go.RowKit Go.Maps Go.Shelf
set_option linter.unusedVariables false
set_option linter.unusedSimpArgs false

theorem p0_ok : p0.Ok y0.n := (format_ok y0_ok 2 4 1).2.2 p0 y_f
theorem y1_ok : y1.Ok ∧ y1.n = y0.n := ⟨(format_ok y0_ok 2 4 1).1, (format_ok y0_ok 2 4 1).2.1⟩
theorem p1_ok : p1.Ok y0.n := alloc_ok p0_ok
theorem p2_ok : p2.Ok y0.n := alloc_ok p1_ok
theorem y2_ok : y2.Ok ∧ y2.n = y0.n := by
  have := pwrite_ok y1_ok.1 (P := p2) (by rw [y1_ok.2]; exact p2_ok) 0 [97]
  exact ⟨this.2.1, this.2.2.trans y1_ok.2⟩
theorem p3_ok : p3.Ok y0.n ∧ y3.Ok ∧ y3.n = y0.n := by
  have := commit_ok y2_ok.1 (P := p2) (by rw [y2_ok.2]; exact p2_ok) 0 5 [0]
  exact ⟨by rw [← y2_ok.2]; exact this.1, this.2.1, this.2.2.trans y2_ok.2⟩
theorem q0_ok : q0.Ok y0.n := by
  have := open_ok (S := y3) 2 4 q0 (by rw [y_o])
  rwa [p3_ok.2.2] at this

theorem fr_eq {w0 W W' : World} (h : Fr (fun _ => False) w0 W) (e : W' = W) : Fr (fun _ => False) w0 W' := e ▸ h

set_option maxHeartbeats 8000000 in
set_option maxRecDepth 100000 in
theorem fixed_c (w : World) : Calls Try.prog 9 #[] w fun e w' => e = .returned (.bool true) ∧ Fr (fun _ => False) w w' := by
  have hmk : (Instr.makeSlice 36 (.int .i64 2176) (.int .i64 2176)).run Try.prog w = .ok (.slice (some ⟨w.heap.size, 0, none⟩) 2176 2176) (w.alloc (.cells (bytesOf (zero 2176)).toArray 5)) := mkz 2176 (by omega) w
  have hms := mks 2176 w
  obtain ⟨Z, hZ⟩ : ∃ Z, Z = zero 2176 := ⟨_, rfl⟩
  have HN1 := hid (new_c (w.alloc (.cells (bytesOf (zero 2176)).toArray 5)) (zero 2176) y_isImage)
  have hf1 := hid (show Fr (fun _ => False) w (w.alloc (.cells (bytesOf (zero 2176)).toArray 5)) from (Fr.refl _ w).alloc _)
  rw [← hZ] at hmk hms HN1 hf1
  have hS := hid (show news Z = y0 by rw [hZ]; rfl)
  clear hZ
  go_enter Try.func9, Try.ntmps9
  go_wp2_with fail
  refine HN1.out.mono ?_
  rintro e w2 ⟨g, bm, rfl, hA2, hg2, hb2, hf2⟩
  rw [hS.out] at hA2
  have HA2 := hid hA2
  have HF2 := hid (hf1.out.trans hf2 (fun _ _ f => f))
  have HL2 := hid (And.intro (Nat.le_trans hf1.out.size hg2) (Nat.le_trans hf1.out.size hb2))
  clear hA2 hg2 hb2 hf2 hmk hms HN1 hf1
  have HFM := hid (pformat_c w2 g bm y0 HA2.out y0_ok 2 4 1 (by decide) (by decide))
  unfold PFmtC at HFM
  go_wp2_with fail
  refine HFM.out.mono ?_
  rintro e w3 ⟨hf3, h3, _⟩
  obtain ⟨p, ml, mt, bm3, rfl, hP3, l1, l2, l3, l4⟩ := h3 p0 y_f
  have HP3 := hid (show PW w w3 p g bm3 ml mt p0 y1 from by
    have h1 := HL2.out
    have h2 := HF2.out.size
    exact ⟨hP3, HF2.out.trans hf3 (fun i hi e => by omega), by omega⟩)
  clear hf3 h3 hP3 l1 l2 l3 l4
  have HCL := hid (clone_c w3 g bm3 y1 HP3.out.pd.da)
  go_wp2_with fail
  refine HCL.out.mono ?_
  rintro e w4 ⟨g4, bm4, rfl, hA4, l1, l2, hf4⟩
  have HP4 := hid (HP3.out.stay hf4)
  have HA4 := hid hA4
  have HFM4 := hid (pformat_c w4 g4 bm4 y1 hA4 y1_ok.1 2 5 1 (by decide) (by decide))
  unfold PFmtC at HFM4
  clear hA4 hf4
  have hl3 : p < w3.heap.size ∧ g < w3.heap.size ∧ bm3 < w3.heap.size ∧ ml < w3.heap.size ∧ mt < w3.heap.size := HP3.out.pd.lt
  have HL4 := hid (And.intro hl3 (And.intro l1 l2))
  clear hl3 l1 l2
  go_wp2_with fail
  refine HFM4.out.mono ?_
  rintro e w5 ⟨hf5, _, h5⟩
  have e5 : formatP y1 2 5 1 = (none, y1, 190) := by unfold formatP; rw [y_f5, if_pos (by decide)]
  rw [e5] at h5
  obtain ⟨rfl, _⟩ := h5 rfl
  have HP5 := hid (show PW w w5 p g bm3 ml mt p0 y1 from by
    have h1 := HL4.out
    have h2 := HP3.out.fr.size
    have h3 := HP4.out.pd
    refine ⟨⟨⟨hf5.at h3.pa.1 (by omega), h3.pa.2.1.keep hf5 (by omega), h3.pa.2.2.1.keep hf5 (by omega), h3.pa.2.2.2⟩, h3.da.beside HA4.out hf5 (by omega) (by omega), h3.n1, h3.n2⟩, HP4.out.fr.trans hf5 (fun i hi e => by omega), HP4.out.low⟩)
  clear hf5 h5
  have HRT := hid (fun (W : World) (h : PD W p g bm3 ml mt p0 y1) => show Calls Try.prog 24 #[.pointer (some ⟨p, 0, none⟩)] W fun e w' => e = .returned (.int .i64 (-1)) ∧ w' = W from root_c W p g ml mt p0 h.pa)
  have HFR := hid (fun (W : World) (h : PD W p g bm3 ml mt p0 y1) => show Calls Try.prog 25 #[.pointer (some ⟨p, 0, none⟩)] W fun e w' => e = .returned (.int .i64 1) ∧ w' = W from from_c W p g ml mt p0 h.pa)
  have HGN := hid (fun (W : World) (h : PD W p g bm3 ml mt p0 y1) => show Calls Try.prog 26 #[.pointer (some ⟨p, 0, none⟩)] W fun e w' => e = .returned (.int .i64 2) ∧ w' = W from gen_c W p g ml mt p0 h.pa)
  have HFE := hid (fun (W : World) (h : PD W p g bm3 ml mt p0 y1) => show Calls Try.prog 7 #[.pointer (some ⟨p, 0, none⟩)] W fun e w' => e = .returned (.int .i64 4) ∧ Fr (fun _ => False) W w' from by
    have := free_c W p g ml mt p0 h.pa (by decide)
    rwa [y_free0] at this)
  go_wp2_with fail
  refine (HRT.out _ HP5.out.pd).mono ?_
  rintro e w5a ⟨rfl, rfl⟩
  go_wp2_with fail
  refine (HFR.out _ HP5.out.pd).mono ?_
  rintro e w5b ⟨rfl, rfl⟩
  go_wp2_with fail
  refine (HGN.out _ HP5.out.pd).mono ?_
  rintro e w5c ⟨rfl, rfl⟩
  go_wp2_with fail
  refine (HFE.out _ HP5.out.pd).mono ?_
  rintro e w6 ⟨rfl, hf6⟩
  have HP6 := hid (HP5.out.stay hf6)
  clear hf6 HRT HFR HGN HFE
  have HAL := hid (show Calls Try.prog 6 #[.pointer (some ⟨p, 0, none⟩)] w6 fun e w' => e = .returned (.tuple #[.int .i64 0, .int .i64 0]) ∧ PD w' p g bm3 ml mt p1 y1 ∧ Fr (fun i => i = mt) w6 w' from by
    have := palloc_c w6 p g bm3 ml mt p0 y1 HP6.out.pd (by rw [y1_ok.2]; exact p0_ok)
    rwa [y_a0] at this)
  go_wp2_with fail
  refine HAL.out.mono ?_
  rintro e w7 ⟨rfl, hd7, hf7⟩
  have HP7 := hid (HP6.out.mturn hd7 hf7)
  clear hd7 hf7 HAL
  have HAL := hid (show Calls Try.prog 6 #[.pointer (some ⟨p, 0, none⟩)] w7 fun e w' => e = .returned (.tuple #[.int .i64 1, .int .i64 0]) ∧ PD w' p g bm3 ml mt p2 y1 ∧ Fr (fun i => i = mt) w7 w' from by
    have := palloc_c w7 p g bm3 ml mt p1 y1 HP7.out.pd (by rw [y1_ok.2]; exact p1_ok)
    rwa [y_a1] at this)
  go_wp2_with fail
  refine HAL.out.mono ?_
  rintro e w8 ⟨rfl, hd8, hf8⟩
  have HP8 := hid (HP7.out.mturn hd8 hf8)
  clear hd8 hf8 HAL
  have HW := hid (show Calls Try.prog 12 #[.pointer (some ⟨p, 0, none⟩), .int .i64 0, .string (bs [97])] w8 fun e w' => e = .returned (.int .i64 0) ∧ PTurn w8 w' p g bm3 ml mt p2 y2 from by
    have := pwrite_c w8 p g bm3 ml mt p2 y1 HP8.out.pd 0 [97] y1_ok.1 (by rw [y1_ok.2]; exact p2_ok) (by decide) (by decide) (by decide)
    unfold PWriteC at this
    rw [y_w0, y_w0p] at this
    exact this)
  go_wp2_with fail
  refine HW.out.mono ?_
  rintro e w9 ⟨rfl, ht9⟩
  obtain ⟨bm9, ml9, hp9⟩ := HP8.out.turn ht9
  have HP9 := hid hp9
  clear ht9 hp9 HW
  have HW := hid (show Calls Try.prog 12 #[.pointer (some ⟨p, 0, none⟩), .int .i64 2, .string (bs [97])] w9 fun e w' => e = .returned (.int .i64 191) ∧ PTurn w9 w' p g bm9 ml9 mt p2 y2 from by
    have := pwrite_c w9 p g bm9 ml9 mt p2 y2 HP9.out.pd 2 [97] y2_ok.1 (by rw [y2_ok.2]; exact p2_ok) (by decide) (by decide) (by decide)
    unfold PWriteC at this
    rw [y_w2] at this
    exact this)
  go_wp2_with fail
  refine HW.out.mono ?_
  rintro e w10 ⟨rfl, ht10⟩
  obtain ⟨bm10, ml10, hp10⟩ := HP9.out.turn ht10
  have HP10 := hid hp10
  clear ht10 hp10 HW
  have hf11 := (Fr.refl (fun _ => False) w10).alloc (.cells #[.int .i64 0] 3)
  have HP11 := hid (HP10.out.stay hf11)
  have HCM := hid (show Calls Try.prog 14 #[.pointer (some ⟨p, 0, none⟩), .int .i64 0, .int .i64 5, .slice (some ⟨w10.heap.size, 0, none⟩) 1 1] (w10.alloc (.cells #[.int .i64 0] 3)) fun e w' => e = .returned (.int .i64 0) ∧ PTurn (w10.alloc (.cells #[.int .i64 0] 3)) w' p g bm10 ml10 mt p3 y3 from by
    have := pcommit_c _ p g bm10 ml10 mt p2 y2 HP11.out.pd 0 5 (.slice (some ⟨w10.heap.size, 0, none⟩) 1 1) [0] y2_ok.1 (by rw [y2_ok.2]; exact p2_ok) ((ints_new w10 [0] (by decide)).toV) (by decide) (by decide) (by decide)
    unfold PCommitC at this
    rw [y_c] at this
    exact this)
  clear hf11
  go_wp2_with fail
  refine HCM.out.mono ?_
  rintro e w12 ⟨rfl, ht12⟩
  obtain ⟨bm12, ml12, hp12⟩ := HP11.out.turn ht12
  have HP12 := hid hp12
  clear ht12 hp12 HCM
  have HW := hid (show Calls Try.prog 12 #[.pointer (some ⟨p, 0, none⟩), .int .i64 0, .string (bs [98])] w12 fun e w' => e = .returned (.int .i64 191) ∧ PTurn w12 w' p g bm12 ml12 mt p3 y3 from by
    have := pwrite_c w12 p g bm12 ml12 mt p3 y3 HP12.out.pd 0 [98] p3_ok.2.1 (by rw [p3_ok.2.2]; exact p3_ok.1) (by decide) (by decide) (by decide)
    unfold PWriteC at this
    rw [y_wb] at this
    exact this)
  go_wp2_with fail
  refine HW.out.mono ?_
  rintro e w13 ⟨rfl, ht13⟩
  obtain ⟨bm13, ml13, hp13⟩ := HP12.out.turn ht13
  have HP13 := hid hp13
  clear ht13 hp13 HW
  obtain ⟨L, hL, hL1, hL2⟩ := y_r
  have HRD := hid (show Calls Try.prog 27 #[.pointer (some ⟨p, 0, none⟩), .int .i64 0] w13 fun e w' => e = .returned (.tuple #[.string (bs L), .int .i64 0]) ∧ Fr (fun _ => False) w13 w' from by
    have := pread_c w13 p g ml13 mt bm13 p3 y3 HP13.out.pd.pa HP13.out.pd.da p3_ok.2.1 (by rw [p3_ok.2.2]; exact p3_ok.1) 0
    rwa [hL] at this)
  clear hL
  go_wp2_with fail
  refine HRD.out.mono ?_
  rintro e w14 ⟨rfl, hf14⟩
  have HP14 := hid (HP13.out.stay hf14)
  clear hf14 HRD
  have HOP := hid (popen_c w14 g bm13 y3 HP14.out.pd.da p3_ok.2.1 2 4 (by decide) (by decide))
  unfold POpenC at HOP
  have hz : (bs L).size = 512 := by simp [bs, ByteArray.size, hL1]
  have g0 := at_bs L 0 (by omega)
  rw [hL2] at g0
  go_wp2_with fail
  refine HOP.out.mono ?_
  rintro e w15 ⟨hf15, h15, _⟩
  have e15 : (openP y3 2 4).1 = some q0 := by rw [y_o]
  obtain ⟨pq, mlq, mtq, rfl, hq15, l1, l2, l3⟩ := h15 q0 e15
  have HQ := hid hq15
  have HP15 := hid (HP14.out.stay hf15)
  clear hf15 h15 e15 hq15 l1 l2 l3 HOP
  have HRT := hid (show Calls Try.prog 24 #[.pointer (some ⟨pq, 0, none⟩)] w15 fun e w' => e = .returned (.int .i64 0) ∧ w' = w15 from root_c w15 pq g mlq mtq q0 HQ.out.pa)
  have HFR := hid (show Calls Try.prog 25 #[.pointer (some ⟨pq, 0, none⟩)] w15 fun e w' => e = .returned (.int .i64 5) ∧ w' = w15 from from_c w15 pq g mlq mtq q0 HQ.out.pa)
  have HGN := hid (show Calls Try.prog 26 #[.pointer (some ⟨pq, 0, none⟩)] w15 fun e w' => e = .returned (.int .i64 3) ∧ w' = w15 from gen_c w15 pq g mlq mtq q0 HQ.out.pa)
  have HFE := hid (show Calls Try.prog 7 #[.pointer (some ⟨p, 0, none⟩)] w15 fun e w' => e = .returned (.int .i64 3) ∧ Fr (fun _ => False) w15 w' from by
    have := free_c w15 p g ml13 mt p3 HP15.out.pd.pa p3_ok.1.p2
    rwa [y_free3] at this)
  have HFQ := hid (fun (W : World) (hf : Fr (fun _ => False) w15 W) => show Calls Try.prog 7 #[.pointer (some ⟨pq, 0, none⟩)] W fun e w' => e = .returned (.int .i64 4) ∧ Fr (fun _ => False) W w' from by
    have := free_c W pq g mlq mtq q0 (HQ.out.stay hf).pa q0_ok.p2
    rwa [y_freeq] at this)
  go_wp2_with fail
  refine HRT.out.mono ?_
  rintro e w15a ⟨rfl, rfl⟩
  go_wp2_with fail
  refine HFR.out.mono ?_
  rintro e w15b ⟨rfl, rfl⟩
  go_wp2_with fail
  refine HGN.out.mono ?_
  rintro e w15c ⟨rfl, rfl⟩
  go_wp2_with fail
  refine HFE.out.mono ?_
  rintro e w16 ⟨rfl, hf16⟩
  have HFQ2 := hid (HFQ.out w16 hf16)
  have HF16 := hid (HP15.out.fr.trans hf16 (fun _ _ f => f))
  clear hf16
  go_wp2_with fail
  refine HFQ2.out.mono ?_
  rintro e w17 ⟨rfl, hf17⟩
  have HF17 := hid (HF16.out.trans hf17 (fun _ _ f => f))
  clear hf17
  go_wp2_with fail
  go_ret
  exact ⟨rfl, HF17.out⟩

end Go.Proofs.Ytjkhcfdflcndkaa.D
