/-
  The document's stands: it is what stands ahead. No condition beyond the sizes that are named.
-/
import Derived.Test.YthmnchemfigneaaGreatV2
namespace Go.Proofs.YthmnchemfigneaaGreat.D
open Go.RowKit Go.Maps Go.Shelf
set_option linter.unusedVariables false
set_option linter.unusedSimpArgs false

theorem piece_take (a : List UInt8) (m j : Nat) (h : j < m) : piece (a.take (64 * m)) j = piece a j := by
  simp only [piece]
  rw [List.drop_take, List.take_take, Nat.min_eq_left (by omega)]
theorem ahead_piece {a : List UInt8} {n : Nat} {r : List UInt8} (h : ahead a n = some r) (j : Nat) (hj : j < many r.length) : piece a j = one n (many r.length) r j := by
  obtain ⟨_, _, _, h4, _⟩ := ahead_some h
  rw [← piece_take a (many r.length) j hj, ← h4, secsOf_piece n r j hj]
theorem told_piece (a : List UInt8) : told a = val (((piece a 0).drop 10).take 2) := by
  unfold told piece
  simp only [Nat.mul_zero, List.drop_zero]
  rw [List.drop_take, List.take_take]
  rfl
theorem ahead_told {a : List UInt8} {n : Nat} {r : List UInt8} (h : ahead a n = some r) : told a = many r.length := by
  have h1 := (ahead_some h).2.2.1
  have h2 : many r.length ≤ 342 := by unfold many; omega
  rw [told_piece, ahead_piece h 0 (many_pos _), one_many, val_be]
  exact Nat.mod_eq_of_lt (by omega)
def long (a : List UInt8) (j : Nat) : Nat := val (((piece a j).drop 12).take 2)
theorem ahead_long {a : List UInt8} {n : Nat} {r : List UInt8} (h : ahead a n = some r) (j : Nat) (hj : j < many r.length) : long a j ≤ 48 := by
  have hp := part_len r j
  unfold long
  rw [ahead_piece h j hj, one_long, val_be]
  exact Nat.le_trans (Nat.mod_le _ _) (by omega)
theorem ahead_none_small {a : List UInt8} {n : Nat} (h : told a < 1) : ahead a n = none := by
  cases e : ahead a n with
  | none => rfl
  | some r => have := ahead_told e; have := many_pos r.length; omega
theorem ahead_none_long {a : List UInt8} {n : Nat} (h : a.length < 64 * told a) : ahead a n = none := by
  cases e : ahead a n with
  | none => rfl
  | some r => have := ahead_told e; have := (ahead_some e).2.2.2.2; omega
theorem ahead_none_over {a : List UInt8} {n : Nat} (j : Nat) (hj : j < told a) (h : 48 < long a j) : ahead a n = none := by
  cases e : ahead a n with
  | none => rfl
  | some r => have h1 := ahead_told e; have := ahead_long e j (by omega); omega
theorem ahead_none_short {a : List UInt8} {n : Nat} (h : a.length < 64) : ahead a n = none := by
  unfold ahead; rw [if_pos (Or.inl h)]
/-- What stands ahead, where all numbers of the first sector fit. -/
theorem ahead_fits {a : List UInt8} {n : Nat} (h64 : ¬ a.length < 64) (h1 : ¬ told a < 1) (h2 : ¬ a.length < 64 * told a) :
    ahead a n = if (cat (body a) (told a)).length ≤ 16384 ∧ 64 * many (cat (body a) (told a)).length = 64 * told a ∧ a.take (64 * many (cat (body a) (told a)).length) = secsOf n (cat (body a) (told a)) then some (cat (body a) (told a)) else none := by
  by_cases hc : (cat (body a) (told a)).length ≤ 16384 ∧ 64 * many (cat (body a) (told a)).length = 64 * told a ∧ a.take (64 * many (cat (body a) (told a)).length) = secsOf n (cat (body a) (told a))
  · rw [if_pos hc]
    obtain ⟨c1, c2, c3⟩ := hc
    have hm : (a.drop 14).take 2 = [82, 87] := by
      have e1 : (a.drop 14).take 2 = ((piece a 0).drop 14).take 2 := by
        unfold piece
        simp only [Nat.mul_zero, List.drop_zero]
        rw [List.drop_take, List.take_take]
        rfl
      rw [e1, ← piece_take a (many (cat (body a) (told a)).length) 0 (many_pos _), c3, secsOf_piece _ _ _ (many_pos _), one_mark]
    unfold ahead
    rw [if_neg (fun h => h.elim h64 (fun h => h hm))]
    have e2 : val ((a.drop 10).take 2) = told a := rfl
    simp only [e2]
    rw [if_neg h2]
    exact if_pos ⟨c1, by omega, c3.symm⟩
  · rw [if_neg hc]
    cases e : ahead a n with
    | none => rfl
    | some r =>
      exfalso
      apply hc
      have hm := (ahead_some e).2.1
      have e0 := e
      unfold ahead at e
      rw [if_neg (fun h => h.elim h64 (fun h => h hm))] at e
      have e2 : val ((a.drop 10).take 2) = told a := rfl
      simp only [e2] at e
      rw [if_neg h2] at e
      have e3 : (List.range (told a)).flatMap (body a) = cat (body a) (told a) := rfl
      rw [e3] at e
      split at e
      · rename_i hh
        injection e with e
        have ht := ahead_told e0
        rw [← e] at ht
        exact ⟨hh.1, by omega, hh.2.2.symm⟩
      · cases e

def sres (o : Option (List UInt8)) : List UInt8 × Bool := match o with | some r => (r, true) | none => ([], false)

set_option maxHeartbeats 4000000 in
set_option maxRecDepth 100000 in
theorem stands_c (w : World) (a : List UInt8) (n : Nat) (ha : a.length ≤ 262144) (h1n : 1 ≤ n) (hn : n ≤ 1152921504606846976) :
    Calls Tryz.prog 69 #[.string (bs a), .int .i64 n] w fun e w' => e = .returned (.tuple #[.string (bs (sres (ahead a n)).1), .bool (sres (ahead a n)).2]) ∧ Fr (fun _ => False) w w' := by
  have hz : (bs a).size = a.length := by simp [bs, ByteArray.size]
  obtain ⟨R, hR⟩ : ∃ R, R = sres (ahead a n) := ⟨_, rfl⟩
  rw [← hR]
  have HR := hid hR
  obtain ⟨NI, hNI⟩ : ∃ NI : Int, NI = (n : Int) := ⟨_, rfl⟩
  rw [← hNI]
  have HNI := hid hNI
  have HN := hid hn
  clear hR hNI hn
  by_cases h64 : a.length < 64
  · have HE := hid (show R = ([], false) by rw [HR.out, ahead_none_short h64]; rfl)
    rw [HE.out]
    go_enter Tryz.func69, Tryz.ntmps69
    go_wp2_with fail
    go_ret2
    exact ⟨rfl, Fr.refl _ _⟩
  have hs2 := slice_bs (P := Tryz.prog) 9 Tryz.underlying9 w a 10 12 (by omega) (by omega) 10 12 rfl rfl
  obtain ⟨k, hk⟩ : ∃ k, k = told a := ⟨_, rfl⟩
  have hk2 : k < 65536 := by rw [hk]; exact val2 _
  obtain ⟨Kb, hKb⟩ : ∃ Kb, Kb = (a.drop 10).take (12 - 10) := ⟨_, rfl⟩
  rw [← hKb] at hs2
  have HSM := hid (show ∀ w, Calls Tryz.prog 68 #[.string (bs Kb)] w fun e w' => e = .returned (.int .u64 (k : Int)) ∧ w = w' from fun w => by
    refine (value_c w Kb (by rw [hKb, List.length_take]; omega)).mono ?_
    rintro e w' ⟨rfl, rfl⟩
    exact ⟨by rw [show val Kb = k by rw [hk, hKb]; rfl], rfl⟩)
  have HK := hid hk
  clear hKb hk
  by_cases hk1 : k < 1
  · have HE := hid (show R = ([], false) by rw [HR.out, ahead_none_small (by rw [← HK.out]; exact hk1)]; rfl)
    rw [HE.out]
    go_enter Tryz.func69, Tryz.ntmps69
    go_wp2_with (go_at_call 68; refine (HSM.out _).mono ?_; rintro e w' ⟨rfl, rfl⟩)
    go_ret2
    exact ⟨rfl, Fr.refl _ _⟩
  by_cases hlong : a.length < 64 * k
  · have HE := hid (show R = ([], false) by rw [HR.out, ahead_none_long (by rw [← HK.out]; exact hlong)]; rfl)
    rw [HE.out]
    go_enter Tryz.func69, Tryz.ntmps69
    go_wp2_with (go_at_call 68; refine (HSM.out _).mono ?_; rintro e w' ⟨rfl, rfl⟩)
    go_ret2
    exact ⟨rfl, Fr.refl _ _⟩
  have HR2 := hid (show R = sres (if (cat (body a) k).length ≤ 16384 ∧ 64 * many (cat (body a) k).length = 64 * k ∧ a.take (64 * many (cat (body a) k).length) = secsOf n (cat (body a) k) then some (cat (body a) k) else none) by
    rw [HR.out, ahead_fits h64 (by rw [← HK.out]; exact hk1) (by rw [← HK.out]; exact hlong), ← HK.out])
  obtain ⟨i0, hi, hz0, hz1, hz2⟩ := info_parts (show (Tryz.prog.info? 5).map (fun i => (i.zero, i.size, i.bytes)) = some (some (.int .u8 0), 1, 1) by kernel_rfl)
  have HZ := hid hz
  have HO0 := hid (World.ownsRow_made (base := w.heap.size) (e := 5) (size := 1) w #[] 0 (Nat.le_refl _) (Nat.zero_le _) (by simp))
  have HBe := hid (show Below w.heap.size w (w.alloc (.cells #[] 5)) from (Below.refl _ w).alloc (Nat.le_refl _) _)
  have hlong' : 64 * k ≤ a.length := by omega
  clear hlong hz
  go_enter Tryz.func69, Tryz.ntmps69
  go_wp2_with (first | fail | (go_at_call 68; refine (HSM.out _).mono ?_; rintro e w' ⟨rfl, rfl⟩))
  go_loopw [7, 8] (fun v i wr => ∃ (j g cap : Nat), i = .int .i64 j ∧ j ≤ k ∧ v = .slice (some ⟨g, 0, none⟩) (cat (body a) j).length cap ∧
      Hid (wr.ownsRow w.heap.size 5 1 (.slice (some ⟨g, 0, none⟩) (cat (body a) j).length cap) (cat (body a) j).length (bytesOf (cat (body a) j))) ∧ Hid (Below w.heap.size w wr)) (fun _ i _ => k - (intOf i).toNat)
  case atStart => exact ⟨0, w.heap.size, 0, rfl, by omega, rfl, HO0, HBe⟩
  case round =>
    obtain ⟨j, g, cap, rfl, hj, rfl, HO, HW⟩ := hrel
    have hbl : w.heap.size ≤ wr.heap.size := HW.out.size
    by_cases hend : j = k
    · subst hend
      obtain ⟨B, hB⟩ : ∃ B, B = cat (body a) j := ⟨_, rfl⟩
      rw [← hB] at HO
      have hHR2 := HR2.out
      rw [← hB] at hHR2 ⊢
      have HR3 := hid hHR2
      have hback := own_str (n := 0) HO.out
      have hBl : B.length ≤ 48 * j := by rw [hB]; exact cat_len _ 48 j (fun i _ => body_len a i)
      have hzB : (bs B).size = B.length := by simp [bs, ByteArray.size]
      have HF := hid (below_fr HW.out (Nat.le_refl _))
      have HSC := hid (fun W : World => rsectors_c W NI B (by omega))
      clear hHR2 hB HR2
      have hsr : secsR NI B = if 16384 < B.length then ([], 181) else (secsOf n B, 0) := by
        have := HNI.out
        have := HN.out
        unfold secsR
        rw [if_neg (by omega), show NI.toNat = n by omega]
      have HSR := hid hsr
      clear hsr
      by_cases hl : 16384 < B.length
      · have HE := hid (show R = ([], false) by rw [HR3.out, if_neg (by omega)]; rfl)
        have HS2 := hid (fun W : World => show Calls Tryz.prog 40 #[.int .i64 NI, .string (bs B)] W fun e w' => e = .returned (.tuple #[.string (bs []), .int .i64 181]) ∧ Fr (fun _ => False) W w' by
          have := HSC.out W; rwa [HSR.out, if_pos hl] at this)
        clear hl
        go_wp2_with (go_at_call 40; refine (HS2.out _).mono ?_; rintro e w5 ⟨rfl, hf5⟩)
        go_ret2
        rw [HE.out]
        exact ⟨rfl, HF.out.trans hf5 (fun _ _ f => f)⟩
      · obtain ⟨T, hT⟩ : ∃ T, T = secsOf n B := ⟨_, rfl⟩
        have hTl : T.length = 64 * many B.length := by rw [hT, secsOf_len]
        have hml : many B.length ≤ 342 := by unfold many; omega
        have HS2 := hid (fun W : World => show Calls Tryz.prog 40 #[.int .i64 NI, .string (bs B)] W fun e w' => e = .returned (.tuple #[.string (bs T), .int .i64 0]) ∧ Fr (fun _ => False) W w' by
          have := HSC.out W; rwa [HSR.out, if_neg hl, ← hT] at this)
        have hR4 : R = sres (if T.length = 64 * j ∧ a.take T.length = T then some B else none) := by
          rw [HR3.out, ← hT, hTl]
          by_cases h : 64 * many B.length = 64 * j ∧ a.take (64 * many B.length) = T
          · rw [if_pos h, if_pos ⟨by omega, h⟩]
          · rw [if_neg h, if_neg (fun x => h x.2)]
        have hzT : (bs T).size = T.length := by simp [bs, ByteArray.size]
        have hT2 : T.length ≤ 100000 := by omega
        have HR4 := hid hR4
        clear hT hTl hml hR4 HR3
        by_cases hTj : T.length = 64 * j
        · obtain ⟨U, hU⟩ : ∃ U, U = a.take T.length := ⟨_, rfl⟩
          have hs5 : ∀ w, (Instr.slice 9 (.string (bs a)) none (some (.int .i64 (T.length : Int))) none).run Tryz.prog w = .ok (.string (bs U)) w := fun w => by
            have := slice_to (P := Tryz.prog) 9 Tryz.underlying9 w a (T.length : Int) (by omega) (by omega)
            rwa [Int.toNat_natCast, ← hU] at this
          have q5 : ((T.length : Int) != 64 * (j : Int)) = false := by simp; omega
          by_cases hUT : U = T
          · have HE := hid (show R = (B, true) by rw [HR4.out, if_pos ⟨hTj, by rw [← hU]; exact hUT⟩]; rfl)
            have qq : (U == T) = true := by simpa using hUT
            have q6 : (!U == T) = false := by rw [qq]; rfl
            clear hU hUT hTj HR4
            go_wp2_with (go_at_call 40; refine (HS2.out _).mono ?_; rintro e w5 ⟨rfl, hf5⟩; have hback5 := own_str (n := 0) (own_stay HO.out hf5))
            go_ret2
            rw [HE.out]
            exact ⟨rfl, HF.out.trans hf5 (fun _ _ f => f)⟩
          · have HE := hid (show R = ([], false) by rw [HR4.out, if_neg (fun x => hUT (by rw [hU]; exact x.2))]; rfl)
            have qq : (U == T) = false := by simpa using hUT
            have q6 : (!U == T) = true := by rw [qq]; rfl
            clear hU hUT hTj HR4
            go_wp2_with (go_at_call 40; refine (HS2.out _).mono ?_; rintro e w5 ⟨rfl, hf5⟩)
            go_ret2
            rw [HE.out]
            exact ⟨rfl, HF.out.trans hf5 (fun _ _ f => f)⟩
        · have HE := hid (show R = ([], false) by rw [HR4.out, if_neg (fun x => hTj x.1)]; rfl)
          have q5 : ((T.length : Int) != 64 * (j : Int)) = true := by simp; omega
          clear hTj HR4
          go_wp2_with (go_at_call 40; refine (HS2.out _).mono ?_; rintro e w5 ⟨rfl, hf5⟩)
          go_ret2
          rw [HE.out]
          exact ⟨rfl, HF.out.trans hf5 (fun _ _ f => f)⟩
    · have hj' : j < k := by omega
      have hlen := cat_len (body a) 48 j (fun i _ => body_len a i)
      obtain ⟨S, hS⟩ : ∃ S, S = piece a j := ⟨_, rfl⟩
      have hSl : S.length = 64 := by rw [hS]; simp only [piece, List.length_take, List.length_drop]; omega
      have hs6 := slice_bs (P := Tryz.prog) 9 Tryz.underlying9 wr a (64 * j) (64 * j + 64) (by omega) (by omega) (64 * (j : Int)) (64 * (j : Int) + 64) (by omega) (by omega)
      rw [show (a.drop (64 * j)).take (64 * j + 64 - 64 * j) = S by rw [hS]; simp [piece]] at hs6
      have hs7 := slice_bs (P := Tryz.prog) 9 Tryz.underlying9 wr S 12 14 (by omega) (by omega) 12 14 rfl rfl
      obtain ⟨V, hV⟩ : ∃ V, V = (S.drop 12).take (14 - 12) := ⟨_, rfl⟩
      rw [← hV] at hs7
      obtain ⟨v2, hv2⟩ : ∃ v2, v2 = long a j := ⟨_, rfl⟩
      have hv3 : v2 < 65536 := by rw [hv2]; exact val2 _
      have HSV := hid (show Calls Tryz.prog 68 #[.string (bs V)] wr fun e w' => e = .returned (.int .u64 (v2 : Int)) ∧ wr = w' from by
        refine (value_c wr V (by rw [hV, List.length_take]; omega)).mono ?_
        rintro e w' ⟨rfl, rfl⟩
        exact ⟨by rw [hv2, hV, hS]; rfl, rfl⟩)
      by_cases hov : 48 < v2
      · have HE := hid (show R = ([], false) by rw [HR.out, ahead_none_over j (by rw [← HK.out]; exact hj') (by rw [← hv2]; exact hov)]; rfl)
        have HF := hid (below_fr HW.out (Nat.le_refl _))
        clear hS hV hv2 hend
        go_wp2_with (go_at_call 68; refine HSV.out.mono ?_; rintro e w' ⟨rfl, rfl⟩)
        go_ret2
        rw [HE.out]
        exact ⟨rfl, HF.out⟩
      · obtain ⟨y, hy⟩ : ∃ y, y = body a j := ⟨_, rfl⟩
        have hs8 := slice_bs (P := Tryz.prog) 9 Tryz.underlying9 wr S 16 (16 + v2) (by omega) (by omega) 16 (16 + (v2 : Int)) rfl (by omega)
        rw [show (S.drop 16).take (16 + v2 - 16) = y by
          have e1 : min 48 (val (((piece a j).drop 12).take 2)) = v2 := by
            have : v2 = val (((piece a j).drop 12).take 2) := hv2
            omega
          rw [hy, show 16 + v2 - 16 = v2 by omega, hS]
          unfold body
          rw [e1]] at hs8
        have hyl : y.length ≤ 48 := by rw [hy]; exact body_len a j
        have hz : (bs y).size = y.length := by simp [bs, ByteArray.size]
        obtain ⟨v', w2, hrun, hown2, hgr2, hnil⟩ := Lib.run_append_own_string (P := Tryz.prog) wr w.heap.size 54 9 54 5 i0 Tryz.underlying54 Tryz.underlying9 hi hz0 hz1 hz2
          (.slice (some ⟨g, 0, none⟩) (cat (body a) j).length cap) (cat (body a) j).length (bytesOf (cat (body a) j)) HO.out (bs y) (by rw [hz]; unfold maxLen; omega) (by rw [hz]; omega) hbl
        have HW2 := hid (HW.out.grown hgr2 hbl (fun b hb => (HO.out.lt b hb).1))
        have e1 : cat (body a) (j + 1) = cat (body a) j ++ y := by rw [cat_succ, hy]
        have e2 : (cat (body a) (j + 1)).length = (cat (body a) j).length + (bs y).size := by rw [e1, hz]; simp
        have e3 : bytesOf (cat (body a) (j + 1)) = bytesOf (cat (body a) j) ++ Lib.strCells (bs y) := by rw [e1]; simp [bytesOf, Lib.strCells]
        have E := hid (And.intro e2 e3)
        obtain ⟨a', cap', rfl⟩ : ∃ a' cap', v' = .slice (some ⟨a', 0, none⟩) ((cat (body a) j).length + (bs y).size) cap' := by
          rcases hown2.2 with ⟨h0, h1⟩ | ⟨b', cap2, cur, h0, _⟩
          · exact absurd (hnil.1 h0).1 (by simp)
          · exact ⟨_, _, h0⟩
        have HO2 := hid hown2
        have HRUN := hid hrun
        clear hend e1 hy hown2 hgr2 e2 e3 hnil hz hv2 hV hS hrun HR2
        go_wp2_with (first
          | (go_at_call 68; refine HSV.out.mono ?_; rintro e w' ⟨rfl, rfl⟩)
          | (at_builtin; refine Lib.wpList_append_run _ rfl _ _ _ _ rfl _ _ rfl rfl _ _ HRUN.out ?_))
        obtain ⟨e2, e3⟩ := E.out
        refine ⟨⟨j + 1, a', cap', by go_num, by omega, by rw [e2]; simp [bs, ByteArray.size], hid (by rw [e2, e3]; exact HO2.out), HW2⟩, by simp [intOf]; omega⟩

end Go.Proofs.YthmnchemfigneaaGreat.D
