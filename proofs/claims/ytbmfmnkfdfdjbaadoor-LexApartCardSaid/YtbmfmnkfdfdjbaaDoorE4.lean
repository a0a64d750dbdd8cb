/-
  LexApart: the walk. No condition but the library's variables as laid.
-/
import Derived.Test.YtbmfmnkfdfdjbaaDoorT7
import Derived.Test.YtbmfmnkfdfdjbaaDoorE0
namespace Go.Proofs.YtbmfmnkfdfdjbaaDoor.D
open Go.RowKit Go.Shelf
set_option linter.unusedVariables false
set_option linter.unusedSimpArgs false

theorem row_at (n : Nat) : ∀ (L : List Tok) (i k : Nat) (t : Tok), Row n i L → L[k]? = some t → (if k = 0 then i else ((L.map (·.e)).getD (k - 1) 0)) ≤ t.a ∧ t.a < t.e ∧ t.e ≤ n
  | [], i, k, t, h, hk => by simp at hk
  | x :: L, i, 0, t, h, hk => by
    simp at hk
    subst hk
    exact ⟨h.1, h.2.1, h.2.2.1⟩
  | x :: L, i, 1, t, h, hk => by
    have := row_at n L x.e 0 t h.2.2.2 (by simpa using hk)
    simpa using this
  | x :: L, i, k + 2, t, h, hk => by
    have := row_at n L x.e (k + 1) t h.2.2.2 (by simpa using hk)
    rw [if_neg (by omega)] at this ⊢
    simpa using this
/-- Where the tokens ahead of the k-th end. -/
def endOf (L : List Tok) (k : Nat) : Nat := if k = 0 then 0 else ((L.map (·.e)).getD (k - 1) 0)
theorem endOf_succ {L : List Tok} {k : Nat} {t : Tok} (h : L[k]? = some t) : endOf L (k + 1) = t.e := by
  unfold endOf
  rw [if_neg (by omega)]
  simp [List.getD_eq_getElem?_getD, h]
theorem join_succ {s : List UInt8} {L : List Tok} {k : Nat} {t : Tok} (h : L[k]? = some t) : joinB s (L.take (k + 1)) = joinB s (L.take k) ++ (cut s t.a t.e ++ [32]) := by
  have hk : k < L.length := (List.getElem?_eq_some_iff.1 h).1
  have e : L.take (k + 1) = L.take k ++ [t] := by rw [List.take_add_one, h]; rfl
  rw [e]
  simp [joinB]
theorem join_len (s : List UInt8) : ∀ (L : List Tok) (i : Nat), Row s.length i L → (joinB s L).length ≤ s.length - i + L.length
  | [], i, h => by simp [joinB]
  | t :: L, i, h => by
    have ih := join_len s L t.e h.2.2.2
    have hc : (cut s t.a t.e).length = t.e - t.a := cut_len (by have := h.2.1; omega) h.2.2.1
    have e : joinB s (t :: L) = (cut s t.a t.e ++ [32]) ++ joinB s L := by simp [joinB]
    rw [e]
    simp only [List.length_append, List.length_cons, List.length_nil]
    have h1 := h.1
    have h2 := h.2.1
    have h3 := h.2.2.1
    omega
theorem row_take (n : Nat) : ∀ (L : List Tok) (i k : Nat), Row n i L → Row n i (L.take k)
  | [], i, k, h => by simp [Row]
  | x :: L, i, 0, h => by simp [Row]
  | x :: L, i, k + 1, h => ⟨h.1, h.2.1, h.2.2.1, row_take n L x.e k h.2.2.2⟩
theorem row_le (n : Nat) {L : List Tok} {i : Nat} (hi : i ≤ n) (h : Row n i L) (k : Nat) (hk : k ≤ L.length) : (if k = 0 then i else ((L.map (·.e)).getD (k - 1) 0)) ≤ n := by
  split
  · exact hi
  · obtain ⟨t, ht⟩ : ∃ t, L[k - 1]? = some t := ⟨_, List.getElem?_eq_getElem (by omega)⟩
    have := row_at n L i (k - 1) t h ht
    simp [List.getD_eq_getElem?_getD, ht]
    omega
set_option maxHeartbeats 4000000 in
set_option maxRecDepth 100000 in
theorem apart_law (w : World) (s : List UInt8) (hs : s.length ≤ 140737488355328) (hV : Vars w) (h2 : 2 < w.heap.size) :
    Calls Tryd.prog 4 #[.string (bs s)] w fun e w' => e = .returned (.bool true) ∧ Fr (fun _ => False) w w' := by
  have hzs := size_bs s
  have HT := hid (fun (W : World) (hf : Fr (fun _ => False) w W) (s : List UInt8) => tokens_c W s (hV.stay hf) (Nat.lt_of_lt_of_le h2 hf.size))
  have HFX := hid (fun (W : World) (hf : Fr (fun _ => False) w W) => fixed_c W (hV.stay hf) (Nat.lt_of_lt_of_le h2 hf.size))
  have HT1 := hid (HT.out w (Fr.refl _ w) s)
  clear hV h2
  go_enter Tryd.func4, Tryd.ntmps4
  go_wp2_with fail
  refine HT1.out.mono ?_
  intro e w2 hp
  obtain ⟨v1, j1, c1, rfl, hf1, hr1⟩ := tks_any hp
  have HF1 := hid hf1
  have HFX1 := hid (HFX.out w2 hf1)
  clear hp hf1 HT1
  rcases hr1 with ⟨L, hL, rfl, rfl, hv1⟩ | ⟨hE, rfl⟩
  · obtain ⟨p1, n1, rfl⟩ := hv1.lenv
    have HL := hid hL
    have hs6 := (lexP_iff.1 hL).1
    have hl1 := (lexP_iff.1 hL).2.2
    have HROW := hid (lexP_iff.1 hL).2.1.row
    have HTKS := hid (lexP_iff.1 hL).2.1.toks
    obtain ⟨n, hn⟩ : ∃ x, x = L.length := ⟨_, rfl⟩
    have HN := hid hn
    have HV1 := hid (show Toks w2 w.heap.size (.slice p1 n n1) L from hn ▸ hv1)
    rw [← hn] at hl1 ⊢
    clear hn hv1 hL HFX
    go_wp2_with fail
    refine HFX1.out.mono ?_
    rintro e w3 ⟨rfl, hf3⟩
    have HF3 := hid (HF1.out.trans hf3 (fun _ _ f => f))
    have HV3 := hid (HV1.out.stay hf3)
    obtain ⟨w4, hw4⟩ : ∃ w4, w4 = w3.alloc (.cells #[] 5) := ⟨_, rfl⟩
    have hf4 : Fr (fun _ => False) w3 w4 := hw4 ▸ (Fr.refl _ w3).alloc _
    have HF4 := hid (HF3.out.trans hf4 (fun _ _ f => f))
    have hr4 : Rw w4 w3.heap.size (.slice (some ⟨w3.heap.size, 0, none⟩) 0 0) [] := hw4 ▸ rw_new w3
    have HW4 := hid hw4
    obtain ⟨g0, hg0⟩ : ∃ g, g = w3.heap.size := ⟨_, rfl⟩
    rw [← hg0] at hr4
    have HR4 := hid hr4
    have HG0 := hid hg0
    have HTV := hid HV3.out.tv
    have HF34 := hid hf4
    clear hf3 hf4 hw4 hr4 hg0 HFX1
    go_wp2_with fail
    rw [← HW4.out, ← HG0.out]
    clear HW4
    go_loopw [6, 7, 8] (fun v6 v7 v8 wx => ∃ (i g c m : Nat), v8 = .int .i64 i ∧ i ≤ n ∧ v7 = .slice (some ⟨g, 0, none⟩) m c ∧ v6 = .int .i64 (endOf L i : Nat) ∧ Hid (m = (joinB s (L.take i)).length) ∧ Hid True ∧ Hid (Rw wx g0 (.slice (some ⟨g, 0, none⟩) m c) (joinB s (L.take i))) ∧ Hid (Fr (fun _ => False) w3 wx)) (fun _ _ v _ => n - (intOf v).toNat)
    case atStart => exact ⟨0, g0, 0, 0, rfl, by omega, rfl, rfl, hid rfl, hid trivial, HR4, HF34⟩
    case round =>
      obtain ⟨i, g, c, m, rfl, hi, rfl, rfl, HM, HX, HR, HF⟩ := hrel
      have hBL := join_len s (L.take i) 0 (row_take _ L 0 i HROW.out)
      by_cases hin : i < n
      · have hiL : i < L.length := by have := HN.out; omega
        obtain ⟨t, ht⟩ : ∃ t, L[i]? = some t := ⟨_, List.getElem?_eq_getElem hiL⟩
        obtain ⟨r1, r2, r3⟩ := row_at s.length L 0 i t HROW.out ht
        obtain ⟨A1, cp, hA1, hcp, hA2⟩ := HTV.out
        injection hA1 with e1 e2 e3
        obtain ⟨gt, o, rfl, hgt⟩ := hA2.resolve_left (by rintro rfl; simp at hiL)
        subst e1 e3
        have HTC := hid ((hgt i t ht).stay HF.out)
        obtain ⟨a0, a1, a2, a3⟩ := HTC.out
        rw [Nat.mul_comm] at a0 a1 a2 a3
        have HTK := hid ht
        have HTT := hid (HTKS.out t (List.mem_of_getElem? ht))
        have r1 : endOf L i ≤ t.a := r1
        obtain ⟨E, hE⟩ : ∃ E, E = endOf L i := ⟨_, rfl⟩
        rw [← hE] at r1 ⊢
        have HIN := hid hin
        have HKN := hid (show i + 1 ≤ n from hin)
        have hcp' : n ≤ n1 := by have := HN.out; omega
        have HCP := hid hcp'
        have hin' : (i : Int) < (n : Int) := by omega
        have hml : m ≤ 18432 := by
          have h1 := HM.out
          have h2 : (L.take i).length = i := by rw [List.length_take]; omega
          omega
        obtain ⟨tk, tl, ta, te⟩ := t
        simp only at r1 r2 r3 a0 a1 a2 a3
        obtain ⟨w5, hw5⟩ : ∃ w5, w5 = wr.alloc (.cells #[.int .i64 tk, .string (bs tl), .int .i64 (ta : Int), .int .i64 (te : Int)] 32) := ⟨_, rfl⟩
        have hf5 : Fr (fun _ => False) wr w5 := hw5 ▸ (Fr.refl _ wr).alloc _
        have hG5 : w5.heap[wr.heap.size]? = some (.cells #[.int .i64 tk, .string (bs tl), .int .i64 (ta : Int), .int .i64 (te : Int)] 32) := by rw [hw5]; exact Array.getElem?_push_size
        obtain ⟨g5, hg5⟩ : ∃ g, g = wr.heap.size := ⟨_, rfl⟩
        rw [← hg5] at hG5
        have HG5 := hid hG5
        have HF5 := hid (HF.out.trans hf5 (fun _ _ f => f))
        have HR5 := hid (HR.out.stay hf5)
        have HW5 := hid hw5
        have HGE := hid hg5
        have HTC5 := hid (HTC.out.stay hf5)
        clear hgt ht hiL hA2 e2 hcp hE hf5 hG5 hw5 hg5 hBL
        go_upto_region 12 with fail
        rw [← HW5.out, ← HGE.out]
        have z2 : w5.cell? ⟨g5, 2, none⟩ = some (.int .i64 (ta : Int)) := cell_at HG5.out 2
        have z3 : w5.cell? ⟨g5, 3, none⟩ = some (.int .i64 (te : Int)) := cell_at HG5.out 3
        have k1 : decide ((ta : Int) < (E : Int)) = false := by simp; omega
        have k2 : decide ((te : Int) ≤ (ta : Int)) = false := by simp; omega
        have k3 : decide ((s.length : Int) < (te : Int)) = false := by simp; omega
        have sl1 : ∀ W, (Instr.slice 9 (.string (bs s)) (some (.int .i64 (ta : Int))) (some (.int .i64 (te : Int))) none).run Tryd.prog W = .ok (.string (bs (cut s ta te))) W := fun W => by
          rw [slice_str 9 Tryd.underlying9 W s (ta : Int) (te : Int) (by omega) (by omega) (by omega)]
          rw [show ((ta : Int)).toNat = ta by omega, show ((te : Int)).toNat = te by omega]
          rfl
        have HCL := hid (show (cut s ta te).length = te - ta from cut_len (by omega) r3)
        have HAL := hid (alone HTT.out.1 HTT.out.2)
        have hcat1 : bs (cut s ta te) ++ ({ data := #[32] } : ByteArray) = bs (cut s ta te ++ [32]) := addBs _ [32]
        have hce : (cut s ta te).length ≤ 16384 := by have := HCL.out; omega
        have HCE := hid hce
        have hzc := size_bs (cut s ta te)
        have HRR := hid (And.intro r2 r3)
        clear HW5 HGE a0 a1 a2 a3
        by_cases h60 : i < 60
        · have h60' : (i : Int) < 60 := by omega
          as_aux_lemma =>
            have HTA := hid (HT.out w5 (HF3.out.trans HF5.out (fun _ _ f => f)) (cut s ta te))
            have HLP := hid (show lexP (cut s ta te) = .ok [⟨tk, tl, 0, te - ta⟩] from lexP_iff.2 ⟨hce, HAL.out, by simp⟩)
            clear hcat1 hce
            go_wp2_with fail
            refine HTA.out.mono ?_
            intro e w6 hp
            obtain ⟨v6, rfl, hv6, hf6⟩ := tks_ok hp HLP.out
            obtain ⟨A6, n6, rfl, hn6, hA6⟩ := hv6
            have HV6 := hid (show TV w6 (.slice A6 1 n6) [⟨tk, tl, 0, te - ta⟩] from ⟨A6, n6, rfl, hn6, hA6⟩)
            have HF6 := hid hf6
            have HT6 := hid ((HTC5.out.stay hf6))
            have hnk : (0 : Int) ≤ (i : Int) := by omega
            have hnk1 : (i : Int) ≤ (i : Int) + 1 := by omega
            have hnk2 : (i : Int) + 1 ≤ (n1 : Int) := by have := HKN.out; omega
            clear hp hf6 hA6 hn6 HTA
            go_wp2_with fail
            have HAK := hid (alike_c w6 _ _ _ _ HV6.out (TV.one (c := n1 - i) HT6.out (by have := HKN.out; have := HCP.out; omega)) (by simp) (by simp))
            rw [Nat.mul_comm 4 i] at HAK
            rw [show alikeB [⟨tk, tl, 0, te - ta⟩] [⟨tk, tl, ta, te⟩] = true from alike_al.2 rfl] at HAK
            refine HAK.out.mono ?_
            rintro e w8 ⟨rfl, hf8⟩
            have HF58 := hid (HF6.out.trans hf8 (fun _ _ f => f))
            clear hf8 HAK
            have hcat1 : bs (cut s ta te) ++ ({ data := #[32] } : ByteArray) = bs (cut s ta te ++ [32]) := addBs _ [32]
            have hce := HCE.out
            go_upto_region 19 with fail
            obtain ⟨v7, w7, hrun7, hr7, hf7⟩ := append_str w8 g0 _ (joinB s (L.take i)) (cut s ta te ++ [32]) (HR5.out.stay HF58.out) (by rw [← HM.out]; have := HCL.out; simp only [List.length_append, List.length_cons, List.length_nil]; omega) (by rw [HG0.out]; exact Nat.le_trans HF5.out.size HF58.out.size)
            have HF7 := hid (show Fr (fun _ => False) w3 w7 from (HF5.out.trans HF58.out (fun _ _ f => f)).trans hf7 (fun k hk e => by have h1 := ((HR5.out.stay HF58.out).own e).1; have h2 := HG0.out; omega))
            have hl7 : (joinB s (L.take i) ++ (cut s ta te ++ [32])).length = m + ((te - ta) + 1) := by rw [List.length_append, ← HM.out, List.length_append, HCL.out]; rfl
            obtain ⟨g7, c7, hv7⟩ := hr7.2
            rw [hl7] at hv7
            subst hv7
            have HM7 := hid (show m + ((te - ta) + 1) = (joinB s (L.take (i + 1))).length by rw [join_succ HTK.out]; exact hl7.symm)
            have HR7 := hid (show Rw w7 g0 (.slice (some ⟨g7, 0, none⟩) (m + ((te - ta) + 1)) c7) (joinB s (L.take (i + 1))) from by rw [join_succ HTK.out]; exact hr7)
            have HRUN := hid hrun7
            clear hrun7 hr7 hf7 hl7
            have y2 : (w8).cell? ⟨g5, 2, none⟩ = some (.int .i64 (ta : Int)) := cells_stay2 HF58.out z2
            have y3 : (w8).cell? ⟨g5, 3, none⟩ = some (.int .i64 (te : Int)) := cells_stay2 HF58.out z3
            go_wp2_with (at_builtin; refine Lib.wpList_append_run _ rfl _ _ _ _ rfl _ _ rfl rfl _ _ HRUN.out ?_)
            go_roundw
            case measure => have := HKN.out; simp [intOf]; omega
            exact ⟨i + 1, g7, c7, m + ((te - ta) + 1), by go_num, HKN.out, rfl, by rw [endOf_succ HTK.out], HM7, hid trivial, HR7, HF7⟩
        · have h60' : decide ((i : Int) < 60) = false := by simp; omega
          as_aux_lemma =>
            go_upto_region 19 with fail
            obtain ⟨v7, w7, hrun7, hr7, hf7⟩ := append_str w5 g0 _ (joinB s (L.take i)) (cut s ta te ++ [32]) (HR5.out.stay (Fr.refl _ w5)) (by rw [← HM.out]; have := HCL.out; simp only [List.length_append, List.length_cons, List.length_nil]; omega) (by rw [HG0.out]; exact HF5.out.size)
            have HF7 := hid (show Fr (fun _ => False) w3 w7 from (HF5.out.trans (Fr.refl _ w5) (fun _ _ f => f)).trans hf7 (fun k hk e => by have h1 := ((HR5.out.stay (Fr.refl _ w5)).own e).1; have h2 := HG0.out; omega))
            have hl7 : (joinB s (L.take i) ++ (cut s ta te ++ [32])).length = m + ((te - ta) + 1) := by rw [List.length_append, ← HM.out, List.length_append, HCL.out]; rfl
            obtain ⟨g7, c7, hv7⟩ := hr7.2
            rw [hl7] at hv7
            subst hv7
            have HM7 := hid (show m + ((te - ta) + 1) = (joinB s (L.take (i + 1))).length by rw [join_succ HTK.out]; exact hl7.symm)
            have HR7 := hid (show Rw w7 g0 (.slice (some ⟨g7, 0, none⟩) (m + ((te - ta) + 1)) c7) (joinB s (L.take (i + 1))) from by rw [join_succ HTK.out]; exact hr7)
            have HRUN := hid hrun7
            clear hrun7 hr7 hf7 hl7
            have y2 : (w5).cell? ⟨g5, 2, none⟩ = some (.int .i64 (ta : Int)) := cells_stay2 (Fr.refl _ w5) z2
            have y3 : (w5).cell? ⟨g5, 3, none⟩ = some (.int .i64 (te : Int)) := cells_stay2 (Fr.refl _ w5) z3
            go_wp2_with (at_builtin; refine Lib.wpList_append_run _ rfl _ _ _ _ rfl _ _ rfl rfl _ _ HRUN.out ?_)
            go_roundw
            case measure => have := HKN.out; simp [intOf]; omega
            exact ⟨i + 1, g7, c7, m + ((te - ta) + 1), by go_num, HKN.out, rfl, by rw [endOf_succ HTK.out], HM7, hid trivial, HR7, HF7⟩
      · have hie : i = n := by omega
        subst hie
        have hLt : L.take i = L := by rw [HN.out]; exact List.take_length
        rw [hLt] at HM HR
        rw [hLt, ← HN.out] at hBL
        have hml : m ≤ 18432 := by have := HM.out; omega
        have hcv := HR.out.conv
        by_cases hb6 : 16384 < m
        · have hb6' : (16384 : Int) < (m : Int) := by omega
          as_aux_lemma =>
            go_wp2_with fail
            go_ret
            exact ⟨rfl, HF3.out.trans HF.out (fun _ _ f => f)⟩
        · have hb6' : decide ((16384 : Int) < (m : Int)) = false := by simp; omega
          obtain ⟨M, hM1, hM2⟩ := joined (lexP_iff.1 HL.out).2.1 []
          have HLP := hid (show lexP (joinB s L) = .ok M from lexP_iff.2 ⟨by have := HM.out; omega, hM1, by have := hM2.len; have := HN.out; omega⟩)
          have HAL := hid hM2
          have HTS := hid (HT.out wr (HF3.out.trans HF.out (fun _ _ f => f)) (joinB s L))
          clear hM1 hM2 hBL hLt
          as_aux_lemma =>
            obtain ⟨b, hb⟩ : ∃ b, b = joinB s L := ⟨_, rfl⟩
            rw [← hb] at HLP HTS hcv
            clear hb
            go_wp2_with fail
            refine HTS.out.mono ?_
            intro e w6 hp
            obtain ⟨hf6, h6, _⟩ := hp
            obtain ⟨v6, rfl, hv6⟩ := h6 M HLP.out
            obtain ⟨p6, n6, rfl⟩ := hv6.lenv
            have HF6 := hid ((HF3.out.trans HF.out (fun _ _ f => f)).trans hf6 (fun _ _ f => f))
            have HAK := hid (alike_c w6 _ _ M L hv6.tv ((HTV.out.stay HF.out).stay hf6) (by have := HAL.out.len; have := HN.out; omega) (by have := HN.out; omega))
            rw [alike_al.2 HAL.out] at HAK
            clear h6 hv6 hf6 HTS
            go_wp2_with fail
            refine HAK.out.mono ?_
            rintro e w7 ⟨rfl, hf7⟩
            have HF7 := hid (HF6.out.trans hf7 (fun _ _ f => f))
            clear hf7 HAK
            go_wp2_with fail
            go_ret
            exact ⟨rfl, HF7.out⟩
  · have hc := lexP_err hE
    have q4 : (c1 != 0) = true := by simp; omega
    clear hc hE
    as_aux_lemma =>
      go_wp2_with fail
      refine HFX1.out.mono ?_
      rintro e w4 ⟨rfl, hf4⟩
      have HF4 := hid (HF1.out.trans hf4 (fun _ _ f => f))
      clear hf4 HFX1
      go_wp2_with fail
      go_ret
      exact ⟨rfl, HF4.out⟩

end Go.Proofs.YtbmfmnkfdfdjbaaDoor.D
