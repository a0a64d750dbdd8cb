/-
  The document's Lines: the walk. No condition beyond the sizes that are named.
-/
import Derived.Test.YtbmfmnkfdfdjbaaGreatDoorB2
import Derived.Test.YtbmfmnkfdfdjbaaGreatDoorM0
namespace Go.Proofs.YtbmfmnkfdfdjbaaGreatDoor.D
open Go.RowKit Go.Shelf
set_option linter.unusedVariables false
set_option linter.unusedSimpArgs false

set_option maxRecDepth 100000 in
theorem rat_c (w : World) (s : List UInt8) (i : Nat) (hi : i ≤ 1100001) (hs : s.length ≤ 1100000) :
    Calls Tryz.prog 26 #[.string (bs s), .int .i64 i] w fun e w' => e = .returned (.int .u8 (pk s i).toNat) ∧ w' = w := by
  have hz := size_bs s
  by_cases h : i < s.length
  · have hx : ∀ w, (Instr.index 9 (.string (bs s)) (.int .i64 (i : Int))).run Tryz.prog w = .ok (.int .u8 ((pk s i).toNat : Int)) w := fun w => idx_bs _ Tryz.underlying9 w s _ i rfl h
    have h' : decide ((s.length : Int) ≤ (i : Int)) = false := by simp; omega
    obtain ⟨v, hv⟩ : ∃ v : Int, v = ((pk s i).toNat : Int) := ⟨_, rfl⟩
    rw [← hv] at hx ⊢
    clear hv
    go_enter Tryz.func26, Tryz.ntmps26
    go_wp2_with fail
    go_ret
    exact ⟨rfl, rfl⟩
  · have hp : pk s i = 0 := by simp [pk, List.getD_eq_getElem?_getD, List.getElem?_eq_none (show s.length ≤ i by omega)]
    have h' : (s.length : Int) ≤ (i : Int) := by omega
    rw [hp]
    go_enter Tryz.func26, Tryz.ntmps26
    go_wp2_with fail
    go_ret
    exact ⟨rfl, rfl⟩

/-- A slice of the call's own that holds these texts. -/
def Sw (w : World) (B : Nat) (v : Value) (L : List (List UInt8)) : Prop := w.ownsRow B 9 1 v L.length (L.map fun l => Value.string (bs l)) ∧ ∃ g cap, v = .slice (some ⟨g, 0, none⟩) L.length cap
theorem Sw.own {w : World} {B : Nat} {v : Value} {L : List (List UInt8)} (h : Sw w B v L) {i : Nat} (hi : v.ownBlock = some i) : B ≤ i := by
  rcases h.1.2 with ⟨rfl, _⟩ | ⟨g, cap, cur, rfl, h2, h3, _⟩
  · cases hi
  · have : g = i := by simpa [Value.ownBlock] using hi
    subst this
    exact h2
theorem Sw.keep {A : Nat → Prop} {w w' : World} {B : Nat} {v : Value} {L : List (List UInt8)} (h : Sw w B v L) (hf : Fr A w w') (hA : ∀ i, B ≤ i → ¬ A i) : Sw w' B v L := by
  refine ⟨⟨h.1.1, ?_⟩, h.2⟩
  rcases h.1.2 with h0 | ⟨g, cap, cur, h1, h2, h3, h4⟩
  · exact Or.inl h0
  · exact Or.inr ⟨g, cap, cur, h1, h2, hf.at h3 (hA g h2), h4⟩
theorem Sw.stay {w w' : World} {B : Nat} {v : Value} {L : List (List UInt8)} (h : Sw w B v L) (hf : Fr (fun _ => False) w w') : Sw w' B v L := h.keep hf (fun _ _ f => f)
theorem sw_new (W : World) : Sw (W.alloc (.cells #[] 9)) W.heap.size (.slice (some ⟨W.heap.size, 0, none⟩) 0 0) [] :=
  ⟨World.ownsRow_lit (e := 9) (size := 1) (base := W.heap.size) W #[] 0 (Nat.le_refl _) (by unfold maxLen; omega) rfl, _, _, rfl⟩
theorem append_line (W : World) (B : Nat) (v : Value) (L : List (List UInt8)) (l : List UInt8) (h : Sw W B v L) (hl : L.length < 4000000) (hB : B ≤ W.heap.size) :
    ∃ v' W', (Builtin.append_ #[31, 31] 31 #[v, .slice (some ⟨W.heap.size, 0, none⟩) 1 1]).run Tryz.prog (W.alloc (.cells #[.string (bs l)] 9)) = .ok v' W' ∧ Sw W' B v' (L ++ [l]) ∧ Fr (fun i => v.ownBlock = some i) W W' := by
  obtain ⟨i0, hi, hz0, hz1, hz2⟩ := info_parts (show (Tryz.prog.info? 9).map (fun i => (i.zero, i.size, i.bytes)) = some (some (.string ByteArray.empty), 1, 16) by kernel_rfl)
  obtain ⟨W1, hW1⟩ : ∃ W1, W1 = W.alloc (.cells #[.string (bs l)] 9) := ⟨_, rfl⟩
  have hF0 : Fr (fun _ => False) W W1 := hW1 ▸ (Fr.refl _ W).alloc _
  have hG : W1.heap[W.heap.size]? = some (.cells #[.string (bs l)] 9) := by rw [hW1]; exact Array.getElem?_push_size
  rw [← hW1]
  obtain ⟨v', w2, hrun, hown2, hgr2, hnil⟩ := run_append_own (P := Tryz.prog) W1 B 31 31 9 i0 _ 1 16 Tryz.underlying31 hi hz0 hz1 hz2 rfl (by decide)
    v L.length (L.map fun l => Value.string (bs l)) (h.stay hF0).1 ⟨W.heap.size, 0, none⟩ 1 1 [.string (bs l)] rfl (by
      intro j u hu
      have e1 : (⟨W.heap.size, 0, none⟩ : Addr).add j = ⟨W.heap.size, j, none⟩ := by unfold Addr.add; split <;> simp_all
      rw [e1, cell_at hG]
      simpa using hu) (by
      intro u hu
      simp at hu
      subst hu
      rfl) (by unfold maxLen; omega) (by omega) (by have := hF0.size; omega)
  have e : (L.map fun l => Value.string (bs l)) ++ [.string (bs l)] = (L ++ [l]).map fun l => Value.string (bs l) := by simp
  rw [e, show L.length + 1 = (L ++ [l]).length by simp] at hown2
  refine ⟨v', w2, hrun, ⟨hown2, ?_⟩, (fr_no hF0).trans ⟨hgr2.os, hgr2.tape, hgr2.output, hgr2.size, fun i hi hn => hgr2.block i hi (fun e => hn (by simpa using e.symm))⟩ (fun i _ e => e)⟩
  rcases hown2.2 with ⟨_, e⟩ | ⟨g, cap, cur, e, _⟩
  · simp at e
  · exact ⟨g, cap, e⟩

theorem docL_ne : ∀ (N : Nat) (s : List UInt8), s.length ≤ N → docL s ≠ []
  | N, [], h => by simp [docL]
  | 0, b :: t, h => by simp at h
  | N + 1, b :: t, h => by
    by_cases hrn : b = 13 ∧ t.head? = some 10
    · obtain ⟨rfl, ht⟩ := hrn
      cases t with
      | nil => cases ht
      | cons a t =>
        simp at ht
        subst ht
        rw [docL_rn]
        simp
    · rw [docL_c hrn]
      split
      · simp
      · cases docL t with
        | nil => simp [addHead]
        | cons x xs => simp [addHead]
theorem addHead_nil {L : List (List UInt8)} (h : L ≠ []) : addHead [] L = L := by
  cases L with
  | nil => exact absurd rfl h
  | cons x xs => rfl
theorem addHead_two (a b : List UInt8) (L : List (List UInt8)) : addHead a (addHead b L) = addHead (a ++ b) L := by
  cases L with
  | nil => rfl
  | cons x xs => simp [addHead]
theorem docL_len : ∀ (N : Nat) (s : List UInt8), s.length ≤ N → (docL s).length ≤ s.length + 1
  | N, [], h => by simp [docL]
  | 0, b :: t, h => by simp at h
  | N + 1, b :: t, h => by
    simp at h
    by_cases hrn : b = 13 ∧ t.head? = some 10
    · obtain ⟨rfl, ht⟩ := hrn
      cases t with
      | nil => cases ht
      | cons a t =>
        simp at ht
        subst ht
        simp at h
        rw [docL_rn]
        have := docL_len N t (by omega)
        simp
        omega
    · rw [docL_c hrn]
      have := docL_len N t h
      split
      · simp; omega
      · cases hd : docL t with
        | nil => simp [addHead]
        | cons x xs => rw [hd] at this; simp [addHead] at this ⊢; omega
/-- The text from place a to place b. -/
def mid (s : List UInt8) (a b : Nat) : List UInt8 := (s.drop a).take (b - a)
theorem mid_self (s : List UInt8) (a : Nat) : mid s a a = [] := by simp [mid]
theorem mid_succ {s : List UInt8} {a b : Nat} (h1 : a ≤ b) (h : b < s.length) : mid s a (b + 1) = mid s a b ++ [pk s b] := by
  unfold mid
  rw [show b + 1 - a = (b - a) + 1 by omega, List.take_add_one]
  congr 1
  rw [List.getElem?_drop, show a + (b - a) = b by omega, List.getElem?_eq_getElem h]
  simp [pk, List.getD_eq_getElem?_getD, h]
theorem mid_end {s : List UInt8} {a : Nat} : mid s a s.length = s.drop a := by
  unfold mid
  rw [List.take_of_length_le (by simp)]

set_option maxRecDepth 100000 in
set_option maxHeartbeats 4000000 in
theorem rlines_c (w : World) (s : List UInt8) (hs : s.length ≤ 1100000) :
    Calls Tryz.prog 13 #[.string (bs s)] w fun e w' => ∃ v, e = .returned v ∧ Sw w' w.heap.size v (docL s) ∧ Fr (fun _ => False) w w' := by
  have hz := size_bs s
  obtain ⟨B, hB⟩ : ∃ b, b = w.heap.size := ⟨_, rfl⟩
  obtain ⟨w1, hw1⟩ : ∃ w1, w1 = w.alloc (.cells #[] 9) := ⟨_, rfl⟩
  have HR1 := hid (show Sw w1 B (.slice (some ⟨B, 0, none⟩) 0 0) [] from by rw [hw1, hB]; exact sw_new w)
  have HF1 := hid (show Fr (fun _ => False) w w1 from hw1 ▸ (Fr.refl _ w).alloc _)
  have HBE := hid hB
  have HW := hid hw1
  rw [← hB]
  clear hB hw1
  go_enter Tryz.func13, Tryz.ntmps13
  go_wp2_with fail
  rw [← HW.out, ← HBE.out]
  clear HW
  go_loopw [3, 4, 5] (fun v3 v4 v5 wx => ∃ (i f : Nat) (acc : List (List UInt8)) (g c m : Nat), v5 = .int .i64 i ∧ v4 = .int .i64 f ∧ v3 = .slice (some ⟨g, 0, none⟩) m c ∧ f ≤ i ∧ i ≤ s.length ∧ m ≤ i ∧ Hid (m = acc.length) ∧ Hid (Sw wx B (.slice (some ⟨g, 0, none⟩) m c) acc) ∧ Hid (docL s = acc ++ addHead (mid s f i) (docL (s.drop i))) ∧ Hid (Fr (fun _ => False) w wx)) (fun _ _ v _ => s.length - (intOf v).toNat)
  case atStart => exact ⟨0, 0, [], B, 0, 0, rfl, rfl, rfl, by omega, by omega, by omega, hid rfl, HR1, hid (by rw [mid_self]; exact (addHead_nil (docL_ne _ _ (Nat.le_refl _))).symm), HF1⟩
  case round =>
    obtain ⟨i, f, acc, g, c, m, rfl, rfl, rfl, hf, hi, hm, HM, HR, HQ, HF⟩ := hrel
    have hBw : B ≤ wr.heap.size := by have := HF.out.size; rw [HBE.out]; exact this
    by_cases hd : i < s.length
    · have hx : ∀ w, (Instr.index 9 (.string (bs s)) (.int .i64 (i : Int))).run Tryz.prog w = .ok (.int .u8 ((pk s i).toNat : Int)) w := fun w => idx_bs _ Tryz.underlying9 w s _ i rfl hd
      have hd' : (i : Int) < (s.length : Int) := by omega
      have HI := hid (And.intro hd (And.intro hf hm))
      have HDR := hid (cons_pk hd)
      have HNE := hid (docL_ne _ (s.drop (i + 1)) (Nat.le_refl _))
      have HAT := hid (show ∀ W, Calls Tryz.prog 26 #[.string (bs s), .int .i64 ((i : Int) + 1)] W fun e w' => e = .returned (.int .u8 (pk s (i + 1)).toNat) ∧ w' = W from fun W => rat_c W s (i + 1) (by omega) hs)
      have e10 := byte_eq (pk s i) 10
      have e13 := byte_eq (pk s i) 13
      have f10 := byte_eq (pk s (i + 1)) 10
      rw [show ((10 : UInt8).toNat : Int) = 10 by rfl] at e10 f10
      rw [show ((13 : UInt8).toNat : Int) = 13 by rfl] at e13
      by_cases hnl : pk s i = 10 ∨ pk s i = 13
      · -- a line's end
        have sl : ∀ W, (Instr.slice 9 (.string (bs s)) (some (.int .i64 (f : Int))) (some (.int .i64 (i : Int))) none).run Tryz.prog W = .ok (.string (bs (mid s f i))) W := fun W => by
          rw [slice_str 9 Tryz.underlying9 W s (f : Int) (i : Int) (by omega) (by omega) (by omega)]
          rw [Int.toNat_natCast, Int.toNat_natCast]
          rfl
        obtain ⟨v7, w7, hrun7, hr7, hf7⟩ := append_line wr B _ acc (mid s f i) HR.out (by have := HM.out; omega) hBw
        have HF7 := hid (HF.out.trans hf7 (fun k hk e => by have := HR.out.own e; have := HBE.out; omega))
        obtain ⟨g7, c7, hv7⟩ := hr7.2
        have hl7 : (acc ++ [mid s f i]).length = m + 1 := by rw [List.length_append, ← HM.out]; rfl
        rw [hl7] at hv7
        subst hv7
        have HR7 := hid (show Sw w7 B (.slice (some ⟨g7, 0, none⟩) (m + 1) c7) (acc ++ [mid s f i]) from hr7)
        have HM7 := hid (show m + 1 = (acc ++ [mid s f i]).length from hl7.symm)
        have HRUN := hid hrun7
        obtain ⟨x, hx0⟩ : ∃ x, x = mid s f i := ⟨_, rfl⟩
        rw [← hx0] at sl HRUN HR7 HM7 HQ
        obtain ⟨z0, hz0⟩ : ∃ z : Int, z = ((pk s i).toNat : Int) := ⟨_, rfl⟩
        obtain ⟨z1, hz1⟩ : ∃ z : Int, z = ((pk s (i + 1)).toNat : Int) := ⟨_, rfl⟩
        rw [← hz0] at hx e10 e13
        rw [← hz1] at HAT f10
        clear hrun7 hr7 hf7 hl7 hx0 hz0 hz1 HR HM HF
        by_cases h13 : pk s i = 13
        · have q13 : (z0 == 13) = true := by rw [e13]; simp [h13]
          have q10 : (z0 == 10) = false := by rw [e10]; simp [h13]
          by_cases hn10 : pk s (i + 1) = 10
          · have r10 : (z1 == 10) = true := by rw [f10]; simp [hn10]
            have h2 : i + 1 < s.length := by
              by_cases h : i + 1 < s.length
              · exact h
              · exfalso
                have : pk s (i + 1) = 0 := by simp [pk, List.getD_eq_getElem?_getD, List.getElem?_eq_none (show s.length ≤ i + 1 by omega)]
                rw [this] at hn10
                cases hn10
            have HQ2 := hid (show docL s = (acc ++ [x]) ++ addHead (mid s (i + 2) (i + 2)) (docL (s.drop (i + 2))) by
              rw [HQ.out, HDR.out, h13, cons_pk h2, hn10, docL_rn, mid_self, addHead_nil (docL_ne _ _ (Nat.le_refl _))]
              simp [addHead])
            have HH2 := hid h2
            clear HQ hnl h13 hn10 e10 e13 f10 h2
            as_aux_lemma =>
              go_wp2_with (first | (at_builtin; refine Lib.wpList_append_run _ rfl _ _ _ _ rfl _ _ rfl rfl _ _ HRUN.out ?_) | (go_at_call 26; refine (HAT.out _).mono ?_; rintro e w' ⟨rfl, rfl⟩))
              go_roundw
              case measure => have := HH2.out; simp [intOf]; omega
              exact ⟨i + 2, i + 2, acc ++ [x], g7, c7, m + 1, by go_num, by go_num, rfl, by omega, HH2.out, by have := HI.out; omega, HM7, HR7, HQ2, HF7⟩
          · have r10 : (z1 == 10) = false := by rw [f10]; simp [hn10]
            have HQ2 := hid (show docL s = (acc ++ [x]) ++ addHead (mid s (i + 1) (i + 1)) (docL (s.drop (i + 1))) by
              rw [HQ.out, HDR.out, docL_c (by
                rintro ⟨_, h⟩
                by_cases h2 : i + 1 < s.length
                · rw [cons_pk h2] at h
                  simp at h
                  exact hn10 h
                · rw [List.drop_eq_nil_of_le (by omega)] at h
                  cases h), if_pos (Or.inr h13), mid_self, addHead_nil HNE.out]
              simp [addHead])
            clear HQ hnl h13 hn10 e10 e13 f10
            as_aux_lemma =>
              go_wp2_with (first | (at_builtin; refine Lib.wpList_append_run _ rfl _ _ _ _ rfl _ _ rfl rfl _ _ HRUN.out ?_) | (go_at_call 26; refine (HAT.out _).mono ?_; rintro e w' ⟨rfl, rfl⟩))
              go_roundw
              case measure => have := HI.out.1; simp [intOf]; omega
              exact ⟨i + 1, i + 1, acc ++ [x], g7, c7, m + 1, by go_num, by go_num, rfl, by omega, by have := HI.out; omega, by have := HI.out; omega, HM7, HR7, HQ2, HF7⟩
        · have h10 : pk s i = 10 := hnl.resolve_right h13
          have q13 : (z0 == 13) = false := by rw [e13]; simp [h13]
          have q10 : (z0 == 10) = true := by rw [e10]; simp [h10]
          have HQ2 := hid (show docL s = (acc ++ [x]) ++ addHead (mid s (i + 1) (i + 1)) (docL (s.drop (i + 1))) by
            rw [HQ.out, HDR.out, docL_c (by rintro ⟨h, _⟩; exact h13 h), if_pos (Or.inl h10), mid_self, addHead_nil HNE.out]
            simp [addHead])
          clear HQ hnl h13 h10 e10 e13 f10
          as_aux_lemma =>
            go_wp2_with (at_builtin; refine Lib.wpList_append_run _ rfl _ _ _ _ rfl _ _ rfl rfl _ _ HRUN.out ?_)
            go_roundw
            case measure => have := HI.out.1; simp [intOf]; omega
            exact ⟨i + 1, i + 1, acc ++ [x], g7, c7, m + 1, by go_num, by go_num, rfl, by omega, by have := HI.out; omega, by have := HI.out; omega, HM7, HR7, HQ2, HF7⟩
      · have q10 : (pk s i == 10) = false := by simp; exact fun e => hnl (Or.inl e)
        have q13 : (pk s i == 13) = false := by simp; exact fun e => hnl (Or.inr e)
        rw [q10] at e10
        rw [q13] at e13
        have HQ2 := hid (show docL s = acc ++ addHead (mid s f (i + 1)) (docL (s.drop (i + 1))) by
          rw [HQ.out, HDR.out, docL_c (by rintro ⟨h, _⟩; exact hnl (Or.inr h)), if_neg hnl, addHead_two, mid_succ hf hd])
        obtain ⟨z0, hz0⟩ : ∃ z : Int, z = ((pk s i).toNat : Int) := ⟨_, rfl⟩
        rw [← hz0] at hx e10 e13
        clear HQ hnl q10 q13 hz0 f10
        as_aux_lemma =>
          go_wp2_with fail
          go_roundw
          case measure => have := HI.out.1; simp [intOf]; omega
          exact ⟨i + 1, f, acc, g, c, m, by go_num, rfl, rfl, by have := HI.out; omega, by have := HI.out; omega, by have := HI.out; omega, HM, HR, HQ2, HF⟩
    · have hie : i = s.length := by omega
      have hd' : decide ((i : Int) < (s.length : Int)) = false := by simp; omega
      have HQ2 := hid (show docL s = acc ++ [s.drop f] by
        rw [HQ.out, hie, mid_end, List.drop_eq_nil_of_le (Nat.le_refl _)]
        simp [docL, addHead])
      have sl : ∀ W, (Instr.slice 9 (.string (bs s)) (some (.int .i64 (f : Int))) none none).run Tryz.prog W = .ok (.string (bs (s.drop f))) W := fun W => by
        have := slice_from 9 Tryz.underlying9 W s (f : Int) (by omega) (by omega)
        rwa [Int.toNat_natCast] at this
      obtain ⟨v7, w7, hrun7, hr7, hf7⟩ := append_line wr B _ acc (s.drop f) HR.out (by have := HM.out; omega) hBw
      have HF7 := hid (HF.out.trans hf7 (fun k hk e => by have := HR.out.own e; have := HBE.out; omega))
      have HR7 := hid hr7
      have HRUN := hid hrun7
      obtain ⟨g7, c7, hv7⟩ := hr7.2
      have HV7 := hid hv7
      obtain ⟨x, hx0⟩ : ∃ x, x = s.drop f := ⟨_, rfl⟩
      rw [← hx0] at sl HRUN HR7 HQ2
      clear hrun7 hr7 hf7 HQ hx0 hie hv7
      as_aux_lemma =>
        go_wp2_with (at_builtin; refine Lib.wpList_append_run _ rfl _ _ _ _ rfl _ _ rfl rfl _ _ HRUN.out ?_)
        go_ret
        exact ⟨v7, rfl, by rw [HQ2.out]; exact HR7.out, HF7.out⟩

end Go.Proofs.YtbmfmnkfdfdjbaaGreatDoor.D
