/-
  LexQuotes: the walk. No condition but the library's variables as laid.
-/
import Derived.Test.YtbmfmnkfdfdjbaaDoorT7
import Derived.Test.YtbmfmnkfdfdjbaaDoorM3
import Derived.Test.YtbmfmnkfdfdjbaaDoorT3
namespace Go.Proofs.YtbmfmnkfdfdjbaaDoor.D
open Go.RowKit Go.Shelf
set_option linter.unusedVariables false
set_option linter.unusedSimpArgs false

theorem units_snoc (cs : List Nat) (c : Nat) : unitsL (cs ++ [c]) = unitsL cs ++ unitL c := by simp [unitsL]
theorem unit_le3 (n : Nat) : (unitL n).length ≤ 3 := by
  unfold unitL
  repeat' split
  all_goals simp
theorem piece_le (c : Nat) : (piece c).length ≤ 6 * (unitL c).length := by
  have h1 := unit_pos c
  have h2 := unit_le3 c
  have h3 : (esc4 c).length = 6 := rfl
  unfold piece
  repeat' split
  · omega
  · simp only [List.length_append, List.length_cons, List.length_nil]; omega
  · omega
  · omega
theorem pieces_le : ∀ cs : List Nat, (piecesL cs).length ≤ 6 * (unitsL cs).length
  | [] => by simp [piecesL, unitsL]
  | c :: cs => by
    have h1 := piece_le c
    have h2 := pieces_le cs
    simp only [piecesL, unitsL, List.flatMap_cons, List.length_append] at h2 ⊢
    omega
theorem quote_len (cs : List Nat) (hc : ∀ c ∈ cs, Okc c) : (quoteB (unitsL cs)).length ≤ 6 * (unitsL cs).length + 2 := by
  have e := quote_all cs (unitsL cs) 0 hc rfl (Nat.zero_le _)
  have := pieces_le cs
  unfold quoteB
  rw [e]
  simp
  omega

set_option maxHeartbeats 4000000 in
set_option maxRecDepth 100000 in
theorem quotes_law (w : World) (A0 : Option Addr) (ks : List Int) (cap0 : Nat) (hI : IV w (.slice A0 ks.length cap0) ks) (hb : ∀ k ∈ ks, -9223372036854775808 ≤ k ∧ k ≤ 9223372036854775807) (hV : Vars w) (h2 : 2 < w.heap.size) :
    Calls Tryd.prog 3 #[.slice A0 ks.length cap0] w fun e w' => e = .returned (.bool true) ∧ Fr (fun _ => False) w w' := by
  obtain ⟨A, cap, e, hcl, hcm, hcell⟩ := hI
  injection e with e1 e2 e3
  subst e1 e3
  obtain ⟨n, hn⟩ : ∃ n, n = ks.length := ⟨_, rfl⟩
  have HN := hid hn
  have HC := hid hcell
  have HK := hid hb
  have HT := hid (fun (W : World) (hf : Fr (fun _ => False) w W) (s : List UInt8) => tokens_c W s (hV.stay hf) (Nat.lt_of_lt_of_le h2 hf.size))
  have HFX := hid (fun (W : World) (hf : Fr (fun _ => False) w W) => fixed_c W (hV.stay hf) (Nat.lt_of_lt_of_le h2 hf.size))
  rw [← hn] at hcl ⊢
  have hn63 : n ≤ 9223372036854775807 := by omega
  have HNN := hid hn63
  clear hV h2 hn hcell hb e2 hcl hcm
  obtain ⟨w1, hw1⟩ : ∃ w1, w1 = w.alloc (.cells #[] 5) := ⟨_, rfl⟩
  have HR0 := hid (show Rw w1 w.heap.size (.slice (some ⟨w.heap.size, 0, none⟩) 0 0) [] from hw1 ▸ rw_new w)
  have HF0 := hid (show Fr (fun _ => False) w w1 from hw1 ▸ (Fr.refl _ w).alloc _)
  have HW1 := hid hw1
  clear hw1
  go_enter Tryd.func3, Tryd.ntmps3
  go_wp2_with fail
  rw [← HW1.out]
  clear HW1
  go_loopw [3, 4] (fun v3 v4 wx => ∃ (i : Nat) (cs : List Nat) (g c : Nat) (m : Nat), v4 = .int .i64 i ∧ i ≤ n ∧ v3 = .slice (some ⟨g, 0, none⟩) m c ∧ m ≤ 2702 ∧ Hid (m = (unitsL cs).length) ∧ Hid (∀ c ∈ cs, Okc c) ∧ Hid (Rw wx w.heap.size (.slice (some ⟨g, 0, none⟩) m c) (unitsL cs)) ∧ Hid (Fr (fun _ => False) w wx)) (fun _ v _ => n - (intOf v).toNat)
  case atStart => exact ⟨0, [], w.heap.size, 0, 0, rfl, by omega, rfl, by omega, hid rfl, hid (fun c hc => by cases hc), HR0, HF0⟩
  case round =>
    obtain ⟨i, cs, g, c, m, rfl, hi, rfl, hm, HM, HOK, HR, HF⟩ := hrel
    by_cases hgo : i < n ∧ m < 2700
    · obtain ⟨hin, hm7⟩ := hgo
      have hil : i < ks.length := by have := HN.out; omega
      obtain ⟨gb, ob, rfl, hcell⟩ := HC.out.resolve_left (by rintro rfl; simp at hil)
      have hld : wr.cell? ⟨gb, ob + i, none⟩ = some (.int .i64 (ks.getD i 0)) := cells_stay2 HF.out (hcell i hil)
      have hkb := HK.out (ks.getD i 0) (by rw [List.getD_eq_getElem?_getD, List.getElem?_eq_getElem hil]; simp)
      obtain ⟨k, hk⟩ : ∃ k, k = ks.getD i 0 := ⟨_, rfl⟩
      rw [← hk] at hld hkb
      have hin' : (i : Int) < (n : Int) := by omega
      have hm7' : (m : Int) < 2700 := by omega
      have HIN := hid hin
      have HHM := hid hm7
      clear hcell hil hk
      by_cases hck : (32 ≤ k ∧ k ≤ 65535) ∨ k = 9 ∨ k = 10 ∨ k = 13
      · obtain ⟨x, hx⟩ : ∃ x : Nat, k = (x : Int) := ⟨k.toNat, by omega⟩
        subst hx
        have hx6 : x < 65536 := by omega
        have HOX := hid (show Okc x from ⟨hx6, by omega⟩)
        have HUN := hid (fun W => unit_c W x hx6)
        have hgv : ((32 : Int) ≤ (x : Int) ∧ (x : Int) ≤ 65535) ∨ (decide ((32 : Int) ≤ (x : Int)) = false ∧ ((x : Int) == 9) = true) ∨ (decide ((32 : Int) ≤ (x : Int)) = false ∧ ((x : Int) == 9) = false ∧ ((x : Int) == 10) = true) ∨ (decide ((32 : Int) ≤ (x : Int)) = false ∧ ((x : Int) == 9) = false ∧ ((x : Int) == 10) = false ∧ ((x : Int) == 13) = true) := by
          rcases hck with h | h | h | h
          · exact Or.inl ⟨by omega, by omega⟩
          · exact Or.inr (Or.inl ⟨by simp; omega, by simp; omega⟩)
          · exact Or.inr (Or.inr (Or.inl ⟨by simp; omega, by simp; omega, by simp; omega⟩))
          · exact Or.inr (Or.inr (Or.inr ⟨by simp; omega, by simp; omega, by simp; omega, by simp; omega⟩))
        clear hck hkb
        rcases hgv with ⟨q1, q2⟩ | ⟨q1, q2⟩ | ⟨q1, q2, q3⟩ | ⟨q1, q2, q3, q4⟩
        all_goals
          as_aux_lemma =>
            go_wp2_with fail
            refine (HUN.out _).mono ?_
            rintro e w3 ⟨rfl, hf3⟩
            have HF3 := hid (HF.out.trans hf3 (fun _ _ f => f))
            obtain ⟨v4, w4, hrun, hr4, hf4⟩ := append_str w3 w.heap.size _ (unitsL cs) (unitL x) (HR.out.stay hf3) (by have := HM.out; have := unit_le3 x; omega) HF3.out.size
            have HF4 := hid (HF3.out.trans hf4 (fun i hi e => by have := ((HR.out.stay hf3).own e).1; omega))
            have hl4 : (unitsL cs ++ unitL x).length = m + (unitL x).length := by rw [List.length_append, ← HM.out]
            obtain ⟨g4, c4, hv4⟩ := hr4.2
            rw [hl4] at hv4
            subst hv4
            have HR4 := hid hr4
            have HL4 := hid hl4
            have HRUN := hid hrun
            clear hrun hr4 hf4 hf3 hl4 hld
            go_wp2_with (at_builtin; refine Lib.wpList_append_run _ rfl _ _ _ _ rfl _ _ rfl rfl _ _ HRUN.out ?_)
            go_roundw
            case measure => have := HIN.out; simp [intOf]; omega
            refine ⟨i + 1, cs ++ [x], g4, c4, m + (unitL x).length, by go_num, by have := HIN.out; omega, rfl, by have := HHM.out; have := unit_le3 x; omega, hid (by rw [units_snoc]; exact HL4.out.symm), hid (fun c hc => ?_), hid (by rw [units_snoc]; exact HR4.out), HF4⟩
            rcases List.mem_append.1 hc with h | h
            · exact HOK.out c h
            · simp at h
              subst h
              exact HOX.out
      · have hgv : (decide ((32 : Int) ≤ k) = false ∨ ((32 : Int) ≤ k ∧ decide (k ≤ 65535) = false)) ∧ (k == 9) = false ∧ (k == 10) = false ∧ (k == 13) = false := by
          refine ⟨?_, by simp; omega, by simp; omega, by simp; omega⟩
          by_cases h : 32 ≤ k
          · exact Or.inr ⟨h, by simp; omega⟩
          · exact Or.inl (by simp; omega)
        obtain ⟨h32, q9, q10, q13⟩ := hgv
        clear hck
        rcases h32 with q1 | ⟨q1, q2⟩
        all_goals
          as_aux_lemma =>
            go_wp2_with fail
            go_roundw
            case measure => have := HIN.out; simp [intOf]; omega
            exact ⟨i + 1, cs, g, c, m, by go_num, by have := HIN.out; omega, rfl, hm, HM, HOK, HR, HF⟩
    · have hgv : (¬ i < n ∧ decide ((i : Int) < (n : Int)) = false) ∨ (i < n ∧ ¬ m < 2700 ∧ (i : Int) < (n : Int) ∧ decide ((m : Int) < 2700) = false) := by
        by_cases h : i < n
        · exact Or.inr ⟨h, by omega, by omega, by simp; omega⟩
        · exact Or.inl ⟨h, by simp; omega⟩
      have HOKC := HOK
      have hql := quote_len cs HOK.out
      have hm2 := HM.out
      have HLP := hid (quotes_plain cs HOK.out (by omega))
      have HQC := hid (quote_c wr (unitsL cs) (by omega))
      have hcv := HR.out.conv
      have HM2 := hid hm2
      obtain ⟨b, hb⟩ : ∃ b, b = unitsL cs := ⟨_, rfl⟩
      rw [← hb] at HLP HQC hcv HR hql hm2
      obtain ⟨q, hq⟩ : ∃ q, q = quoteB b := ⟨_, rfl⟩
      rw [← hq] at HLP HQC hql
      have hq6 : q.length ≤ 16384 := by omega
      have hzq := size_bs q
      have HHI := hid hi
      clear hb hq hgo hi hm2 hql HM2 HM
      rcases hgv with ⟨q0, q1⟩ | ⟨q0, q1, q2, q3⟩
      all_goals
        as_aux_lemma =>
          go_wp2_with fail
          refine HQC.out.mono ?_
          rintro e w3 ⟨rfl, hf3⟩
          have HF3 := hid (HF.out.trans hf3 (fun _ _ f => f))
          have HF13 := hid hf3
          have HTS := hid (HT.out w3 HF3.out q)
          clear hf3 HQC hcv
          go_wp2_with fail
          refine HTS.out.mono ?_
          intro e w4 hp
          obtain ⟨v1, rfl, hv1, hf4⟩ := tks_ok hp HLP.out
          obtain ⟨A1, n1, rfl, hn1, hA1⟩ := hv1
          obtain ⟨ga, oa, rfl, hga⟩ := hA1.resolve_left (by intro e; cases e)
          have HF4 := hid (HF3.out.trans hf4 (fun _ _ f => f))
          have HR4 := hid ((HR.out.stay HF13.out).stay hf4)
          obtain ⟨a0, a1, a2, a3⟩ := hga 0 _ rfl
          have a0 : w4.cell? ⟨ga, oa, none⟩ = some (.int .i64 4) := a0
          have a1 : w4.cell? ⟨ga, oa + 1, none⟩ = some (.string (bs b)) := a1
          have a2 : w4.cell? ⟨ga, oa + 2, none⟩ = some (.int .i64 0) := a2
          have a3 : w4.cell? ⟨ga, oa + 3, none⟩ = some (.int .i64 (q.length : Int)) := a3
          have hcv := HR4.out.conv
          have HFX4 := hid (show ∀ W, Fr (fun _ => False) w4 W → Calls Tryd.prog 11 #[] W fun e w' => e = .returned (.bool true) ∧ Fr (fun _ => False) w4 w' from fun W hf => (HFX.out W (HF4.out.trans hf (fun _ _ f => f))).mono (by rintro e w' ⟨h1, h2⟩; exact ⟨h1, hf.trans h2 (fun _ _ f => f)⟩))
          have hqb : (b == b) = true := by simp
          clear hp hf4 hA1 hga HTS
          go_upto_region 10 with fail
          go_region_held3 (fun w' => w'.cell? ⟨ga, oa, none⟩ = some (.int .i64 4) ∧ w'.cell? ⟨ga, oa + 1, none⟩ = some (.string (bs b)) ∧ w'.cell? ⟨ga, oa + 2, none⟩ = some (.int .i64 0) ∧ w'.cell? ⟨ga, oa + 3, none⟩ = some (.int .i64 (q.length : Int)) ∧ (convert 23 9 (.slice (some ⟨g, 0, none⟩) m c)).run Tryd.prog w' = .ok (.string (bs b)) w' ∧ Fr (fun _ => False) w4 w')
            (first | exact ⟨a0, a1, a2, a3, (HR4.out.stay (Fr.refl _ _).drew).conv, (Fr.refl _ _).drew⟩ | exact ⟨cells_stay2 (by assumption) a0, cells_stay2 (by assumption) a1, cells_stay2 (by assumption) a2, cells_stay2 (by assumption) a3, (HR4.out.stay (by assumption)).conv, by assumption⟩ | go_keep)
            (first
              | (go_at_call 11; refine (HFX4.out _ (by first | assumption | exact (Fr.refl _ _).drew)).mono ?_; rintro e w' ⟨rfl, hf'⟩))
          rename_i hS
          have HF9 := hid (HF4.out.trans hS.2.2.2.2.2 (fun _ _ f => f))
          clear hS
          go_wp2_with fail
          go_ret
          exact ⟨rfl, HF9.out⟩

end Go.Proofs.YtbmfmnkfdfdjbaaDoor.D
