/-
  LexIgnores: the walk. No condition but the library's variables as laid.
-/
import Derived.Test.YtbmfmnkfdfdjbaaDoorE0
namespace Go.Proofs.YtbmfmnkfdfdjbaaDoor.D
open Go.RowKit Go.Shelf
set_option linter.unusedVariables false
set_option linter.unusedSimpArgs false

theorem place_in : ∀ (L : List Tok) (i k : Nat) (t : Tok), L[k]? = some t → placeOf i L k = t.a
  | [], i, k, t, h => by simp at h
  | x :: L, i, 0, t, h => by simp at h; subst h; rfl
  | x :: L, i, k + 1, t, h => by
    show placeOf x.e L k = t.a
    exact place_in L x.e k t (by simpa using h)
theorem place_end : ∀ (L : List Tok) (i k : Nat) (t : Tok), L[k]? = some t → k + 1 = L.length → placeOf i L (k + 1) = t.e
  | [], i, k, t, h, hk => by simp at h
  | x :: L, i, 0, t, h, hk => by
    simp at h
    subst h
    have : L = [] := by simpa using hk
    subst this
    rfl
  | x :: L, i, k + 1, t, h, hk => by
    show placeOf x.e L (k + 1) = t.e
    exact place_end L x.e k t (by simpa using h) (by simpa using hk)
def gapV : Array Value := #[.string (bs [32]), .string (bs [44]), .string (bs [10]), .string (bs [13]), .string (bs [9]), .string (bs [239, 187, 191]), .string (bs [35, 120, 10]), .string (bs [44, 35, 34, 13])]
theorem gapV_at (m : Nat) (hm : m < 8) : ∃ g, gapV[m]? = some (.string (bs g)) ∧ g ∈ gaps ∧ g.length ≤ 4 := by
  have : m = 0 ∨ m = 1 ∨ m = 2 ∨ m = 3 ∨ m = 4 ∨ m = 5 ∨ m = 6 ∨ m = 7 := by omega
  rcases this with rfl | rfl | rfl | rfl | rfl | rfl | rfl | rfl
  all_goals exact ⟨_, rfl, by simp [gaps], by simp⟩
theorem tmod_8 (x : Int) : -8 < x.tmod 8 ∧ x.tmod 8 < 8 := by
  have := Int.tmod_lt_of_pos x (b := 8) (by omega)
  have h2 := Int.tmod_lt_of_pos (-x) (b := 8) (by omega)
  rw [Int.neg_tmod] at h2
  exact ⟨by omega, this⟩
theorem tmod_n (x : Int) (n : Nat) : -((n : Int) + 1) < x.tmod ((n : Int) + 1) ∧ x.tmod ((n : Int) + 1) < (n : Int) + 1 := by
  have := Int.tmod_lt_of_pos x (b := (n : Int) + 1) (by omega)
  have h2 := Int.tmod_lt_of_pos (-x) (b := (n : Int) + 1) (by omega)
  rw [Int.neg_tmod] at h2
  exact ⟨by omega, this⟩
theorem ignores_plain {s g : List UInt8} {L : List Tok} (hL : lexP s = .ok L) (hg : g ∈ gaps) (k : Nat) (hk : k ≤ L.length) (hl : (insB s g (placeOf 0 L k)).length ≤ 16384) : ∃ M, lexP (insB s g (placeOf 0 L k)) = .ok M ∧ Al M L := by
  obtain ⟨h1, h2, h3⟩ := lexP_iff.1 hL
  obtain ⟨M, m1, m2⟩ := inserted (gap_all g hg) h2 k hk
  exact ⟨M, lexP_iff.2 ⟨hl, m1, by rw [m2.len]; exact h3⟩, m2⟩

set_option maxHeartbeats 4000000 in
set_option maxRecDepth 100000 in
theorem ignores_law (w : World) (s : List UInt8) (at_ what : Int) (hs : s.length ≤ 140737488355328) (ha0 : -9223372036854775808 ≤ at_) (ha1 : at_ ≤ 9223372036854775807) (hw0 : -9223372036854775808 ≤ what) (hw1 : what ≤ 9223372036854775807) (hV : Vars w) (h2 : 2 < w.heap.size) :
    Calls Tryd.prog 5 #[.string (bs s), .int .i64 at_, .int .i64 what] w fun e w' => e = .returned (.bool true) ∧ Fr (fun _ => False) w w' := by
  have hzs := size_bs s
  have HT := hid (fun (W : World) (hf : Fr (fun _ => False) w W) (s : List UInt8) => tokens_c W s (hV.stay hf) (Nat.lt_of_lt_of_le h2 hf.size))
  have HFX := hid (fun (W : World) (hf : Fr (fun _ => False) w W) => fixed_c W (hV.stay hf) (Nat.lt_of_lt_of_le h2 hf.size))
  have HT1 := hid (HT.out w (Fr.refl _ w) s)
  clear hV h2
  go_enter Tryd.func5, Tryd.ntmps5
  go_wp2_with fail
  refine HT1.out.mono ?_
  intro e w2 hp
  obtain ⟨v1, j1, c1, rfl, hf1, hr1⟩ := tks_any hp
  have HF1 := hid hf1
  have HFX1 := hid (HFX.out w2 hf1)
  clear hp hf1 HT1
  rcases hr1 with ⟨L, hL, rfl, rfl, hv1⟩ | ⟨hE, rfl⟩
  · obtain ⟨p1, n1, rfl⟩ := hv1.lenv
    have HL := hid hL
    have hs6 := (lexP_iff.1 hL).1
    have hl1 := (lexP_iff.1 hL).2.2
    obtain ⟨x1, hx1⟩ : ∃ x, x = L.length := ⟨_, rfl⟩
    have HX1 := hid hx1
    have HV1 := hid (show Toks w2 w.heap.size (.slice p1 x1 n1) L from hx1 ▸ hv1)
    rw [← hx1] at hl1 ⊢
    clear hx1 hv1 hL
    go_wp2_with fail
    refine HFX1.out.mono ?_
    rintro e w3 ⟨rfl, hf3⟩
    have HF3 := hid (HF1.out.trans hf3 (fun _ _ f => f))
    have HV3 := hid (HV1.out.stay hf3)
    obtain ⟨w4, hw4⟩ : ∃ w4, w4 = w3.alloc (.cells #[.string { data := #[32] }, .string { data := #[44] }, .string { data := #[10] }, .string { data := #[13] }, .string { data := #[9] }, .string { data := #[239, 187, 191] }, .string { data := #[35, 120, 10] }, .string { data := #[44, 35, 34, 13] }] 9) := ⟨_, rfl⟩
    have hf4 : Fr (fun _ => False) w3 w4 := hw4 ▸ (Fr.refl _ w3).alloc _
    have HF4 := hid (HF3.out.trans hf4 (fun _ _ f => f))
    have HV4 := hid (HV3.out.stay hf4)
    have hG : w4.heap[w3.heap.size]? = some (.cells gapV 9) := by rw [hw4]; exact Array.getElem?_push_size
    have HG := hid hG
    obtain ⟨g0, hg0⟩ : ∃ g, g = w3.heap.size := ⟨_, rfl⟩
    rw [← hg0] at HG
    have HW4 := hid hw4
    have HG0 := hid hg0
    obtain ⟨a8, b8⟩ := tmod_8 what
    obtain ⟨an, bn⟩ := tmod_n at_ x1
    obtain ⟨y, hy⟩ : ∃ y, y = what.tmod 8 := ⟨_, rfl⟩
    obtain ⟨z, hz⟩ : ∃ z, z = at_.tmod ((x1 : Int) + 1) := ⟨_, rfl⟩
    rw [← hy] at a8 b8
    rw [← hz] at an bn
    have HY := hid hy.symm
    have HZ := hid hz.symm
    clear hf3 hf4 hG hw4 hg0 HFX1 HFX hy hz
    have hwv : ∃ m : Nat, m < 8 ∧ ((y < 0 ∧ y + 8 = (m : Int)) ∨ (decide (y < 0) = false ∧ y = (m : Int))) := by
      by_cases h : y < 0
      · exact ⟨(y + 8).toNat, by omega, Or.inl ⟨h, by omega⟩⟩
      · exact ⟨y.toNat, by omega, Or.inr ⟨by simp; omega, by omega⟩⟩
    obtain ⟨m, hm, hwv⟩ := hwv
    have hkv : ∃ K : Nat, K ≤ x1 ∧ ((z < 0 ∧ z + ((x1 : Int) + 1) = (K : Int)) ∨ (decide (z < 0) = false ∧ z = (K : Int))) := by
      by_cases h : z < 0
      · exact ⟨(z + ((x1 : Int) + 1)).toNat, by omega, Or.inl ⟨h, by omega⟩⟩
      · exact ⟨z.toNat, by omega, Or.inr ⟨by simp; omega, by omega⟩⟩
    obtain ⟨K, hK, hkv⟩ := hkv
    obtain ⟨gp, hgp, hgm, hg4⟩ := gapV_at m hm
    have HGM := hid hgm
    have cG : w4.cell? ⟨g0, m, none⟩ = some (.string (bs gp)) := by rw [cell_at HG.out]; exact hgp
    have hn1 : ((x1 : Int) + 1 == 0) = false := by simp; omega
    have hn2 : ¬ ((x1 : Int) + 1 = 0) := by omega
    have e8 := HY.out
    have en := HZ.out
    have HWA := hid hw0
    have HWB := hid hw1
    have HWC := hid ha0
    have HWD := hid ha1
    have hzg := size_bs gp
    clear hgp hgm hw0 hw1 ha0 ha1
    go_upto_region 5 with fail
    rw [← HW4.out, ← HG0.out]
    clear HW4 HG0
    go_upto_if 35 with fail
    go_cut [11] (fun v11 wc => v11 = .int .i64 (m : Int) ∧ wc = w4)
    case first =>
      rcases hwv with ⟨q1, q2⟩ | ⟨q1, q2⟩
      · have HQ2 := hid q2
        clear q2
        go_wp2_with fail
        go_meet
        exact ⟨by rw [HQ2.out], rfl⟩
      · subst q2
        go_wp2_with fail
        go_meet
        exact ⟨by go_num, rfl⟩
    case rest =>
      obtain ⟨rfl, hwc⟩ := hcut
      rw [hwc]
      clear hwc hwv e8 HY
      go_upto_if 44 with fail
      go_cut [12] (fun v12 wc => v12 = .int .i64 (K : Int) ∧ wc = w4)
      case first =>
        rcases hkv with ⟨q1, q2⟩ | ⟨q1, q2⟩
        · have HQ2 := hid q2
          clear q2
          go_wp2_with fail
          go_meet
          exact ⟨by rw [HQ2.out], rfl⟩
        · subst q2
          go_wp2_with fail
          go_meet
          exact ⟨by go_num, rfl⟩
      case rest =>
        obtain ⟨rfl, hwc⟩ := hcut
        rw [hwc]
        clear hwc hkv en HZ hn1 hn2 an bn a8 b8
        by_cases hKx : K < x1
        · have hKL : K < L.length := by have := HX1.out; omega
          obtain ⟨t, ht⟩ : ∃ t, L[K]? = some t := ⟨_, List.getElem?_eq_getElem hKL⟩
          have hpl := place_ge (lexP_iff.1 HL.out).2.1 K
          rw [place_in L 0 K t ht] at hpl
          have HP := hid (place_in L 0 K t ht)
          obtain ⟨A1, c1, hA1, -, hA2⟩ := HV4.out.tv
          injection hA1 with e1 e2 e3
          obtain ⟨g, o, rfl, hg⟩ := hA2.resolve_left (by rintro rfl; simp at hKL)
          subst e1
          have hta := (hg K t ht).2.2.1
          rw [Nat.mul_comm] at hta
          have hkx' : (K : Int) < (x1 : Int) := by omega
          have hkx2 : ((K : Int) == (x1 : Int)) = false := by simp; omega
          have HTA := hid hpl
          obtain ⟨ta, hta0⟩ : ∃ a, a = t.a := ⟨_, rfl⟩
          rw [← hta0] at hpl HP hta
          clear hg ht hKL e2 e3 hA2 hta0
          have hcat1 : bs (s.take ta) ++ bs gp = bs (s.take ta ++ gp) := addBs _ _
          have hcat2 : bs (s.take ta ++ gp) ++ bs (s.drop ta) = bs (insB s gp ta) := by rw [addBs]; unfold insB; rw [List.append_assoc]
          have sl1 : ∀ W, (Instr.slice 9 (.string (bs s)) none (some (.int .i64 (ta : Int))) none).run Tryd.prog W = .ok (.string (bs (s.take ta))) W := fun W => by
            have := slice_to 9 Tryd.underlying9 W s ((ta : Nat) : Int) (by omega) (by omega)
            rwa [Int.toNat_natCast] at this
          have sl2 : ∀ W, (Instr.slice 9 (.string (bs s)) (some (.int .i64 (ta : Int))) none none).run Tryd.prog W = .ok (.string (bs (s.drop ta))) W := fun W => by
            have := slice_from 9 Tryd.underlying9 W s ((ta : Nat) : Int) (by omega) (by omega)
            rwa [Int.toNat_natCast] at this
          have HPL := hid (fun h => ignores_plain (g := gp) HL.out HGM.out K (by have := HX1.out; omega) h)
          rw [HP.out] at HPL
          have hz1 : (s.take ta).length ≤ 16384 := by rw [List.length_take]; omega
          have hz2 : (s.drop ta).length ≤ 16384 := by rw [List.length_drop]; omega
          have hz3 : (s.take ta ++ gp).length ≤ 16388 := by rw [List.length_append]; omega
          have hT6 : (insB s gp ta).length ≤ 32772 := by rw [ins_len s gp (by omega)]; omega
          obtain ⟨S1, hS1⟩ : ∃ S, S = s.take ta := ⟨_, rfl⟩
          obtain ⟨S2, hS2⟩ : ∃ S, S = s.drop ta := ⟨_, rfl⟩
          obtain ⟨T, hT⟩ : ∃ T, T = insB s gp ta := ⟨_, rfl⟩
          rw [← hT] at hcat2 HPL hT6
          rw [← hS1] at sl1 hcat1 hcat2 hz1 hz3
          rw [← hS2] at sl2 hcat2 hz2
          have hzT := size_bs T
          have hq1 : S1.length + gp.length ≤ 9223372036854775807 := by omega
          obtain ⟨S3, hS3⟩ : ∃ S, S = S1 ++ gp := ⟨_, rfl⟩
          rw [← hS3] at hcat1 hcat2 hz3
          have hq2 : S3.length + S2.length ≤ 9223372036854775807 := by omega
          clear hS1 hS2 hT hS3
          go_upto_region 16 with fail
          go_quiet (fail)
          obtain ⟨w5, hw5⟩ : ∃ w5, w5 = w4.drewN nq := ⟨_, rfl⟩
          rw [← hw5]
          have hf5 : Fr (fun _ => False) w4 w5 := hw5 ▸ fr_drewN
          have HF5 := hid (HF4.out.trans hf5 (fun _ _ f => f))
          have HV5 := hid (HV4.out.stay hf5)
          clear hw5 hf5 sl1 sl2 cG
          by_cases hlen : 16384 < T.length
          · have hl' : (16384 : Int) < (T.length : Int) := by omega
            as_aux_lemma =>
              go_wp2_with fail
              go_ret
              exact ⟨rfl, HF5.out⟩
          · have hl' : decide ((16384 : Int) < (T.length : Int)) = false := by simp; omega
            obtain ⟨M, hM, hAl⟩ := HPL.out (by omega)
            have HT6 := hid (HT.out w5 HF5.out T)
            have HAL := hid hAl
            have HM := hid hM
            clear hM hAl
            as_aux_lemma =>
              go_wp2_with fail
              refine HT6.out.mono ?_
              intro e w6 hp
              obtain ⟨hf6, h6, _⟩ := hp
              obtain ⟨v6, rfl, hv6⟩ := h6 M HM.out
              obtain ⟨p6, n6, rfl⟩ := hv6.lenv
              have HF6 := hid (HF5.out.trans hf6 (fun _ _ f => f))
              have HAK := hid (alike_c w6 _ _ M L hv6.tv (HV5.out.stay hf6).tv (by have := HAL.out.len; have := HX1.out; omega) (by have := HX1.out; omega))
              rw [alike_al.2 HAL.out] at HAK
              clear h6 hv6 hf6 HT6
              go_wp2_with fail
              refine HAK.out.mono ?_
              rintro e w7 ⟨rfl, hf7⟩
              have HF7 := hid (HF6.out.trans hf7 (fun _ _ f => f))
              clear hf7 HAK
              go_wp2_with fail
              go_ret
              exact ⟨rfl, HF7.out⟩
        · have hKe : K = x1 := by omega
          subst hKe
          have hkx' : decide ((K : Int) < (K : Int)) = false := by simp
          have hkx2 : ((K : Int) == (K : Int)) = true := by simp
          by_cases h0 : K = 0
          · subst h0
            have hLn : L = [] := List.length_eq_zero_iff.1 HX1.out.symm
            have HP := hid (show placeOf 0 L 0 = 0 by rw [hLn]; rfl)
            clear hLn
            have hpl : (0 : Nat) ≤ s.length := by omega
            have hcat1 : bs (s.take 0) ++ bs gp = bs (s.take 0 ++ gp) := addBs _ _
            have hcat2 : bs (s.take 0 ++ gp) ++ bs (s.drop 0) = bs (insB s gp 0) := by rw [addBs]; unfold insB; rw [List.append_assoc]
            have sl1 : ∀ W, (Instr.slice 9 (.string (bs s)) none (some (.int .i64 0)) none).run Tryd.prog W = .ok (.string (bs (s.take 0))) W := fun W => by
              have := slice_to 9 Tryd.underlying9 W s ((0 : Nat) : Int) (by omega) (by omega)
              rwa [Int.toNat_natCast] at this
            have sl2 : ∀ W, (Instr.slice 9 (.string (bs s)) (some (.int .i64 0)) none none).run Tryd.prog W = .ok (.string (bs (s.drop 0))) W := fun W => by
              have := slice_from 9 Tryd.underlying9 W s ((0 : Nat) : Int) (by omega) (by omega)
              rwa [Int.toNat_natCast] at this
            have HPL := hid (fun h => ignores_plain (g := gp) HL.out HGM.out 0 (by have := HX1.out; omega) h)
            rw [HP.out] at HPL
            have hz1 : (s.take 0).length ≤ 16384 := by rw [List.length_take]; omega
            have hz2 : (s.drop 0).length ≤ 16384 := by rw [List.length_drop]; omega
            have hz3 : (s.take 0 ++ gp).length ≤ 16388 := by rw [List.length_append]; omega
            have hT6 : (insB s gp 0).length ≤ 32772 := by rw [ins_len s gp (by omega)]; omega
            obtain ⟨S1, hS1⟩ : ∃ S, S = s.take 0 := ⟨_, rfl⟩
            obtain ⟨S2, hS2⟩ : ∃ S, S = s.drop 0 := ⟨_, rfl⟩
            obtain ⟨T, hT⟩ : ∃ T, T = insB s gp 0 := ⟨_, rfl⟩
            rw [← hT] at hcat2 HPL hT6
            rw [← hS1] at sl1 hcat1 hcat2 hz1 hz3
            rw [← hS2] at sl2 hcat2 hz2
            have hzT := size_bs T
            have hq1 : S1.length + gp.length ≤ 9223372036854775807 := by omega
            obtain ⟨S3, hS3⟩ : ∃ S, S = S1 ++ gp := ⟨_, rfl⟩
            rw [← hS3] at hcat1 hcat2 hz3
            have hq2 : S3.length + S2.length ≤ 9223372036854775807 := by omega
            clear hS1 hS2 hT hS3
            go_upto_region 16 with fail
            go_quiet (fail)
            obtain ⟨w5, hw5⟩ : ∃ w5, w5 = w4.drewN nq := ⟨_, rfl⟩
            rw [← hw5]
            have hf5 : Fr (fun _ => False) w4 w5 := hw5 ▸ fr_drewN
            have HF5 := hid (HF4.out.trans hf5 (fun _ _ f => f))
            have HV5 := hid (HV4.out.stay hf5)
            clear hw5 hf5 sl1 sl2 cG
            by_cases hlen : 16384 < T.length
            · have hl' : (16384 : Int) < (T.length : Int) := by omega
              as_aux_lemma =>
                go_wp2_with fail
                go_ret
                exact ⟨rfl, HF5.out⟩
            · have hl' : decide ((16384 : Int) < (T.length : Int)) = false := by simp; omega
              obtain ⟨M, hM, hAl⟩ := HPL.out (by omega)
              have HT6 := hid (HT.out w5 HF5.out T)
              have HAL := hid hAl
              have HM := hid hM
              clear hM hAl
              as_aux_lemma =>
                go_wp2_with fail
                refine HT6.out.mono ?_
                intro e w6 hp
                obtain ⟨hf6, h6, _⟩ := hp
                obtain ⟨v6, rfl, hv6⟩ := h6 M HM.out
                obtain ⟨p6, n6, rfl⟩ := hv6.lenv
                have HF6 := hid (HF5.out.trans hf6 (fun _ _ f => f))
                have HAK := hid (alike_c w6 _ _ M L hv6.tv (HV5.out.stay hf6).tv (by have := HAL.out.len; have := HX1.out; omega) (by have := HX1.out; omega))
                rw [alike_al.2 HAL.out] at HAK
                clear h6 hv6 hf6 HT6
                go_wp2_with fail
                refine HAK.out.mono ?_
                rintro e w7 ⟨rfl, hf7⟩
                have HF7 := hid (HF6.out.trans hf7 (fun _ _ f => f))
                clear hf7 HAK
                go_wp2_with fail
                go_ret
                exact ⟨rfl, HF7.out⟩

          · obtain ⟨k1, hk1⟩ : ∃ k1, K = k1 + 1 := ⟨K - 1, by omega⟩
            subst hk1
            have hKL : k1 < L.length := by have h : k1 + 1 = L.length := HX1.out; omega
            obtain ⟨t, ht⟩ : ∃ t, L[k1]? = some t := ⟨_, List.getElem?_eq_getElem hKL⟩
            have hpl := place_ge (lexP_iff.1 HL.out).2.1 (k1 + 1)
            rw [place_end L 0 k1 t ht HX1.out] at hpl
            have HP := hid (place_end L 0 k1 t ht HX1.out)
            obtain ⟨A1, c1, hA1, -, hA2⟩ := HV4.out.tv
            injection hA1 with e1 e2 e3
            obtain ⟨g, o, rfl, hg⟩ := hA2.resolve_left (by rintro rfl; simp at hKL)
            subst e1
            have hta := (hg k1 t ht).2.2.2
            rw [Nat.mul_comm] at hta
            have hkp : (0 : Int) < ((k1 + 1 : Nat) : Int) := by omega
            obtain ⟨ta, hta0⟩ : ∃ a, a = t.e := ⟨_, rfl⟩
            rw [← hta0] at hpl HP hta
            clear hg ht hKL e2 e3 hA2 hta0 h0
            have hq4 : IntKind.i64.wrap (((k1 + 1 : Nat) : Int) - 1) = (k1 : Int) := by rw [IntKind.wrap_i64]; omega
            have hq5 : IntKind.i64.wrap ((k1 : Int) + 1 - 1) = (k1 : Int) := by rw [IntKind.wrap_i64]; omega
            have hcat1 : bs (s.take ta) ++ bs gp = bs (s.take ta ++ gp) := addBs _ _
            have hcat2 : bs (s.take ta ++ gp) ++ bs (s.drop ta) = bs (insB s gp ta) := by rw [addBs]; unfold insB; rw [List.append_assoc]
            have sl1 : ∀ W, (Instr.slice 9 (.string (bs s)) none (some (.int .i64 (ta : Int))) none).run Tryd.prog W = .ok (.string (bs (s.take ta))) W := fun W => by
              have := slice_to 9 Tryd.underlying9 W s ((ta : Nat) : Int) (by omega) (by omega)
              rwa [Int.toNat_natCast] at this
            have sl2 : ∀ W, (Instr.slice 9 (.string (bs s)) (some (.int .i64 (ta : Int))) none none).run Tryd.prog W = .ok (.string (bs (s.drop ta))) W := fun W => by
              have := slice_from 9 Tryd.underlying9 W s ((ta : Nat) : Int) (by omega) (by omega)
              rwa [Int.toNat_natCast] at this
            have HPL := hid (fun h => ignores_plain (g := gp) HL.out HGM.out (k1 + 1) (by have := HX1.out; omega) h)
            rw [HP.out] at HPL
            have hz1 : (s.take ta).length ≤ 16384 := by rw [List.length_take]; omega
            have hz2 : (s.drop ta).length ≤ 16384 := by rw [List.length_drop]; omega
            have hz3 : (s.take ta ++ gp).length ≤ 16388 := by rw [List.length_append]; omega
            have hT6 : (insB s gp ta).length ≤ 32772 := by rw [ins_len s gp (by omega)]; omega
            obtain ⟨S1, hS1⟩ : ∃ S, S = s.take ta := ⟨_, rfl⟩
            obtain ⟨S2, hS2⟩ : ∃ S, S = s.drop ta := ⟨_, rfl⟩
            obtain ⟨T, hT⟩ : ∃ T, T = insB s gp ta := ⟨_, rfl⟩
            rw [← hT] at hcat2 HPL hT6
            rw [← hS1] at sl1 hcat1 hcat2 hz1 hz3
            rw [← hS2] at sl2 hcat2 hz2
            have hzT := size_bs T
            have hq1 : S1.length + gp.length ≤ 9223372036854775807 := by omega
            obtain ⟨S3, hS3⟩ : ∃ S, S = S1 ++ gp := ⟨_, rfl⟩
            rw [← hS3] at hcat1 hcat2 hz3
            have hq2 : S3.length + S2.length ≤ 9223372036854775807 := by omega
            clear hS1 hS2 hT hS3
            go_upto_region 16 with fail
            go_quiet (fail)
            obtain ⟨w5, hw5⟩ : ∃ w5, w5 = w4.drewN nq := ⟨_, rfl⟩
            rw [← hw5]
            have hf5 : Fr (fun _ => False) w4 w5 := hw5 ▸ fr_drewN
            have HF5 := hid (HF4.out.trans hf5 (fun _ _ f => f))
            have HV5 := hid (HV4.out.stay hf5)
            clear hw5 hf5 sl1 sl2 cG
            by_cases hlen : 16384 < T.length
            · have hl' : (16384 : Int) < (T.length : Int) := by omega
              as_aux_lemma =>
                go_wp2_with fail
                go_ret
                exact ⟨rfl, HF5.out⟩
            · have hl' : decide ((16384 : Int) < (T.length : Int)) = false := by simp; omega
              obtain ⟨M, hM, hAl⟩ := HPL.out (by omega)
              have HT6 := hid (HT.out w5 HF5.out T)
              have HAL := hid hAl
              have HM := hid hM
              clear hM hAl
              as_aux_lemma =>
                go_wp2_with fail
                refine HT6.out.mono ?_
                intro e w6 hp
                obtain ⟨hf6, h6, _⟩ := hp
                obtain ⟨v6, rfl, hv6⟩ := h6 M HM.out
                obtain ⟨p6, n6, rfl⟩ := hv6.lenv
                have HF6 := hid (HF5.out.trans hf6 (fun _ _ f => f))
                have HAK := hid (alike_c w6 _ _ M L hv6.tv (HV5.out.stay hf6).tv (by have := HAL.out.len; have := HX1.out; omega) (by have := HX1.out; omega))
                rw [alike_al.2 HAL.out] at HAK
                clear h6 hv6 hf6 HT6
                go_wp2_with fail
                refine HAK.out.mono ?_
                rintro e w7 ⟨rfl, hf7⟩
                have HF7 := hid (HF6.out.trans hf7 (fun _ _ f => f))
                clear hf7 HAK
                go_wp2_with fail
                go_ret
                exact ⟨rfl, HF7.out⟩

  · have hc := lexP_err hE
    have q4 : (c1 != 0) = true := by simp; omega
    clear hc hE
    as_aux_lemma =>
      go_wp2_with fail
      refine HFX1.out.mono ?_
      rintro e w4 ⟨rfl, hf4⟩
      have HF4 := hid (HF1.out.trans hf4 (fun _ _ f => f))
      have HFX4 := hid (HFX.out w4 HF4.out)
      clear hf4 HFX1
      go_wp2_with fail
      refine HFX4.out.mono ?_
      rintro e w5 ⟨rfl, hf5⟩
      have HF5 := hid (HF4.out.trans hf5 (fun _ _ f => f))
      clear hf5 HFX4
      go_wp2_with fail
      go_ret
      exact ⟨rfl, HF5.out⟩

end Go.Proofs.YtbmfmnkfdfdjbaaDoor.D
