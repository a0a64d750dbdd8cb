/-
  LexEnds: the walk. No condition but the library's variables as laid.
-/
import Derived.Test.YtbmfmnkfdfdjbaaDoorT5
import Derived.Test.YtbmfmnkfdfdjbaaDoorM2
namespace Go.Proofs.YtbmfmnkfdfdjbaaDoor.D
open Go.RowKit Go.Shelf
set_option linter.unusedVariables false
set_option linter.unusedSimpArgs false

theorem tks_any {w w' : World} {s : List UInt8} {x : Ending} (h : TksPost w s x w') : ∃ (v : Value) (j : Nat) (c : Int), x = .returned (.tuple #[v, .int .i64 j, .int .i64 c]) ∧ Fr (fun _ => False) w w' ∧
    ((∃ L, lexP s = .ok L ∧ j = 0 ∧ c = 0 ∧ Toks w' w.heap.size v L) ∨ (lexP s = .error (j, c) ∧ v = .slice none 0 0)) := by
  obtain ⟨hf, h1, h2⟩ := h
  cases hL : lexP s with
  | ok L =>
    obtain ⟨v, e, ht⟩ := h1 L hL
    exact ⟨v, 0, 0, e, hf, Or.inl ⟨L, rfl, rfl, rfl, ht⟩⟩
  | error p =>
    obtain ⟨j, c⟩ := p
    exact ⟨_, j, c, h2 j c hL, hf, Or.inr ⟨rfl, rfl⟩⟩
theorem Toks.stay {w w' : World} {B : Nat} {v : Value} {L : List Tok} (h : Toks w B v L) (hf : Fr (fun _ => False) w w') : Toks w' B v L := h.keep hf (fun _ _ _ f => f)
theorem Toks.lenv {w : World} {B : Nat} {v : Value} {L : List Tok} (h : Toks w B v L) : ∃ p c, v = .slice p L.length c := by
  rcases h.2 with ⟨rfl, h0⟩ | ⟨g, cap, cur, rfl, _⟩
  · exact ⟨none, 0, by rw [h0]⟩
  · exact ⟨_, _, rfl⟩

set_option maxHeartbeats 4000000 in
set_option maxRecDepth 100000 in
theorem ends_law (w : World) (s t : List UInt8) (hs : s.length ≤ 140737488355328) (ht : t.length ≤ 140737488355328) (hV : Vars w) (h2 : 2 < w.heap.size) :
    Calls Tryd.prog 6 #[.string (bs s), .string (bs t)] w fun e w' => e = .returned (.bool true) ∧ Fr (fun _ => False) w w' := by
  have hzs := size_bs s
  have hzt := size_bs t
  have HT := hid (fun (W : World) (hf : Fr (fun _ => False) w W) (s : List UInt8) => tokens_c W s (hV.stay hf) (Nat.lt_of_lt_of_le h2 hf.size))
  have HFX := hid (fun (W : World) (hf : Fr (fun _ => False) w W) => fixed_c W (hV.stay hf) (Nat.lt_of_lt_of_le h2 hf.size))
  have HT1 := hid (HT.out w (Fr.refl _ w) s)
  clear hV h2
  go_enter Tryd.func6, Tryd.ntmps6
  go_wp2_with fail
  refine HT1.out.mono ?_
  intro e w2 hp
  obtain ⟨v1, j1, c1, rfl, hf1, hr1⟩ := tks_any hp
  have HF1 := hid hf1
  have HR1 := hid hr1
  have HT2 := hid (HT.out w2 hf1 t)
  clear hp hf1 HT1
  go_wp2_with fail
  refine HT2.out.mono ?_
  intro e w3 hp
  obtain ⟨v2, j2, c2, rfl, hf2, hr2⟩ := tks_any hp
  have HF2 := hid (HF1.out.trans hf2 (fun _ _ f => f))
  have HF12 := hid hf2
  have HR2 := hid hr2
  have HFX1 := hid (HFX.out w3 HF2.out)
  clear hp hf2 HT2 hr2
  rcases hr1 with ⟨L, hL, rfl, rfl, hv1⟩ | ⟨hE, rfl⟩
  · -- s is right
    obtain ⟨p1, n1, rfl⟩ := hv1.lenv
    have HL := hid hL
    have hs6 := (lexP_iff.1 hL).1
    have hl1 := (lexP_iff.1 hL).2.2
    obtain ⟨x1, hx1⟩ : ∃ x, x = L.length := ⟨_, rfl⟩
    have HX1 := hid hx1
    have HV1 := hid (show Toks w3 w.heap.size (.slice p1 x1 n1) L from hx1 ▸ hv1.stay HF12.out)
    rw [← hx1] at hl1 ⊢
    have q1 : decide ((s.length : Int) < 0) = false := by simp
    clear hx1 hv1 hL HR1
    go_wp2_with fail
    refine HFX1.out.mono ?_
    rintro e w4 ⟨rfl, hf4⟩
    have HF4 := hid (HF2.out.trans hf4 (fun _ _ f => f))
    have HV1 := hid (HV1.out.stay hf4)
    have HF24 := hid hf4
    have HT4 := hid (HT.out w4 HF4.out (s ++ 10 :: t))
    have hcat1 : bs s ++ ({ data := #[10] } : ByteArray) = bs (s ++ [10]) := addBs s [10]
    have hcat2 : bs (s ++ [10]) ++ bs t = bs (s ++ 10 :: t) := by rw [addBs]; simp
    clear hf4 HFX1
    rcases HR2.out with ⟨M, hM, rfl, rfl, hv2⟩ | ⟨hE2, rfl⟩
    · obtain ⟨p2, n2, rfl⟩ := hv2.lenv
      have HM := hid hM
      have ht6 := (lexP_iff.1 hM).1
      have hl2 := (lexP_iff.1 hM).2.2
      obtain ⟨x2, hx2⟩ : ∃ x, x = M.length := ⟨_, rfl⟩
      have HX2 := hid hx2
      have HV2 := hid (show Toks w4 w2.heap.size (.slice p2 x2 n2) M from hx2 ▸ hv2.stay HF24.out)
      rw [← hx2] at hl2 ⊢
      clear hx2 hv2 hM HR2
      by_cases c1 : 2048 < x1 + x2
      · have c1' : (2048 : Int) < (x1 : Int) + (x2 : Int) := by omega
        as_aux_lemma =>
          go_wp2_with fail
          refine HT4.out.mono ?_
          intro e w5 hp
          obtain ⟨v5, j5, c5, rfl, hf5, hr5⟩ := tks_any hp
          have HF5 := hid (HF4.out.trans hf5 (fun _ _ f => f))
          clear hp hf5 HT4
          rcases hr5 with ⟨A, hA, rfl, rfl, hv5⟩ | ⟨hE5, rfl⟩
          · obtain ⟨p5, n5, rfl⟩ := hv5.lenv
            have hle := both_le HL.out hA
            rw [← HX1.out] at hle
            obtain ⟨x5, hx5⟩ : ∃ x, x = A.length := ⟨_, rfl⟩
            rw [← hx5] at hle ⊢
            clear hx5 hA hv5
            go_wp2_with fail
            go_ret
            exact ⟨rfl, HF5.out⟩
          · have h5 := lexP_err hE5
            have e5 : (c5 != 0) = true := by simp; omega
            clear hE5 h5
            go_wp2_with fail
            go_ret
            exact ⟨rfl, HF5.out⟩
      have c1' : decide ((2048 : Int) < (x1 : Int) + (x2 : Int)) = false := by simp; omega
      by_cases c2 : 16384 < s.length + t.length + 1
      · have c2' : (16384 : Int) < (s.length : Int) + (t.length : Int) + 1 := by omega
        as_aux_lemma =>
          go_wp2_with fail
          refine HT4.out.mono ?_
          intro e w5 hp
          obtain ⟨v5, j5, c5, rfl, hf5, hr5⟩ := tks_any hp
          have HF5 := hid (HF4.out.trans hf5 (fun _ _ f => f))
          clear hp hf5 HT4
          rcases hr5 with ⟨A, hA, rfl, rfl, hv5⟩ | ⟨hE5, rfl⟩
          · obtain ⟨p5, n5, rfl⟩ := hv5.lenv
            have hle := both_le HL.out hA
            rw [← HX1.out] at hle
            obtain ⟨x5, hx5⟩ : ∃ x, x = A.length := ⟨_, rfl⟩
            rw [← hx5] at hle ⊢
            clear hx5 hA hv5
            go_wp2_with fail
            go_ret
            exact ⟨rfl, HF5.out⟩
          · have h5 := lexP_err hE5
            have e5 : (c5 != 0) = true := by simp; omega
            clear hE5 h5
            go_wp2_with fail
            go_ret
            exact ⟨rfl, HF5.out⟩
      have c2' : decide ((16384 : Int) < (s.length : Int) + (t.length : Int) + 1) = false := by simp; omega
      obtain ⟨A, hA, hAl⟩ := both_right HL.out HM.out (by have := HX1.out; have := HX2.out; omega) (by omega)
      as_aux_lemma =>
        go_wp2_with fail
        refine HT4.out.mono ?_
        intro e w5 hp
        obtain ⟨hf5, h5, _⟩ := hp
        obtain ⟨v5, rfl, hv5⟩ := h5 A hA
        have HF5 := hid (HF4.out.trans hf5 (fun _ _ f => f))
        have HV15 := hid (HV1.out.stay hf5)
        have HV25 := hid (HV2.out.stay hf5)
        obtain ⟨p5, n5, rfl⟩ := hv5.lenv
        have HVA := hid hv5
        have HAL := hid hAl
        obtain ⟨w6, hw6⟩ : ∃ w6, w6 = w5.alloc (.cells #[] 32) := ⟨_, rfl⟩
        have hf6 : Fr (fun _ => False) w5 w6 := hw6 ▸ (Fr.refl _ w5).alloc _
        have hn6 : Toks w6 w5.heap.size (.slice (some ⟨w5.heap.size, 0, none⟩) 0 0) [] := hw6 ▸ toks_new w5
        obtain ⟨v7, w7, hrun7, ht7, hf7⟩ := append_toks w6 w5.heap.size w.heap.size _ _ [] L hn6 (HV15.out.stay hf6) (by have := HX1.out; simp; omega) hf6.size
        have hf7' : Fr (fun _ => False) w5 w7 := hf6.trans hf7 (fun i hi e => own_lt hi e)
        obtain ⟨v8, w8, hrun8, ht8, hf8⟩ := append_toks w7 w5.heap.size w2.heap.size v7 _ ([] ++ L) M ht7 (HV25.out.stay hf7') (by have := HX1.out; have := HX2.out; simp; omega) hf7'.size
        have hf8' : Fr (fun _ => False) w5 w8 := hf7'.trans hf8 (fun i hi e => by have := (ht7.own e).1; omega)
        have HAK := hid (alike_c w8 _ v8 A (L ++ M) (hv5.tv.stay hf8') ht8.tv (by have h := hAl.len; rw [List.length_append] at h; have := HX1.out; have := HX2.out; omega) (by have := HX1.out; have := HX2.out; simp; omega))
        have HF8 := hid (HF5.out.trans hf8' (fun _ _ f => f))
        rw [alike_al.2 hAl] at HAK
        rw [hw6] at hrun7
        have HRUN7 := hid hrun7
        have HRUN8 := hid hrun8
        clear hrun7 hrun8
        obtain ⟨p7, n7, m7, hv7⟩ := ht7.form
        subst hv7
        obtain ⟨p8, n8, m8, hv8⟩ := ht8.form
        subst hv8
        clear hw6 hf6 hn6 ht7 hf7 hf7' ht8 hf8 hf8' hv5 hAl h5 hf5 hA HT4
        go_wp2_with (first
          | (at_builtin; refine wpList_append_run_g _ rfl _ _ _ _ rfl _ _ rfl rfl _ _ HRUN7.out ?_)
          | (at_builtin; refine wpList_append_run_g _ rfl _ _ _ _ rfl _ _ rfl rfl _ _ HRUN8.out ?_))
        refine HAK.out.mono ?_
        rintro e w9 ⟨rfl, hf9⟩
        have HF9 := hid (HF8.out.trans hf9 (fun _ _ f => f))
        clear hf9 HAK
        go_wp2_with fail
        go_ret
        exact ⟨rfl, HF9.out⟩
    · have h2e := lexP_err hE2
      have e2 : (c2 != 0) = true := by simp; omega
      clear hE2 h2e HR2
      as_aux_lemma =>
        go_wp2_with fail
        refine HT4.out.mono ?_
        intro e w5 hp
        obtain ⟨v5, j5, c5, rfl, hf5, hr5⟩ := tks_any hp
        have HF5 := hid (HF4.out.trans hf5 (fun _ _ f => f))
        clear hp hf5 HT4
        rcases hr5 with ⟨A, hA, rfl, rfl, hv5⟩ | ⟨hE5, rfl⟩
        · obtain ⟨p5, n5, rfl⟩ := hv5.lenv
          have hle := both_le HL.out hA
          rw [← HX1.out] at hle
          obtain ⟨x5, hx5⟩ : ∃ x, x = A.length := ⟨_, rfl⟩
          rw [← hx5] at hle ⊢
          clear hx5 hA hv5
          go_wp2_with fail
          go_ret
          exact ⟨rfl, HF5.out⟩
        · have h5 := lexP_err hE5
          have e5 : (c5 != 0) = true := by simp; omega
          clear hE5 h5
          go_wp2_with fail
          go_ret
          exact ⟨rfl, HF5.out⟩
  · -- s is wrong
    have hc := lexP_err hE
    have q1 : decide ((j1 : Int) < 0) = false := by simp
    have hj : j1 ≤ s.length := by
      rcases ahead_right hE with ⟨_, h⟩ | ⟨h, _⟩
      · omega
      · exact h
    have q2 : decide ((s.length : Int) < (j1 : Int)) = false := by simp; omega
    have q3 : (c1 == 0) = false := by simp; omega
    have q4 : (c1 != 0) = true := by simp; omega
    obtain ⟨z, hz⟩ : ∃ z : Int, z = (j1 : Int) := ⟨_, rfl⟩
    by_cases h54 : c1 = 54
    · have hj0 : j1 = 0 := by omega
      subst h54 hj0
      clear hz q3 q4 hc hE HR1
      as_aux_lemma =>
        go_wp2_with fail
        refine HFX1.out.mono ?_
        rintro e w4 ⟨rfl, hf4⟩
        have HF4 := hid (HF2.out.trans hf4 (fun _ _ f => f))
        clear hf4 HFX1
        go_wp2_with fail
        go_ret
        exact ⟨rfl, HF4.out⟩
    have q5 : (c1 == 54) = false := by simpa using h54
    obtain ⟨L4, hL4⟩ : ∃ L, lexP (s.take j1) = .ok L := by
      rcases ahead_right hE with ⟨h, _⟩ | ⟨_, h⟩
      · exact absurd h h54
      · exact h
    have sl : ∀ W, (Instr.slice 9 (.string (bs s)) none (some (.int .i64 (j1 : Int))) none).run Tryd.prog W = .ok (.string (bs (s.take j1))) W := fun W => by
      have := slice_to 9 Tryd.underlying9 W s (j1 : Int) (by omega) (by omega)
      rwa [Int.toNat_natCast] at this
    have HL4 := hid hL4
    clear hz hc hE HR1 hL4
    as_aux_lemma =>
      go_wp2_with fail
      refine HFX1.out.mono ?_
      rintro e w4 ⟨rfl, hf4⟩
      have HF4 := hid (HF2.out.trans hf4 (fun _ _ f => f))
      have HT4 := hid (HT.out w4 HF4.out (s.take j1))
      clear hf4 HFX1
      go_wp2_with fail
      refine HT4.out.mono ?_
      intro e w5 hp
      obtain ⟨v5, rfl, hv5, hf5⟩ := tks_ok hp HL4.out
      obtain ⟨A5, n5, rfl, -, -⟩ := hv5
      have HF5 := hid (HF4.out.trans hf5 (fun _ _ f => f))
      clear hp hf5 HT4
      go_wp2_with fail
      go_ret
      exact ⟨rfl, HF5.out⟩

end Go.Proofs.YtbmfmnkfdfdjbaaDoor.D
