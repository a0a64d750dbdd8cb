/-
  DiskNews: which bytes are a disk's, and how many sectors it has. No condition.
-/
import Derived.Test.YtcklnhjjjapfjaaDX
import Derived.Test.YtcklnhjjjapfjaaRN
namespace Go.Proofs.Ytcklnhjjjapfjaa.D
open Go.RowKit Go.Maps Go.Shelf
set_option linter.unusedVariables false
set_option linter.unusedSimpArgs false

set_option maxHeartbeats 8000000 in
set_option maxRecDepth 100000 in
theorem news_law (n : Int) (hn0 : -9223372036854775808 ≤ n) (w : World) : Calls Try.prog 3 #[.int .i64 n] w fun e w' => e = .returned (.bool true) ∧ Fr (fun _ => False) w w' := by
  obtain ⟨N, hN⟩ : ∃ N : Nat, N = (max 0 (min n 262208)).toNat := ⟨_, rfl⟩
  have hN2 : N ≤ 262208 := by omega
  have hmk := mkz N (by omega) w
  have hms := mks N w
  have HN := hid hN
  clear hN
  by_cases hI : IsImage (zero N)
  · have hI' := hI
    unfold IsImage at hI'
    simp only [zero, List.length_replicate] at hI'
    obtain ⟨i1, i2, i3⟩ := hI'
    obtain rfl : n = (N : Int) := by have := HN.out; omega
    have hmax : ∀ w, (Builtin.max_ #[3, 3] 3 #[.int .i64 0, .int .i64 (N : Int)]).run Try.prog w = .ok (.int .i64 (N : Int)) w := by
      intro w
      rw [run_max_int2]
      congr 2
      split <;> omega
    have HC1 := hid (new_c (w.alloc (.cells (bytesOf (zero N)).toArray 5)) (zero N) hI)
    have HI := hid hI
    have hbig : ¬ (262208 : Int) < N := by omega
    clear hI
    go_enter Try.func3, Try.ntmps3
    go_wp2_with fail
    refine HC1.out.mono ?_
    rintro e w2 ⟨g, bm, rfl, hA2, _, _, hf2⟩
    have HA2 := hid hA2
    have HF2 := hid (((Fr.refl (fun _ => False) w).alloc (.cells (bytesOf (zero N)).toArray 5)).trans hf2 (fun _ _ f => f))
    clear hA2 hf2 HC1
    have hmk2 := mkz N (by omega) w2
    have hms2 := mks N w2
    have HC2 := hid (rnew_c (w2.alloc (.cells (bytesOf (zero N)).toArray 5)) (zero N) HI.out)
    go_wp2_with fail
    refine HC2.out.mono ?_
    rintro e w3 ⟨g3, rfl, _, hb3⟩
    have hf3 := ((Fr.refl (fun _ => False) w2).alloc (.cells (bytesOf (zero N)).toArray 5)).trans (Fr.below hb3 (fun _ => False)) (fun _ _ f => f)
    have HA3 := hid (HA2.out.stay hf3)
    have HF3 := hid (HF2.out.trans hf3 (fun _ _ f => f))
    clear hf3 hb3 hmk2 hms2 HC2
    go_wp2_with fail
    refine (fixed_c w3).mono ?_
    rintro e w4 ⟨rfl, hf4⟩
    have HA4 := hid (HA3.out.stay hf4)
    have HF4 := hid (HF3.out.trans hf4 (fun _ _ f => f))
    have hok := news_ok HI.out
    have en : (news (zero N)).n = N / 64 := by simp [St.n, news, zero]
    have HCN := hid (count_c w4 g bm _ HA4.out hok)
    rw [en] at HCN
    have HU := hid (unsafe_c w4 g bm _ HA4.out hok)
    have HD := hid (show ∀ w', Fr (fun _ => False) w4 w' → Calls Try.prog 13 #[.pointer (some ⟨g, 0, none⟩)] w' fun e w'' => e = .returned (.bool false) ∧ w'' = w' from fun w' hf => dead_c w' g bm _ (HA4.out.stay hf))
    have eq1 : (((N / 64 : Nat) : Int) == (N : Int) / 64) = true := by simp
    clear hf4 hok en
    go_wp2_with fail
    refine HCN.out.mono ?_
    rintro e w5 ⟨rfl, rfl⟩
    go_wp2_with fail
    refine HU.out.mono ?_
    rintro e w6 ⟨v, rfl, ⟨a, cap, rfl, _⟩, _, hf6⟩
    have eU : (List.map (fun (i : Nat) => (i : Int)) (news (zero N)).unl).length = 0 := by simp [St.unl, news]
    rw [eU]
    have HF6 := hid (HF4.out.trans hf6 (fun _ _ f => f))
    have HD2 := hid (HD.out w6 hf6)
    clear hf6 eU
    go_wp2_with fail
    refine HD2.out.mono ?_
    rintro e w7 ⟨rfl, rfl⟩
    go_wp2_with fail
    go_ret
    exact ⟨rfl, HF6.out⟩
  have HI := hid hI
  have HC1 := hid (new_bad (w.alloc (.cells (bytesOf (zero N)).toArray 5)) (zero N) hI (by simp [zero]; omega))
  clear hI
  by_cases hbig : 262208 < n
  · skip
    have hmax : ∀ w, (Builtin.max_ #[3, 3] 3 #[.int .i64 0, .int .i64 (262208)]).run Try.prog w = .ok (.int .i64 (N : Int)) w := by
      intro w
      rw [run_max_int2]
      congr 2
      rw [HN.out]
      split <;> omega
    go_enter Try.func3, Try.ntmps3
    go_wp2_with fail
    refine HC1.out.mono ?_
    rintro e w2 ⟨rfl, e2⟩
    have HF2 := hid (show Fr (fun _ => False) w w2 from e2 ▸ (Fr.refl _ w).alloc _)
    clear e2
    have hmk2 := mkz N (by omega) w2
    have hms2 := mks N w2
    have HC2 := hid (rnew_bad (w2.alloc (.cells (bytesOf (zero N)).toArray 5)) (zero N) HI.out (by simp [zero]; omega))
    go_wp2_with fail
    refine HC2.out.mono ?_
    rintro e w3 ⟨rfl, e3⟩
    have HF3 := hid (show Fr (fun _ => False) w w3 from e3 ▸ (HF2.out.alloc _))
    clear e3 hmk2 hms2
    go_wp2_with fail
    refine (fixed_c w3).mono ?_
    rintro e w4 ⟨rfl, hf4⟩
    have HF4 := hid (HF3.out.trans hf4 (fun _ _ f => f))
    clear hf4
    go_wp2_with fail
    go_ret
    exact ⟨rfl, HF4.out⟩
  · skip
    have hmax : ∀ w, (Builtin.max_ #[3, 3] 3 #[.int .i64 0, .int .i64 (n)]).run Try.prog w = .ok (.int .i64 (N : Int)) w := by
      intro w
      rw [run_max_int2]
      congr 2
      rw [HN.out]
      split <;> omega
    go_enter Try.func3, Try.ntmps3
    go_wp2_with fail
    refine HC1.out.mono ?_
    rintro e w2 ⟨rfl, e2⟩
    have HF2 := hid (show Fr (fun _ => False) w w2 from e2 ▸ (Fr.refl _ w).alloc _)
    clear e2
    have hmk2 := mkz N (by omega) w2
    have hms2 := mks N w2
    have HC2 := hid (rnew_bad (w2.alloc (.cells (bytesOf (zero N)).toArray 5)) (zero N) HI.out (by simp [zero]; omega))
    go_wp2_with fail
    refine HC2.out.mono ?_
    rintro e w3 ⟨rfl, e3⟩
    have HF3 := hid (show Fr (fun _ => False) w w3 from e3 ▸ (HF2.out.alloc _))
    clear e3 hmk2 hms2
    go_wp2_with fail
    refine (fixed_c w3).mono ?_
    rintro e w4 ⟨rfl, hf4⟩
    have HF4 := hid (HF3.out.trans hf4 (fun _ _ f => f))
    clear hf4
    go_wp2_with fail
    go_ret
    exact ⟨rfl, HF4.out⟩

end Go.Proofs.Ytcklnhjjjapfjaa.D
