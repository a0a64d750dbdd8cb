/-
  WalOnce. No condition.
-/
import Derived.Test.YthmnchemfigneaaWX2
namespace Go.Proofs.Ythmnchemfigneaa.D
open Go.RowKit Go.Maps Go.Shelf
set_option linter.unusedVariables false
set_option linter.unusedSimpArgs false

theorem secsOf_first (n : Nat) (r : List UInt8) : (secsOf n r).take 64 = one n (many r.length) r 0 := by
  have h := secsOf_piece n r 0 (many_pos _)
  simpa [piece] using h
theorem secsOf_number {n m : Nat} {r s : List UInt8} (hn : n < 18446744073709551616) (hm : m < 18446744073709551616) (h : (secsOf n r).take 64 = (secsOf m s).take 64) : n = m := by
  rw [secsOf_first, secsOf_first] at h
  have h2 := congrArg (List.take 8) h
  rw [one_no, one_no] at h2
  exact be_inj (k := 8) (by omega) (by omega) h2
theorem secsOf_inj {n m : Nat} {r s : List UInt8} (hn : n < 18446744073709551616) (hm : m < 18446744073709551616) (h : secsOf n r = secsOf m s) : n = m ∧ r = s := by
  have h1 : n = m := secsOf_number hn hm (by rw [h])
  subst h1
  refine ⟨rfl, ?_⟩
  have hl := congrArg List.length h
  rw [secsOf_len, secsOf_len] at hl
  have hmany : many r.length = many s.length := by omega
  have hp : ∀ i, i < many r.length → part r i = part s i := fun i hi => by
    have h3 : piece (secsOf n r) i = piece (secsOf n s) i := by rw [h]
    rw [secsOf_piece n r i hi, secsOf_piece n s i (by omega), hmany] at h3
    have h4 := congrArg (fun x => (x.drop 12).take 2) h3
    simp only [one_long] at h4
    have l1 := part_len r i
    have l2 := part_len s i
    have h5 := be_inj (k := 2) (by omega) (by omega) h4
    have h6 := congrArg (fun x => (x.drop 16).take (part r i).length) h3
    simp only [one_part] at h6
    rw [h5, one_part] at h6
    exact h6
  rw [← cat_parts r, ← cat_parts s, ← hmany]
  congr 1
  funext i
  by_cases hi : i < many r.length
  · exact hp i hi
  · unfold part
    have e1 : r.length ≤ 48 * i := by unfold many at hi; omega
    have e2 : s.length ≤ 48 * i := by rw [hmany] at hi; unfold many at hi; omega
    rw [List.drop_of_length_le e1, List.drop_of_length_le e2]

theorem secsR_bad {n : Int} {r : List UInt8} (h : (secsR n r).2 ≠ 0) : (secsR n r).1 = [] := by
  unfold secsR at *
  split
  · rfl
  · rename_i h1
    rw [if_neg h1] at h
    split
    · rfl
    · rename_i h2; rw [if_neg h2] at h; exact absurd rfl h
theorem secsR_ok {n : Int} {r : List UInt8} (h : (secsR n r).2 = 0) : 1 ≤ n ∧ n ≤ 1152921504606846976 ∧ r.length ≤ 16384 ∧ (secsR n r).1 = secsOf n.toNat r := by
  unfold secsR at *
  split
  · rename_i h1; rw [if_pos h1] at h; cases h
  · rename_i h1
    rw [if_neg h1] at h
    split
    · rename_i h2; rw [if_pos h2] at h; cases h
    · exact ⟨by omega, by omega, by omega, rfl⟩

set_option maxHeartbeats 8000000 in
set_option maxRecDepth 100000 in
theorem once_law (n m : Int) (r s : List UInt8) (hr : r.length ≤ 9223372036854775807) (hs : s.length ≤ 9223372036854775807) (w : World) :
    Calls Try.prog 4 #[.agg #[.int .i64 n, .int .i64 m, .string (bs r), .string (bs s)]] w fun e w' => e = .returned (.bool true) ∧ Fr (fun _ => False) w w' := by
  have hzr : (bs r).size = r.length := by simp [bs, ByteArray.size]
  obtain ⟨A, hA⟩ : ∃ A, A = secsR n r := ⟨_, rfl⟩
  obtain ⟨B, hB⟩ : ∃ B, B = secsR m s := ⟨_, rfl⟩
  have H1 := hid (fun W : World => sectors_x W n r hr)
  have H2 := hid (fun W : World => sectors_x W m s hs)
  have b1 : A.2 ≠ 0 → A.1 = [] := hA ▸ secsR_bad
  have b2 : B.2 ≠ 0 → B.1 = [] := hB ▸ secsR_bad
  have k1 : A.2 = 0 → 1 ≤ n ∧ n ≤ 1152921504606846976 ∧ r.length ≤ 16384 ∧ A.1 = secsOf n.toNat r := hA ▸ secsR_ok
  have k2 : B.2 = 0 → 1 ≤ m ∧ m ≤ 1152921504606846976 ∧ s.length ≤ 16384 ∧ B.1 = secsOf m.toNat s := hB ▸ secsR_ok
  rw [← hA] at H1
  rw [← hB] at H2
  obtain ⟨a, e⟩ := A
  obtain ⟨b, f⟩ := B
  simp only at H1 H2 b1 b2 k1 k2
  have HB1 := hid b1
  have HB2 := hid b2
  have HK1 := hid k1
  have HK2 := hid k2
  have hf0 : Fr (fun _ => False) w (w.alloc (.cells #[.int .i64 n, .int .i64 m, .string (bs r), .string (bs s)] 28)) := (Fr.refl _ w).alloc _
  have HF0 := hid hf0
  have hnew := (MapKept.heap_alloc w (.cells #[.int .i64 n, .int .i64 m, .string (bs r), .string (bs s)] 28)).1
  obtain ⟨w1, hw1⟩ : ∃ w1, w1 = w.alloc (.cells #[.int .i64 n, .int .i64 m, .string (bs r), .string (bs s)] 28) := ⟨_, rfl⟩
  rw [← hw1] at hnew HF0
  have c0 : w1.cell? ⟨w.heap.size, 0, none⟩ = some (.int .i64 n) := cell_at hnew 0
  have c1 : w1.cell? ⟨w.heap.size, 1, none⟩ = some (.int .i64 m) := cell_at hnew 1
  have c2 : w1.cell? ⟨w.heap.size, 2, none⟩ = some (.string (bs r)) := cell_at hnew 2
  have c3 : w1.cell? ⟨w.heap.size, 3, none⟩ = some (.string (bs s)) := cell_at hnew 3
  clear hA hB b1 b2 k1 k2 hf0 hnew
  go_enter Try.func4, Try.ntmps4
  go_wp2_with fail
  rw [← hw1]
  clear hw1
  go_quiet (fail)
  go_wp2_with fail
  refine (H1.out _).mono ?_
  rintro e w2 ⟨rfl, hf2⟩
  have HF2 := hid ((HF0.out.trans fr_drewN (fun _ _ f => f)).trans hf2 (fun _ _ f => f))
  clear hf2 c0 c1 c2 c3
  go_wp2_with fail
  refine (H2.out _).mono ?_
  rintro e w3 ⟨rfl, hf3⟩
  have HF3 := hid (HF2.out.trans hf3 (fun _ _ f => f))
  clear hf3
  go_wp2_with fail
  by_cases he : e = 0
  · obtain ⟨n1, n2, rl, ra⟩ := HK1.out he
    obtain ⟨M, hM⟩ : ∃ M, M = many r.length := ⟨_, rfl⟩
    have hal : (a.length : Int) = 64 * (M : Int) := by rw [ra, secsOf_len, hM]; omega
    have q0 : ((a.length : Int) != 64 * (M : Int)) = false := by simp [hal]
    have hmax : ∀ w, (Builtin.max_ #[3, 3] 3 #[.int .i64 1, .int .i64 (((r.length : Int) + 47) / 48)]).run Try.prog w = .ok (.int .i64 (M : Int)) w := by
      intro w
      rw [run_max_int2]
      congr 2
      rw [hM]
      unfold many
      split <;> omega
    have hM2 : M ≤ 342 := by rw [hM]; unfold many; omega
    have hza : (bs a).size = a.length := by simp [bs, ByteArray.size]
    have HAL := hid hal
    have HRA := hid ra
    have HN := hid (And.intro n1 n2)
    subst he
    clear hM hal ra n1 n2
    by_cases hf : f = 0
    · obtain ⟨m1, m2, sl, sb⟩ := HK2.out hf
      subst hf
      have HSB := hid sb
      have hb64 : 64 ≤ b.length := by rw [sb, secsOf_len]; have := many_pos s.length; omega
      have ha64 : 64 ≤ a.length := by rw [HRA.out, secsOf_len]; have := many_pos r.length; omega
      obtain ⟨a6, ha6⟩ : ∃ x, x = a.take 64 := ⟨_, rfl⟩
      obtain ⟨b6, hb6⟩ : ∃ x, x = b.take 64 := ⟨_, rfl⟩
      have hs1 : ∀ w, (Instr.slice 9 (.string (bs a)) none (some (.int .i64 64)) none).run Try.prog w = .ok (.string (bs a6)) w := fun w => by
        have := slice_to (P := Try.prog) 9 Try.underlying9 w a 64 (by omega) (by omega)
        rwa [show (64 : Int).toNat = 64 from rfl, ← ha6] at this
      have hs2 : ∀ w, (Instr.slice 9 (.string (bs b)) none (some (.int .i64 64)) none).run Try.prog w = .ok (.string (bs b6)) w := fun w => by
        have := slice_to (P := Try.prog) 9 Try.underlying9 w b 64 (by omega) (by omega)
        rwa [show (64 : Int).toNat = 64 from rfl, ← hb6] at this
      have e1 : (n.toNat : Int) = n := by have := HN.out; omega
      have e2 : (m.toNat : Int) = m := by omega
      have hb1 : n.toNat < 18446744073709551616 := by have := HN.out; omega
      have hb2 : m.toNat < 18446744073709551616 := by omega
      by_cases hnm : n = m
      · by_cases hrs : r = s
        · have k1 : (a == b) = true := by rw [HRA.out, HSB.out, hnm, hrs]; simp
          have k2 : (n == m) = true := by simpa using hnm
          have k3 : (r == s) = true := by simpa using hrs
          clear sb hb64 ha64 e1 e2 hb1 hb2 ha6 hb6 hnm hrs m1 m2 hs1 hs2
          go_wp2_with (go_at_call 9; refine (fixed_c _).mono ?_; rintro e w4 ⟨rfl, hf4⟩)
          have HF4 := hid (HF3.out.trans hf4 (fun _ _ f => f))
          clear hf4
          go_quiet (fail)
          go_wp2_with fail
          go_ret
          exact ⟨rfl, HF4.out.trans fr_drewN (fun _ _ f => f)⟩
        · have k1 : (a == b) = false := by
            simp only [beq_eq_false_iff_ne, ne_eq]
            intro e
            rw [HRA.out, HSB.out] at e
            exact hrs (secsOf_inj hb1 hb2 e).2
          have k2 : (n == m) = true := by simpa using hnm
          have k3 : (r == s) = false := by simpa using hrs
          clear sb hb64 ha64 e1 e2 hb1 hb2 ha6 hb6 hnm hrs m1 m2 hs1 hs2
          go_wp2_with (go_at_call 9; refine (fixed_c _).mono ?_; rintro e w4 ⟨rfl, hf4⟩)
          have HF4 := hid (HF3.out.trans hf4 (fun _ _ f => f))
          clear hf4
          go_quiet (fail)
          go_wp2_with fail
          go_ret
          exact ⟨rfl, HF4.out.trans fr_drewN (fun _ _ f => f)⟩
      · have k1 : (a == b) = false := by
          simp only [beq_eq_false_iff_ne, ne_eq]
          intro e
          rw [HRA.out, HSB.out] at e
          have := (secsOf_inj hb1 hb2 e).1
          omega
        have k2 : (n == m) = false := by simpa using hnm
        have k4 : (a6 == b6) = false := by
          simp only [beq_eq_false_iff_ne, ne_eq]
          intro e
          rw [ha6, hb6, HRA.out, HSB.out] at e
          have := secsOf_number hb1 hb2 e
          omega
        have k5 : (!a6 == b6) = true := by rw [k4]; rfl
        clear sb hb64 ha64 e1 e2 hb1 hb2 ha6 hb6 hnm m1 m2
        go_wp2_with (go_at_call 9; refine (fixed_c _).mono ?_; rintro e w4 ⟨rfl, hf4⟩)
        have HF4 := hid (HF3.out.trans hf4 (fun _ _ f => f))
        clear hf4
        go_quiet (fail)
        go_wp2_with fail
        go_ret
        exact ⟨rfl, HF4.out.trans fr_drewN (fun _ _ f => f)⟩
    · have hb0 := HB2.out hf
      subst hb0
      have q1 : (f == 0) = false := by simpa using hf
      have q2 : (f != 0) = true := by simpa using hf
      clear hf
      go_wp2_with (go_at_call 9; refine (fixed_c _).mono ?_; rintro e w4 ⟨rfl, hf4⟩)
      go_ret
      exact ⟨rfl, HF3.out.trans hf4 (fun _ _ f => f)⟩
  · have ha0 := HB1.out he
    subst ha0
    have q1 : (e == 0) = false := by simpa using he
    have q2 : (e != 0) = true := by simpa using he
    by_cases hf : f = 0
    · subst hf
      clear he
      go_wp2_with (go_at_call 9; refine (fixed_c _).mono ?_; rintro e w4 ⟨rfl, hf4⟩)
      go_ret
      exact ⟨rfl, HF3.out.trans hf4 (fun _ _ f => f)⟩
    · have hb0 := HB2.out hf
      subst hb0
      have q3 : (f == 0) = false := by simpa using hf
      have q4 : (f != 0) = true := by simpa using hf
      clear he hf
      go_wp2_with (go_at_call 9; refine (fixed_c _).mono ?_; rintro e w4 ⟨rfl, hf4⟩)
      go_ret
      exact ⟨rfl, HF3.out.trans hf4 (fun _ _ f => f)⟩

end Go.Proofs.Ythmnchemfigneaa.D
