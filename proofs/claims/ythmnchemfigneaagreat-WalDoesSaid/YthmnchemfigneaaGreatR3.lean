/-
  The document's disk: left, After, Image, die. No condition beyond the disk's own.
-/
import Derived.Test.YthmnchemfigneaaGreatR2
namespace Go.Proofs.YthmnchemfigneaaGreat.D
open Go.RowKit Go.Maps Go.Shelf
set_option linter.unusedVariables false
set_option linter.unusedSimpArgs false

theorem uns_nil {S : St} (hs : S.Ok) (i : Nat) : (uns S i).isEmpty = (S.un i).isNone := by
  unfold uns
  cases h : S.un i with
  | none => rfl
  | some l =>
    have := (hs.un i l h).2
    cases l with
    | nil => simp at this
    | cons a l => rfl
theorem ul_unl {S : St} (hs : S.Ok) : ul (uns S) S.n = S.unl := by
  unfold ul St.unl
  congr 1
  funext i
  rw [uns_nil hs]
  cases S.un i <;> rfl
theorem piece_len {S : St} (hs : S.Ok) {i : Nat} (hi : i < S.n) : (piece S.safe i).length = 64 := by
  have := hs.safe
  simp only [piece, List.length_take, List.length_drop]
  omega
theorem sec_uns {S : St} (hs : S.Ok) (i : Nat) : (if uns S i = [] then piece S.safe i else uns S i) = sec S i := by
  have h1 := uns_nil hs i
  unfold sec
  cases h : S.un i with
  | none =>
    rw [h] at h1
    rw [if_pos (by simpa using h1)]
    rfl
  | some l =>
    rw [h] at h1
    rw [if_neg (by intro e; rw [e] at h1; simp at h1)]
    simp [uns, h]

theorem rows_cells {w : World} {b n : Nat} {f : Nat → List UInt8} (h : RowP w b n f) : ∀ (j : Nat) (v : Value), (rowOf f n)[j]? = some v → w.cell? ((⟨b, 0, none⟩ : Addr).add j) = some v := by
  intro j v hj
  have hj' : j < n := by have := (List.getElem?_eq_some_iff.1 hj).1; rwa [rowOf_length] at this
  have e1 : (⟨b, 0, none⟩ : Addr).add j = ⟨b, j, none⟩ := by unfold Addr.add; split <;> simp_all
  rw [e1, h.cell hj', ← hj, rowOf_get hj']
theorem rows_one {f : Nat → List UInt8} {n : Nat} : ∀ u ∈ rowOf f n, u.oneCell' = true := by
  intro u hu
  simp only [rowOf, List.mem_map] at hu
  obtain ⟨i, _, rfl⟩ := hu
  rfl

set_option maxHeartbeats 4000000 in
set_option maxRecDepth 100000 in
theorem rleft_c (w : World) (g b1 b2 : Nat) (S : St) (h : RA w g b1 b2 S) (hs : S.Ok) (kv : Value) (ks : List Int) (hk : IntsV w kv ks) :
    Calls Tryz.prog 55 #[.pointer (some ⟨g, 0, none⟩), kv] w fun e w' => ∃ b cap, e = .returned (.slice (some ⟨b, 0, none⟩) S.n cap) ∧
      RowP w' b S.n (piece (S.after ks)) ∧ w.heap.size ≤ b ∧ Fr (fun _ => False) w w' := by
  have HR := hid h
  have HS := hid hs
  have HK := hid hk
  have HLO := hid h.low
  obtain ⟨⟨c1, c2, kv', d1, _⟩, d3, d4, _⟩ := h
  obtain ⟨a, kc, rfl, hkl, _⟩ := hk
  obtain ⟨n, hn⟩ : ∃ n, n = S.n := ⟨_, rfl⟩
  have hn2 : n ≤ 4096 := by rw [hn]; exact hs.n2
  have hn1 : 0 < n := by rw [hn]; exact hs.n1
  rw [← hn] at d1 d3 d4 ⊢
  have k0 : (w.alloc (.cells #[] 9)).cell? ⟨g, 0, none⟩ = some (.slice (some ⟨b1, 0, none⟩) n c1) := by rw [World.cell?_alloc_past _ _ _ HLO.out.1]; exact cell_at d1 0
  obtain ⟨i0, hi, hz0, hz1, hz2⟩ := info_parts (show (Tryz.prog.info? 9).map (fun i => (i.zero, i.size, i.bytes)) = some (some (.string (bs [])), 1, 16) by kernel_rfl)
  have HB0 := hid (show Below w.heap.size w (w.alloc (.cells #[] 9)) from (Below.refl _ w).alloc (Nat.le_refl _) _)
  obtain ⟨v', w2, hrun, hown2, hgr2, _⟩ := run_append_own (P := Tryz.prog) (w.alloc (.cells #[] 9)) w.heap.size 65 65 9 i0 (.string (bs [])) 1 16 Tryz.underlying65 hi hz0 hz1 hz2 rfl (by decide)
    (.slice (some ⟨w.heap.size, 0, none⟩) 0 0) 0 [] (World.ownsRow_made w #[] 0 (Nat.le_refl _) (Nat.zero_le _) (by simp)) ⟨b1, 0, none⟩ n c1 (rowOf (piece S.safe) n) (by rw [rowOf_length, Nat.mul_one]) (rows_cells (d3.below (Nat.le_refl _) HB0.out)) rows_one (by unfold maxLen; omega) (by omega) (by simp)
  have HW2 := hid (HB0.out.grown hgr2 (by simp) (fun b hb => by simp [Value.ownBlock] at hb; omega))
  obtain ⟨gb, cap, rfl⟩ := Joins.ownsRow_form hown2 (by omega)
  have HGB := hid (hown2.lt gb rfl).1
  have hRB : RowP w2 gb n (piece S.safe) := by
    rw [Nat.zero_add, List.nil_append] at hown2
    exact RowP.of_own hown2 (fun i hi => rowOf_get hi)
  have HRB := hid hRB
  have HN := hid hn
  clear hn d1 d3 d4 hown2 hgr2 hs hRB
  go_enter Tryz.func55, Tryz.ntmps55
  go_wp2_with (at_builtin; refine wpList_append_run rfl (.tmp 8) (.tmp 12) 65 65 rfl _ _ _ _ rfl rfl hrun ?_)
  go_wp2_with fail
  have HR2 := hid (RC.below HR.out (Nat.le_refl _) HW2.out)
  have HUN := hid (runsafe_c w2 g b1 b2 S.n S.armed _ _ S.kept S.dead HR2.out HS.out.n2)
  clear hrun
  refine HUN.out.mono ?_
  rintro e w3 ⟨a3, cap3, rfl, hO3, hW3⟩
  rw [ul_unl HS.out] at hO3 ⊢
  obtain ⟨L, hL⟩ : ∃ L, L = S.unl := ⟨_, rfl⟩
  rw [← hL] at hO3 ⊢
  have HL := hid hL
  have HO3 := hid hO3
  have HF3 := hid (below_fr hW3 (Nat.le_refl _))
  have HRB3 := hid (HRB.out.keep HF3.out (fun f => f))
  have HR3 := hid (HR2.out.stay HF3.out)
  have HFW := hid ((below_fr HW2.out (Nat.le_refl _)).trans HF3.out (fun _ _ f => f))
  have HK3 := hid (HK.out.stay HFW.out)
  clear hL hO3 hW3
  have hLn : L.length ≤ 4096 := by
    have := ul_le (uns S) S.n
    rw [ul_unl HS.out, ← HL.out] at this
    have := HS.out.n2
    omega
  go_wp2_with fail
  go_loopw [7] (fun v wr => ∃ j : Nat, v = .int .i64 j ∧ j ≤ L.length ∧ Hid (RowP wr gb n (laid S ks j)) ∧ Hid (Fr (· = gb) w3 wr)) (fun i _ => L.length - (intOf i).toNat)
  case atStart => exact ⟨0, rfl, by omega, hid (HRB3.out.congr (fun i _ => (laid_zero S ks i).symm)), hid (Fr.refl _ _)⟩
  case round =>
    obtain ⟨j, rfl, hj, HRr, HF⟩ := hrel
    by_cases hend : j = L.length
    · subst hend
      go_wp2_with fail
      go_ret
      refine ⟨gb, cap, by simp, ?_, HGB.out, (HFW.out.trans HF.out (fun i hi e => by have := HGB.out; omega))⟩
      refine HRr.out.congr (fun i hi => ?_)
      rw [HL.out]
      exact laid_end HS.out ks i (by rw [← HN.out]; exact hi)
    · have hj' : j < L.length := by omega
      obtain ⟨x, hx⟩ : ∃ x, L[j]? = some x := ⟨L[j], List.getElem?_eq_getElem hj'⟩
      have hxx : S.unl[j]? = some x := by rw [← HL.out]; exact hx
      have hxm : x ∈ S.unl := List.mem_of_getElem? hxx
      have hxn : x < n := by rw [HN.out]; exact (mem_unl.1 hxm).1
      obtain ⟨l, hl⟩ := (mem_unl.1 hxm).2
      -- the list's cell
      obtain ⟨g3, hg3⟩ : ∃ g3, a3 = some ⟨g3, 0, none⟩ := by
        rcases HO3.out.2 with ⟨h0, h1⟩ | ⟨b', cap2, cur, h0, _⟩
        · omega
        · injection h0 with h0; exact ⟨b', h0⟩
      subst hg3
      have q3 := HO3.out.cells (g := g3) rfl j (.int .i64 x) (by simp [ivals, hx])
      have e1 : (⟨g3, 0, none⟩ : Addr).add j = ⟨g3, j, none⟩ := by unfold Addr.add; split <;> simp_all
      rw [e1] at q3
      have hne : ∀ c T, w3.heap[g3]? = some (.cells c T) → T ≠ 9 → g3 ≠ gb := fun c T h0 hT => rowP_apart HRB3.out h0 hT
      have hg3b : g3 ≠ gb := by
        rcases HO3.out.2 with ⟨h0, h1⟩ | ⟨b', cap2, cur, h0, _, hb, _⟩
        · omega
        · injection h0 with h0 _ _
          cases h0
          exact hne _ _ hb (by decide)
      have hcell : wr.cell? ⟨g3, j, none⟩ = some (.int .i64 x) := by
        have hlt := World.block_lt_of_cell? w3 _ q3
        rw [World.cell?_of_block (w := w3) (HF.out.block _ hlt hg3b)]
        exact q3
      have hlaid := laid_step (S := S) ks j x hxx
      -- the disk's cells
      obtain ⟨⟨d1', d2', kv3, m1, _⟩, m3, m4, m5⟩ := HR3.out
      have hgg : g ≠ gb := by have := HGB.out; have := HLO.out; omega
      have hb2g : b2 ≠ gb := by have := HGB.out; have := HLO.out; omega
      have k1 : wr.cell? ⟨g, 1, none⟩ = some (.slice (some ⟨b2, 0, none⟩) n d2') := by rw [HN.out]; exact cell_at (HF.out.at m1 hgg) 1
      have k2 : wr.cell? ⟨b2, x, none⟩ = some (.string (bs l)) := by
        have := (m4.keep HF.out hb2g).cell (i := x) (by rw [← HN.out]; exact hxn)
        rw [this]
        simp [uns, hl]
      have k3 : wr.frozen? ⟨gb, x, none⟩ = false := HRr.out.frozen x
      have k4 := HRr.out.cell hxn
      have HP := hid (show ∀ (b : Bool), comes ks j = b → ∀ i, i < n → (if b = true then (if i = x then l else laid S ks j i) else laid S ks j i) = laid S ks (j + 1) i from fun b hb i hi => by
        rw [hlaid i (by rw [← HN.out]; exact hi), hb]
        cases b
        · rfl
        · simp [sec, hl])
      clear hlaid m1 m3 m4 m5 hx hxx hxm hl q3 e1 hne hend
      by_cases hjk : j < ks.length
      · obtain ⟨bk, ok, rfl, kk⟩ : ∃ b o, a = some ⟨b, o, none⟩ ∧ ∀ j, j < ks.length → w3.cell? ⟨b, o + j, none⟩ = some (.int .i64 (ks.getD j 0)) := by
          obtain ⟨a', c', e0, _, h2⟩ := HK3.out
          injection e0 with e0 _ _
          subst e0
          rcases h2 with h2 | h2
          · subst h2; simp at hjk
          · exact h2
        have kq := kk j hjk
        have hkb : bk ≠ gb := by
          intro e
          have h9 := HK.out
          obtain ⟨a', c', e0, _, h2⟩ := h9
          injection e0 with e0 _ _
          rcases h2 with h2 | ⟨b, o, h2, h3⟩
          · subst h2; simp at hjk
          · subst h2
            injection e0 with e0
            injection e0 with e0 _ _
            have hlt := World.block_lt_of_cell? w _ (h3 j hjk)
            have := HGB.out
            simp only at hlt
            omega
        have hcz : wr.cell? ⟨bk, ok + j, none⟩ = some (.int .i64 (ks.getD j 0)) := by
          have hlt := World.block_lt_of_cell? w3 _ kq
          rw [World.cell?_of_block (w := w3) (HF.out.block _ hlt hkb)]
          exact kq
        have hr : comes ks j = decide (0 < ks.getD j 0) := by simp only [comes, hjk, decide_true, Bool.true_and]
        have HR9 := hid hr
        clear kq kk hr
        generalize ks.getD j 0 = z at hcz HR9
        by_cases hz : 0 < z
        · have HP2 := hid (HP.out true (by rw [HR9.out]; simp [hz]))
          go_wp2_with fail
          go_region
          go_wp2_with fail
          all_goals (
            first | go_roundw | skip
            case measure => simp [intOf]; omega
            exact ⟨j + 1, rfl, by omega, hid ((HRr.out.set hxn l).congr (fun i hi => HP2.out i hi)), hid (HF.out.trans (fr_set1 _ _ _ _).drew (fun _ _ e => e))⟩)
        · have HP2 := hid (HP.out false (by rw [HR9.out]; simp [hz]))
          go_wp2_with fail
          all_goals (
            first | go_roundw | skip
            case measure => simp [intOf]; omega
            exact ⟨j + 1, rfl, by omega, hid (HRr.out.congr (fun i hi => HP2.out i hi)), HF⟩)
      · have HP2 := hid (HP.out false (by simp [comes, hjk]))
        go_wp2_with fail
        all_goals (
          first | go_roundw | skip
          case measure => simp [intOf]; omega
          exact ⟨j + 1, rfl, by omega, hid (HRr.out.congr (fun i hi => HP2.out i hi)), HF⟩)

end Go.Proofs.YthmnchemfigneaaGreat.D
