/-
  The document's disk: left, After, Image, die. No condition beyond the disk's own.
-/
import Derived.Test.YtjkhcfdflcndkaaGreatKO17
import Derived.Deep.DeepCutAuto
namespace Go.Proofs.YtjkhcfdflcndkaaGreat.D
open Go.RowKit Go.Maps Go.Shelf
set_option linter.unusedVariables false
set_option linter.unusedSimpArgs false

theorem uns_nil {S : St} (hs : S.Ok) (i : Nat) : (uns S i).isEmpty = (S.un i).isNone := by
  unfold uns
  cases h : S.un i with
  | none => rfl
  | some l =>
    have := (hs.un i l h).2
    cases l with
    | nil => simp at this
    | cons a l => rfl
theorem ul_unl {S : St} (hs : S.Ok) : ul (uns S) S.n = S.unl := by
  unfold ul St.unl
  congr 1
  funext i
  rw [uns_nil hs]
  cases S.un i <;> rfl
theorem piece_len {S : St} (hs : S.Ok) {i : Nat} (hi : i < S.n) : (piece S.safe i).length = 64 := by
  have := hs.safe
  simp only [piece, List.length_take, List.length_drop]
  omega
theorem sec_uns {S : St} (hs : S.Ok) (i : Nat) : (if uns S i = [] then piece S.safe i else uns S i) = sec S i := by
  have h1 := uns_nil hs i
  unfold sec
  cases h : S.un i with
  | none =>
    rw [h] at h1
    rw [if_pos (by simpa using h1)]
    rfl
  | some l =>
    rw [h] at h1
    rw [if_neg (by intro e; rw [e] at h1; simp at h1)]
    simp [uns, h]

theorem rows_cells {w : World} {b n : Nat} {f : Nat → List UInt8} (h : RowP w b n f) : ∀ (j : Nat) (v : Value), (rowOf f n)[j]? = some v → w.cell? ((⟨b, 0, none⟩ : Addr).add j) = some v := by
  intro j v hj
  have hj' : j < n := by have := (List.getElem?_eq_some_iff.1 hj).1; rwa [rowOf_length] at this
  have e1 : (⟨b, 0, none⟩ : Addr).add j = ⟨b, j, none⟩ := by unfold Addr.add; split <;> simp_all
  rw [e1, h.cell hj', ← hj, rowOf_get hj']
theorem rows_one {f : Nat → List UInt8} {n : Nat} : ∀ u ∈ rowOf f n, u.oneCell' = true := by
  intro u hu
  simp only [rowOf, List.mem_map] at hu
  obtain ⟨i, _, rfl⟩ := hu
  rfl

set_option maxHeartbeats 4000000 in
set_option maxRecDepth 100000 in
theorem rleft_c (w : World) (g b1 b2 : Nat) (S : St) (h : RA w g b1 b2 S) (hs : S.Ok) (kv : Value) (ks : List Int) (hk : IntsV w kv ks) :
    Calls Tryz.prog 78 #[.pointer (some ⟨g, 0, none⟩), kv] w fun e w' => ∃ b cap, e = .returned (.slice (some ⟨b, 0, none⟩) S.n cap) ∧
      RowP w' b S.n (piece (S.after ks)) ∧ w.heap.size ≤ b ∧ Fr (fun _ => False) w w' := by
  have HR := hid h
  have HS := hid hs
  have HK := hid hk
  have HLO := hid h.low
  obtain ⟨⟨c1, c2, kv', d1, _⟩, d3, d4, _⟩ := h
  obtain ⟨a, kc, rfl, hkl, _⟩ := hk
  obtain ⟨n, hn⟩ : ∃ n, n = S.n := ⟨_, rfl⟩
  have hn2 : n ≤ 4096 := by rw [hn]; exact hs.n2
  have hn1 : 0 < n := by rw [hn]; exact hs.n1
  rw [← hn] at d1 d3 d4 ⊢
  have k0 : (w.alloc (.cells #[] 9)).cell? ⟨g, 0, none⟩ = some (.slice (some ⟨b1, 0, none⟩) n c1) := by rw [World.cell?_alloc_past _ _ _ HLO.out.1]; exact cell_at d1 0
  obtain ⟨i0, hi, hz0, hz1, hz2⟩ := info_parts (show (Tryz.prog.info? 9).map (fun i => (i.zero, i.size, i.bytes)) = some (some (.string (bs [])), 1, 16) by kernel_rfl)
  have HB0 := hid (show Below w.heap.size w (w.alloc (.cells #[] 9)) from (Below.refl _ w).alloc (Nat.le_refl _) _)
  obtain ⟨v', w2, hrun, hown2, hgr2, _⟩ := run_append_own (P := Tryz.prog) (w.alloc (.cells #[] 9)) w.heap.size 79 79 9 i0 (.string (bs [])) 1 16 Tryz.underlying79 hi hz0 hz1 hz2 rfl (by decide)
    (.slice (some ⟨w.heap.size, 0, none⟩) 0 0) 0 [] (World.ownsRow_made w #[] 0 (Nat.le_refl _) (Nat.zero_le _) (by simp)) ⟨b1, 0, none⟩ n c1 (rowOf (piece S.safe) n) (by rw [rowOf_length, Nat.mul_one]) (rows_cells (d3.below (Nat.le_refl _) HB0.out)) rows_one (by unfold maxLen; omega) (by omega) (by simp)
  have HW2 := hid (HB0.out.grown hgr2 (by simp) (fun b hb => by simp [Value.ownBlock] at hb; omega))
  obtain ⟨gb, cap, rfl⟩ := Joins.ownsRow_form hown2 (by omega)
  have HGB := hid (hown2.lt gb rfl).1
  have hRB : RowP w2 gb n (piece S.safe) := by
    rw [Nat.zero_add, List.nil_append] at hown2
    exact RowP.of_own hown2 (fun i hi => rowOf_get hi)
  have HRB := hid hRB
  have HN := hid hn
  clear hn d1 d3 d4 hown2 hgr2 hs hRB
  go_enter Tryz.func78, Tryz.ntmps78
  go_wp2_with (at_builtin; refine wpList_append_run rfl (.tmp 8) (.tmp 12) 79 79 rfl _ _ _ _ rfl rfl hrun ?_)
  go_wp2_with fail
  have HR2 := hid (RC.below HR.out (Nat.le_refl _) HW2.out)
  have HUN := hid (runsafe_c w2 g b1 b2 S.n S.armed _ _ S.kept S.dead HR2.out HS.out.n2)
  clear hrun
  refine HUN.out.mono ?_
  rintro e w3 ⟨a3, cap3, rfl, hO3, hW3⟩
  rw [ul_unl HS.out] at hO3 ⊢
  obtain ⟨L, hL⟩ : ∃ L, L = S.unl := ⟨_, rfl⟩
  rw [← hL] at hO3 ⊢
  have HL := hid hL
  have HO3 := hid hO3
  have HF3 := hid (below_fr hW3 (Nat.le_refl _))
  have HRB3 := hid (HRB.out.keep HF3.out (fun f => f))
  have HR3 := hid (HR2.out.stay HF3.out)
  have HFW := hid ((below_fr HW2.out (Nat.le_refl _)).trans HF3.out (fun _ _ f => f))
  have HK3 := hid (HK.out.stay HFW.out)
  clear hL hO3 hW3
  have hLn : L.length ≤ 4096 := by
    have := ul_le (uns S) S.n
    rw [ul_unl HS.out, ← HL.out] at this
    have := HS.out.n2
    omega
  go_wp2_with fail
  go_loopw [7] (fun v wr => ∃ j : Nat, v = .int .i64 j ∧ j ≤ L.length ∧ Hid (RowP wr gb n (laid S ks j)) ∧ Hid (Fr (· = gb) w3 wr)) (fun i _ => L.length - (intOf i).toNat)
  case atStart => exact ⟨0, rfl, by omega, hid (HRB3.out.congr (fun i _ => (laid_zero S ks i).symm)), hid (Fr.refl _ _)⟩
  case round =>
    obtain ⟨j, rfl, hj, HRr, HF⟩ := hrel
    by_cases hend : j = L.length
    · subst hend
      go_wp2_with fail
      go_ret
      refine ⟨gb, cap, by simp, ?_, HGB.out, (HFW.out.trans HF.out (fun i hi e => by have := HGB.out; omega))⟩
      refine HRr.out.congr (fun i hi => ?_)
      rw [HL.out]
      exact laid_end HS.out ks i (by rw [← HN.out]; exact hi)
    · have hj' : j < L.length := by omega
      obtain ⟨x, hx⟩ : ∃ x, L[j]? = some x := ⟨L[j], List.getElem?_eq_getElem hj'⟩
      have hxx : S.unl[j]? = some x := by rw [← HL.out]; exact hx
      have hxm : x ∈ S.unl := List.mem_of_getElem? hxx
      have hxn : x < n := by rw [HN.out]; exact (mem_unl.1 hxm).1
      obtain ⟨l, hl⟩ := (mem_unl.1 hxm).2
      -- the list's cell
      obtain ⟨g3, hg3⟩ : ∃ g3, a3 = some ⟨g3, 0, none⟩ := by
        rcases HO3.out.2 with ⟨h0, h1⟩ | ⟨b', cap2, cur, h0, _⟩
        · omega
        · injection h0 with h0; exact ⟨b', h0⟩
      subst hg3
      have q3 := HO3.out.cells (g := g3) rfl j (.int .i64 x) (by simp [ivals, hx])
      have e1 : (⟨g3, 0, none⟩ : Addr).add j = ⟨g3, j, none⟩ := by unfold Addr.add; split <;> simp_all
      rw [e1] at q3
      have hne : ∀ c T, w3.heap[g3]? = some (.cells c T) → T ≠ 9 → g3 ≠ gb := fun c T h0 hT => rowP_apart HRB3.out h0 hT
      have hg3b : g3 ≠ gb := by
        rcases HO3.out.2 with ⟨h0, h1⟩ | ⟨b', cap2, cur, h0, _, hb, _⟩
        · omega
        · injection h0 with h0 _ _
          cases h0
          exact hne _ _ hb (by decide)
      have hcell : wr.cell? ⟨g3, j, none⟩ = some (.int .i64 x) := by
        have hlt := World.block_lt_of_cell? w3 _ q3
        rw [World.cell?_of_block (w := w3) (HF.out.block _ hlt hg3b)]
        exact q3
      have hlaid := laid_step (S := S) ks j x hxx
      -- the disk's cells
      obtain ⟨⟨d1', d2', kv3, m1, _⟩, m3, m4, m5⟩ := HR3.out
      have hgg : g ≠ gb := by have := HGB.out; have := HLO.out; omega
      have hb2g : b2 ≠ gb := by have := HGB.out; have := HLO.out; omega
      have k1 : wr.cell? ⟨g, 1, none⟩ = some (.slice (some ⟨b2, 0, none⟩) n d2') := by rw [HN.out]; exact cell_at (HF.out.at m1 hgg) 1
      have k2 : wr.cell? ⟨b2, x, none⟩ = some (.string (bs l)) := by
        have := (m4.keep HF.out hb2g).cell (i := x) (by rw [← HN.out]; exact hxn)
        rw [this]
        simp [uns, hl]
      have k3 : wr.frozen? ⟨gb, x, none⟩ = false := HRr.out.frozen x
      have k4 := HRr.out.cell hxn
      have HP := hid (show ∀ (b : Bool), comes ks j = b → ∀ i, i < n → (if b = true then (if i = x then l else laid S ks j i) else laid S ks j i) = laid S ks (j + 1) i from fun b hb i hi => by
        rw [hlaid i (by rw [← HN.out]; exact hi), hb]
        cases b
        · rfl
        · simp [sec, hl])
      clear hlaid m1 m3 m4 m5 hx hxx hxm hl q3 e1 hne hend
      by_cases hjk : j < ks.length
      · obtain ⟨bk, ok, rfl, kk⟩ : ∃ b o, a = some ⟨b, o, none⟩ ∧ ∀ j, j < ks.length → w3.cell? ⟨b, o + j, none⟩ = some (.int .i64 (ks.getD j 0)) := by
          obtain ⟨a', c', e0, _, h2⟩ := HK3.out
          injection e0 with e0 _ _
          subst e0
          rcases h2 with h2 | h2
          · subst h2; simp at hjk
          · exact h2
        have kq := kk j hjk
        have hkb : bk ≠ gb := by
          intro e
          have h9 := HK.out
          obtain ⟨a', c', e0, _, h2⟩ := h9
          injection e0 with e0 _ _
          rcases h2 with h2 | ⟨b, o, h2, h3⟩
          · subst h2; simp at hjk
          · subst h2
            injection e0 with e0
            injection e0 with e0 _ _
            have hlt := World.block_lt_of_cell? w _ (h3 j hjk)
            have := HGB.out
            simp only at hlt
            omega
        have hcz : wr.cell? ⟨bk, ok + j, none⟩ = some (.int .i64 (ks.getD j 0)) := by
          have hlt := World.block_lt_of_cell? w3 _ kq
          rw [World.cell?_of_block (w := w3) (HF.out.block _ hlt hkb)]
          exact kq
        have hr : comes ks j = decide (0 < ks.getD j 0) := by simp only [comes, hjk, decide_true, Bool.true_and]
        have HR9 := hid hr
        clear kq kk hr
        generalize ks.getD j 0 = z at hcz HR9
        by_cases hz : 0 < z
        · have HP2 := hid (HP.out true (by rw [HR9.out]; simp [hz]))
          go_wp2_with fail
          go_region
          go_wp2_with fail
          all_goals (
            first | go_roundw | skip
            case measure => simp [intOf]; omega
            exact ⟨j + 1, rfl, by omega, hid ((HRr.out.set hxn l).congr (fun i hi => HP2.out i hi)), hid (HF.out.trans (fr_set1 _ _ _ _).drew (fun _ _ e => e))⟩)
        · have HP2 := hid (HP.out false (by rw [HR9.out]; simp [hz]))
          go_wp2_with fail
          all_goals (
            first | go_roundw | skip
            case measure => simp [intOf]; omega
            exact ⟨j + 1, rfl, by omega, hid (HRr.out.congr (fun i hi => HP2.out i hi)), HF⟩)
      · have HP2 := hid (HP.out false (by simp [comes, hjk]))
        go_wp2_with fail
        all_goals (
          first | go_roundw | skip
          case measure => simp [intOf]; omega
          exact ⟨j + 1, rfl, by omega, hid (HRr.out.congr (fun i hi => HP2.out i hi)), HF⟩)

end Go.Proofs.YtjkhcfdflcndkaaGreat.D

/-
  The document's disk: After, Image, die. No condition beyond the disk's own.
-/
namespace Go.Proofs.YtjkhcfdflcndkaaGreat.D
open Go.RowKit Go.Maps Go.Shelf
set_option linter.unusedVariables false
set_option linter.unusedSimpArgs false

theorem piece_le (l : List UInt8) (i : Nat) : (piece l i).length ≤ 64 := by simp only [piece, List.length_take]; omega
theorem after_len {S : St} (hs : S.Ok) (ks : List Int) : (S.after ks).length = 64 * S.n := by
  have h1 : (S.after ks).length = S.safe.length := left_length hs _
  rw [h1]; exact hs.safe

theorem rafter_c (w : World) (g b1 b2 : Nat) (S : St) (h : RA w g b1 b2 S) (hs : S.Ok) (kv : Value) (ks : List Int) (hk : IntsV w kv ks) :
    Calls Tryz.prog 40 #[.pointer (some ⟨g, 0, none⟩), kv] w fun e w' => e = .returned (.string (bs (S.after ks))) ∧ Fr (fun _ => False) w w' := by
  have HL := hid (rleft_c w g b1 b2 S h hs kv ks hk)
  have HS := hid hs
  clear h hs hk
  go_enter Tryz.func40, Tryz.ntmps40
  go_wp2_with fail
  refine HL.out.mono ?_
  rintro e w2 ⟨b, cap, rfl, hr, hb, hf⟩
  have HJ := hid (rjoin_c w2 b S.n cap _ hr HS.out.n2 (fun i _ => piece_le _ _))
  rw [cat_piece (after_len HS.out ks)] at HJ
  have HF := hid hf
  clear hr hf
  go_wp2_with fail
  refine HJ.out.mono ?_
  rintro e w3 ⟨rfl, hf3⟩
  have HF3 := hid hf3
  clear hf3
  go_wp2_with fail
  go_ret
  exact ⟨rfl, HF.out.trans HF3.out (fun _ _ f => f)⟩

theorem cat_image {S : St} (hs : S.Ok) : cat (sec S) S.n = S.image := by
  have h1 : S.image.length = 64 * S.n := by rw [image_length hs]; exact hs.safe
  rw [← cat_piece h1]
  exact cat_congr (fun i _ => (image_piece hs i).symm)

set_option maxHeartbeats 4000000 in
set_option maxRecDepth 100000 in
theorem rimage_c (w : World) (g b1 b2 : Nat) (S : St) (h : RA w g b1 b2 S) (hs : S.Ok) :
    Calls Tryz.prog 16 #[.pointer (some ⟨g, 0, none⟩)] w fun e w' => e = .returned (.string (bs S.image)) ∧ Fr (fun _ => False) w w' := by
  have HR := hid h
  have HS := hid hs
  have HLO := hid h.low
  obtain ⟨n, hn⟩ : ∃ n, n = S.n := ⟨_, rfl⟩
  have hn2 : n ≤ 4096 := by rw [hn]; exact hs.n2
  have hn1 : 0 < n := by rw [hn]; exact hs.n1
  have HN := hid hn
  obtain ⟨i0, hi, hz0, hz1, hz2⟩ := info_parts (show (Tryz.prog.info? 9).map (fun i => (i.zero, i.size, i.bytes)) = some (some (.string (bs [])), 1, 16) by kernel_rfl)
  have HB0 := hid (show Below w.heap.size w (w.alloc (.cells #[] 9)) from (Below.refl _ w).alloc (Nat.le_refl _) _)
  have HO0 := hid (World.ownsRow_made (base := w.heap.size) (e := 9) (size := 1) w #[] 0 (Nat.le_refl _) (Nat.zero_le _) (by simp))
  clear h hs hn
  go_enter Tryz.func16, Tryz.ntmps16
  go_wp2_with fail
  go_loopw [3, 4] (fun v i wr => ∃ (k : Nat) (a : Option Addr) (cap : Nat), i = .int .i64 k ∧ k ≤ n ∧ v = .slice a k cap ∧
      Hid (wr.ownsRow w.heap.size 9 1 (.slice a k cap) k (rowOf (sec S) k)) ∧ Hid (Below w.heap.size w wr)) (fun _ i _ => n - (intOf i).toNat)
  case atStart => exact ⟨0, some ⟨w.heap.size, 0, none⟩, 0, rfl, by omega, rfl, HO0, HB0⟩
  case round =>
    obtain ⟨k, a, cap, rfl, hk, rfl, HO, HW⟩ := hrel
    have HRr := hid (RC.below HR.out (Nat.le_refl _) HW.out)
    obtain ⟨⟨c1, c2, kv, d1, _⟩, _, _, _⟩ := HRr.out
    have k0 : wr.cell? ⟨g, 0, none⟩ = some (.slice (some ⟨b1, 0, none⟩) n c1) := by rw [HN.out]; exact cell_at d1 0
    clear d1
    by_cases hend : k = n
    · subst hend
      obtain ⟨gb, cap', hv⟩ := Joins.ownsRow_form HO.out (by omega)
      injection hv with hv1 _ hv2
      subst hv1
      subst hv2
      have hrp : RowP wr gb S.n (sec S) := by
        rw [← HN.out]
        exact RowP.of_own HO.out (fun i hi => rowOf_get hi)
      have HJ := hid (rjoin_c wr gb S.n cap _ hrp HS.out.n2 (fun i hi => by
        unfold sec
        cases hu : S.un i with
        | none => exact piece_le _ _
        | some l => exact Nat.le_of_eq (HS.out.un i l hu).2))
      rw [cat_image HS.out] at HJ
      rw [← HN.out] at HJ
      clear hrp
      go_wp2_with fail
      refine HJ.out.mono ?_
      rintro e w3 ⟨rfl, hf3⟩
      have HF3 := hid hf3
      clear hf3
      go_wp2_with fail
      go_ret
      exact ⟨rfl, (below_fr HW.out (Nat.le_refl _)).trans HF3.out (fun _ _ f => f)⟩
    · have hk' : k < n := by omega
      have hbl : w.heap.size ≤ wr.heap.size := HW.out.size
      have HSEC := hid (rsector_c wr g b1 b2 S.n S.armed _ _ S.kept S.dead HRr.out HS.out.n2 k (by rw [← HN.out]; exact hk'))
      rw [sec_uns HS.out] at HSEC
      obtain ⟨y, hy⟩ : ∃ y, y = sec S k := ⟨_, rfl⟩
      rw [← hy] at HSEC
      obtain ⟨v', w2, hrun, hown2, hgr2, _⟩ := run_append_own (P := Tryz.prog) (wr.alloc (.cells #[.string (bs y)] 9)) w.heap.size 79 79 9 i0 (.string (bs [])) 1 16 Tryz.underlying79 hi hz0 hz1 hz2 rfl (by decide)
        (.slice a k cap) k (rowOf (sec S) k) (HO.out.alloc _) ⟨wr.heap.size, 0, none⟩ 1 1 [.string (bs y)] rfl (one_cell (MapKept.heap_alloc wr _).1) (by intro u hu; simp at hu; subst hu; rfl) (by unfold maxLen; omega) (by omega) (by simp; omega)
      have HW2 := hid ((HW.out.alloc hbl (.cells #[.string (bs y)] 9)).grown hgr2 (by simp; omega) (fun b hb => (HO.out.lt b hb).1))
      obtain ⟨g', cap', rfl⟩ := Joins.ownsRow_form hown2 (by omega)
      have E := hid (show rowOf (sec S) (k + 1) = rowOf (sec S) k ++ [.string (bs y)] by rw [hy]; simp [rowOf, List.range_succ])
      have HO2 := hid hown2
      clear hend hy hown2 hgr2 HRr
      go_wp2_with fail
      refine HSEC.out.mono ?_
      rintro e w5 ⟨rfl, rfl⟩
      go_wp2_with (at_builtin; refine wpList_append_run rfl (.tmp 15) (.tmp 19) 79 79 rfl _ _ _ _ rfl rfl hrun ?_)
      go_wp2_with fail
      all_goals (
        first | go_roundw | skip
        case measure => simp [intOf]; omega
        refine ⟨k + 1, some ⟨g', 0, none⟩, cap', rfl, by omega, rfl, hid (by rw [E.out]; exact HO2.out), HW2⟩)

theorem dies_piece {S : St} (ks : List Int) : uns (S.dies ks) = fun _ => [] := rfl

set_option maxHeartbeats 4000000 in
set_option maxRecDepth 100000 in
theorem rdie_c (w : World) (g b1 b2 : Nat) (S : St) (h : RA w g b1 b2 S) (hs : S.Ok) (kv : Value) (ks : List Int) (hk : IntsV w kv ks) :
    Calls Tryz.prog 71 #[.pointer (some ⟨g, 0, none⟩), kv] w fun e w' => e = .returned (.tuple #[]) ∧
      (∃ b1' b2', RA w' g b1' b2' (S.dies ks) ∧ w.heap.size ≤ b1' ∧ w.heap.size ≤ b2') ∧ Fr (· = g) w w' := by
  have HL := hid (rleft_c w g b1 b2 S h hs kv ks hk)
  have HR := hid h
  have HS := hid hs
  have HLO := hid h.low
  obtain ⟨n, hn⟩ : ∃ n, n = S.n := ⟨_, rfl⟩
  have hn2 : n ≤ 4096 := by rw [hn]; exact hs.n2
  rw [← hn] at HL
  have HN := hid hn
  obtain ⟨⟨c1, c2, kv', d1, _⟩, _, _, _⟩ := h
  clear hs hk hn d1
  go_enter Tryz.func71, Tryz.ntmps71
  go_wp2_with fail
  refine HL.out.mono ?_
  rintro e w2 ⟨b, cap, rfl, hr, hb, hf⟩
  have HRB := hid hr
  have HF := hid hf
  have HR2 := hid (RC.stay HR.out hf)
  obtain ⟨⟨c1, c2, kv', d1, i1⟩, r1, r2, rn⟩ := HR2.out
  have HD := hid d1
  have HI := hid i1
  have k0 : w2.cell? ⟨g, 0, none⟩ = some (.slice (some ⟨b1, 0, none⟩) S.n c1) := cell_at d1 0
  have z0 : w2.frozen? ⟨g, 0, none⟩ = false := frozen_at d1 0
  have hgl : g < w2.heap.size := lt_of_at d1
  have hbl : b < w2.heap.size := hr.lt
  -- behind the first store
  obtain ⟨V, hV⟩ : ∃ V, V = Value.slice (some ⟨b, 0, none⟩) n cap := ⟨_, rfl⟩
  obtain ⟨V2, hV2⟩ : ∃ V, V = Value.slice (some ⟨w2.heap.size, 0, none⟩) n n := ⟨_, rfl⟩
  obtain ⟨O, hO⟩ : ∃ O, O = Obj.cells (strs (List.replicate n [])).toArray 9 := ⟨_, rfl⟩
  have e2 : (w2.setCell ⟨g, 0, none⟩ V).heap[g]? = some (.cells #[V, .slice (some ⟨b2, 0, none⟩) S.n c2, .int .i64 S.armed, kv', .bool S.dead] 84) := set_at d1 0 V
  have hWs : (w2.setCell ⟨g, 0, none⟩ V).heap.size = w2.heap.size := by simp [World.setCell]
  have hmk := mk_strs n hn2 (w2.setCell ⟨g, 0, none⟩ V)
  rw [hWs, ← hV2, ← hO] at hmk
  have hnw := (MapKept.heap_alloc (w2.setCell ⟨g, 0, none⟩ V) O).1
  rw [hWs] at hnw
  have HNW := hid hnw
  have e3 : ((w2.setCell ⟨g, 0, none⟩ V).alloc O).heap[g]? = some (.cells #[V, .slice (some ⟨b2, 0, none⟩) S.n c2, .int .i64 S.armed, kv', .bool S.dead] 84) := (Below.heap_alloc (w2.setCell ⟨g, 0, none⟩ V) O g (by omega)).trans e2
  have k1 : ((w2.setCell ⟨g, 0, none⟩ V).alloc O).cell? ⟨g, 1, none⟩ = some (.slice (some ⟨b2, 0, none⟩) S.n c2) := cell_at e3 1
  have z1 := frozen_at e3 1
  have kk : (w2.setCell ⟨g, 0, none⟩ V).cell? ⟨g, 0, none⟩ = some V := cell_at e2 0
  have e4 : (((w2.setCell ⟨g, 0, none⟩ V).alloc O).setCell ⟨g, 1, none⟩ V2).heap[g]? = some (.cells #[V, V2, .int .i64 S.armed, kv', .bool S.dead] 84) := set_at e3 1 V2
  obtain ⟨W4, hW4⟩ : ∃ W, W = ((w2.setCell ⟨g, 0, none⟩ V).alloc O).setCell ⟨g, 1, none⟩ V2 := ⟨_, rfl⟩
  have HFW := hid (((fr_set1 w2 g 0 V).alloc O).setCell ⟨g, 1, none⟩ (fun _ => rfl) V2)
  have hnw2 : W4.heap[w2.heap.size]? = some O := by
    rw [hW4, Below.heap_setCell _ _ _ _ (by show w2.heap.size ≠ g; omega)]
    exact hnw
  have HNW2 := hid hnw2
  rw [← hW4] at e4 HFW
  have k2 : W4.cell? ⟨g, 2, none⟩ = some (.int .i64 S.armed) := cell_at e4 2
  have z2 := frozen_at e4 2
  have k4 : W4.cell? ⟨g, 4, none⟩ = some (.bool S.dead) := cell_at e4 4
  have z4 := frozen_at e4 4
  have E4 := hid e4
  subst hV
  subst hV2
  subst hO
  clear d1 i1 r1 r2 e2 hnw e3 e4 hr hf hnw2
  go_upto_region 2 with fail
  rw [← World.setCell_alloc_past _ _ _ _ (by rw [hWs]; exact hgl), ← hW4]
  clear hW4 hmk kk k1 z1 k0 z0
  go_wp2_with fail
  go_end0
  have hgl2 := HLO.out.1
  have hs2 := HF.out.size
  have e6 := set_at (set_at E4.out 2 (.int .i64 0)) 4 (.bool true)
  have hF6 : Fr (· = g) W4 ((W4.setCell ⟨g, 2, none⟩ (.int .i64 0)).setCell ⟨g, 4, none⟩ (.bool true)) := fr_set2 _ _ _ _ _ _
  have hF2 : Fr (· = g) w2 ((W4.setCell ⟨g, 2, none⟩ (.int .i64 0)).setCell ⟨g, 4, none⟩ (.bool true)) := HFW.out.trans hF6 (fun _ _ e => e)
  have hnd : (S.dies ks).n = S.n := dies_n HS.out ks
  obtain ⟨⟨c1', c2', kv'', d1, i1⟩, r1, r2, rn⟩ := HR2.out
  rw [HD.out] at d1
  injection d1 with d1
  injection d1 with d1 _
  have hkv : kv' = kv'' := by injection d1 with d1; simpa using (by injection d1 with _ d1; injection d1 with _ d1; injection d1 with _ d1; injection d1 with d1 _)
  subst hkv
  have hbw : b ≠ w2.heap.size := by have := HRB.out.lt; omega
  refine ⟨rfl, ⟨b, w2.heap.size, ⟨⟨cap, n, kv', ?_, ?_⟩, ?_, ?_, hbw⟩, hb, hs2⟩, (HF.out.mono (fun _ _ f => f.elim)).trans hF2 (fun _ _ e => e)⟩
  · rw [hnd, ← HN.out]; exact e6
  · exact i1.keep hF2 (fun b cur hb => int_apart HD.out hb (by decide))
  · rw [hnd, ← HN.out]
    exact HRB.out.keep hF2 (rowP_apart HRB.out HD.out (by decide)).symm
  · rw [hnd, ← HN.out]
    refine (RowP.of_row (f := fun _ => []) ?_)
    have e7 := hF6.at HNW2.out (fun e => by have := HLO.out.1; have := HF.out.size; omega)
    unfold RowIs
    rw [e7]
    congr 3
    simp [strs, rowOf, List.map_const']

end Go.Proofs.YtjkhcfdflcndkaaGreat.D
