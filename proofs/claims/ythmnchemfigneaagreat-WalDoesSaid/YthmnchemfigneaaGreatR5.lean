/-
  The document's disk: Crash, Arm, Same. No condition beyond the disk's own.
-/
import Derived.Test.YthmnchemfigneaaGreatR4
namespace Go.Proofs.YthmnchemfigneaaGreat.D
open Go.RowKit Go.Maps Go.Shelf
set_option linter.unusedVariables false
set_option linter.unusedSimpArgs false

/-- The document's disk turns into S. -/
def RTurn (w : World) (g b1 b2 : Nat) (S : St) (w' : World) : Prop :=
  (∃ b1' b2', RA w' g b1' b2' S ∧ (b1' = b1 ∨ w.heap.size ≤ b1') ∧ (b2' = b2 ∨ w.heap.size ≤ b2')) ∧ Fr (fun i => i = g ∨ i = b1 ∨ i = b2) w w'

theorem RTurn.self {w : World} {g b1 b2 : Nat} {S : St} (h : RA w g b1 b2 S) : RTurn w g b1 b2 S w := ⟨⟨b1, b2, h, Or.inl rfl, Or.inl rfl⟩, Fr.refl _ _⟩

theorem rcrash_c (w : World) (g b1 b2 : Nat) (S : St) (h : RA w g b1 b2 S) (hs : S.Ok) (kv : Value) (ks : List Int) (hk : IntsV w kv ks) :
    Calls Tryz.prog 15 #[.pointer (some ⟨g, 0, none⟩), kv] w fun e w' => e = .returned (.int .i64 (S.crash ks).2) ∧ RTurn w g b1 b2 (S.crash ks).1 w' := by
  have HD := hid (rdie_c w g b1 b2 S h hs kv ks hk)
  have HR := hid h
  obtain ⟨⟨c1, c2, kv', h1, h2⟩, _⟩ := h
  cases hd : S.dead with
  | true =>
    have HE := hid (show S.crash ks = (S, 2) by rw [St.crash, if_pos hd])
    have k4 : w.cell? ⟨g, 4, none⟩ = some (.bool true) := hd ▸ cell_at h1 4
    clear h1 h2 hd hs hk
    rw [HE.out]
    go_enter Tryz.func15, Tryz.ntmps15
    go_wp2_with fail
    go_ret
    exact ⟨rfl, RTurn.self HR.out⟩
  | false =>
    have HE := hid (show S.crash ks = (S.dies ks, 0) by rw [St.crash, if_neg (by simp [hd])])
    have k4 : w.cell? ⟨g, 4, none⟩ = some (.bool false) := hd ▸ cell_at h1 4
    clear h1 h2 hd hs hk
    rw [HE.out]
    go_enter Tryz.func15, Tryz.ntmps15
    go_wp2_with fail
    refine HD.out.mono ?_
    rintro e w2 ⟨rfl, ⟨b1', b2', hR, l1, l2⟩, hf⟩
    have HQ := hid (show RTurn w g b1 b2 (S.dies ks) w2 from ⟨⟨b1', b2', hR, Or.inr l1, Or.inr l2⟩, hf.mono (fun _ _ e => Or.inl e)⟩)
    clear hR hf l1 l2
    go_wp2_with fail
    go_ret
    exact ⟨rfl, HQ.out⟩

/-- Numbers appended onto a new, empty row. -/
theorem append_ints (w : World) (kv : Value) (ks : List Int) (hk : IntsV w kv ks) (hkl : ks.length * 8 ≤ 140737488355328) :
    ∃ v' w', (Builtin.append_ #[37, 37] 37 #[.slice (some ⟨w.heap.size, 0, none⟩) 0 0, kv]).run Tryz.prog (w.alloc (.cells #[] 3)) = .ok v' w' ∧ IntsAt w' v' ks ∧ (∃ a n c, v' = .slice a n c) ∧ Fr (fun _ => False) w w' := by
  obtain ⟨i0, hi, hz0, hz1, hz2⟩ := info_parts (show (Tryz.prog.info? 3).map (fun i => (i.zero, i.size, i.bytes)) = some (some (.int .i64 0), 1, 8) by kernel_rfl)
  have hF0 : Fr (fun _ => False) w (w.alloc (.cells #[] 3)) := (Fr.refl _ w).alloc _
  obtain ⟨a, cap, rfl, hlen, hr⟩ := hk.stay hF0
  have hown := World.ownsRow_made (base := w.heap.size) (e := 3) (size := 1) w #[] 0 (Nat.le_refl _) (Nat.zero_le _) (by simp)
  have fin : ∀ (ad : Addr), a = some ad → (∀ j u, (ks.map (Value.int .i64))[j]? = some u → (w.alloc (.cells #[] 3)).cell? (ad.add j) = some u) →
      ∃ v' w', (Builtin.append_ #[37, 37] 37 #[.slice (some ⟨w.heap.size, 0, none⟩) 0 0, .slice (some ad) ks.length cap]).run Tryz.prog (w.alloc (.cells #[] 3)) = .ok v' w' ∧ IntsAt w' v' ks ∧ (∃ a n c, v' = .slice a n c) ∧ Fr (fun _ => False) w w' := by
    intro ad _ hcell
    obtain ⟨v', w2, hrun, hown2, hgr2, hnil⟩ := run_append_own (P := Tryz.prog) (w.alloc (.cells #[] 3)) w.heap.size 37 37 3 i0 (.int .i64 0) 1 8 Tryz.underlying37 hi hz0 hz1 hz2 rfl (by decide)
      (.slice (some ⟨w.heap.size, 0, none⟩) 0 0) 0 [] hown ad ks.length cap (ks.map (Value.int .i64)) (by simp) hcell (by
        intro u hu
        obtain ⟨x, _, rfl⟩ := List.mem_map.1 hu
        rfl) (by unfold maxLen; omega) (by omega) (by simp)
    refine ⟨v', w2, hrun, ?_, ?_, hF0.grown hgr2 (by intro k hk hl; simp [Value.ownBlock] at hk; omega)⟩
    · rw [Nat.zero_add, List.nil_append] at hown2
      rcases hown2.2 with ⟨h0, _⟩ | ⟨b2, cap2, cur, rfl, hb1, hb2, hb3, hb4, hb5, hb6⟩
      · exact absurd (hnil.1 h0).1 (by simp)
      · refine ⟨some ⟨b2, 0, none⟩, cap2, rfl, hlen, Or.inr ⟨b2, 0, cur, rfl, hb2, fun j hj => ?_⟩, fun x hx => by cases hx; rfl⟩
        have h5 : (cur.toList.take (ks.length * 1))[j]? = (ks.map (Value.int .i64))[j]? := by rw [hb6]
        rw [List.getElem?_take_of_lt (by omega)] at h5
        rw [Nat.zero_add]
        have h6 : cur[j]? = cur.toList[j]? := by simp
        rw [h6, h5]
        simp [hj, List.getD_eq_getElem?_getD]
    · rcases hown2.2 with ⟨h0, _⟩ | ⟨b2, cap2, cur, rfl, _⟩
      · exact ⟨_, _, _, h0⟩
      · exact ⟨_, _, _, rfl⟩
  cases a with
  | some ad =>
    refine fin ad rfl ?_
    rcases hr with hr | ⟨b, o, e0, h5⟩
    · subst hr
      intro j u hj
      simp at hj
    · injection e0 with e0
      subst e0
      intro j u hj
      have hj' : j < ks.length := by have := (List.getElem?_eq_some_iff.1 hj).1; simpa using this
      have e1 : (⟨b, o, none⟩ : Addr).add j = ⟨b, o + j, none⟩ := by unfold Addr.add; split <;> simp_all
      rw [e1, h5 j hj']
      simp [hj'] at hj
      rw [← hj]
      simp [List.getD_eq_getElem?_getD, hj']
  | none =>
    have hk0 : ks = [] := by
      rcases hr with hr | ⟨b, o, e, _⟩
      · exact hr
      · cases e
    subst hk0
    refine ⟨.slice (some ⟨w.heap.size, 0, none⟩) 0 0, w.alloc (.cells #[] 3), ?_, ⟨some ⟨w.heap.size, 0, none⟩, 0, rfl, by simp, Or.inl rfl, fun x hx => by cases hx; rfl⟩, ⟨_, _, _, rfl⟩, hF0⟩
    have ht := run_underlying (P := Tryz.prog) Tryz.underlying37
    simp [Builtin.append_, ht, sizeOf, typeInfo, hi, Builtin.lenOf, Builtin.firstCells, loadCells, loadCellsFrom, storeCells]

set_option maxHeartbeats 4000000 in
theorem rarm_c (w : World) (g b1 b2 : Nat) (S : St) (h : RA w g b1 b2 S) (hs : S.Ok) (n : Int) (hn1 : -9223372036854775808 ≤ n) (hn : n ≤ 9223372036854775807) (kv : Value) (ks : List Int) (hk : IntsV w kv ks) (hkl : ks.length * 8 ≤ 140737488355328)
    (hkg : ks ≠ [] → ∀ a m c, kv = .slice (some a) m c → a.block ≠ g) :
    Calls Tryz.prog 13 #[.pointer (some ⟨g, 0, none⟩), .int .i64 n, kv] w fun e w' => e = .returned (.int .i64 (S.arm n ks).2) ∧ RTurn w g b1 b2 (S.arm n ks).1 w' := by
  have HR := hid h
  obtain ⟨⟨c1, c2, kv', h1, h2⟩, _⟩ := h
  have H1 := hid h1
  cases hd : S.dead with
  | true =>
    have HE := hid (show S.arm n ks = (S, 2) by rw [St.arm, if_pos hd])
    have k4 : w.cell? ⟨g, 4, none⟩ = some (.bool true) := hd ▸ cell_at h1 4
    obtain ⟨a, cap, rfl, _⟩ := hk
    clear h1 h2 hd hs hkg
    rw [HE.out]
    go_enter Tryz.func13, Tryz.ntmps13
    go_wp2_with fail
    go_ret
    exact ⟨rfl, RTurn.self HR.out⟩
  | false =>
    have k4 : w.cell? ⟨g, 4, none⟩ = some (.bool false) := hd ▸ cell_at h1 4
    by_cases n0 : n < 0
    · have HE := hid (show S.arm n ks = (S, 1) by rw [St.arm, if_neg (by simp [hd]), if_pos n0])
      obtain ⟨a, cap, rfl, _⟩ := hk
      clear h1 h2 hd hs hkg
      rw [HE.out]
      go_enter Tryz.func13, Tryz.ntmps13
      go_wp2_with fail
      go_ret
      exact ⟨rfl, RTurn.self HR.out⟩
    · have HE := hid (show S.arm n ks = ({ S with armed := n.toNat, kept := ks }, 0) by rw [St.arm, if_neg (by simp [hd]), if_neg n0])
      have hwz : (w.setCell ⟨g, 2, none⟩ (.int .i64 n)).heap.size = w.heap.size := by simp [World.setCell]
      have hk2 : IntsV (w.setCell ⟨g, 2, none⟩ (.int .i64 n)) kv ks := by
        obtain ⟨a, cap, rfl, hlen, hr⟩ := hk
        refine ⟨a, cap, rfl, hlen, ?_⟩
        rcases hr with hr | ⟨b, o, rfl, h5⟩
        · exact Or.inl hr
        · refine Or.inr ⟨b, o, rfl, fun j hj => ?_⟩
          have h6 := h5 j hj
          have hk0 : ks ≠ [] := fun e => by rw [e] at hj; simp at hj
          rw [World.cell?_of_block (w := w) (Below.heap_setCell _ _ _ _ (hkg hk0 _ _ _ rfl))]
          exact h6
      obtain ⟨v', w2, hrun, hi2, ⟨va, vn, vc, rfl⟩, hf2⟩ := append_ints _ kv ks hk2 hkl
      rw [hwz] at hrun
      have d2 := hf2.at (set_at h1 2 (.int .i64 n)) (fun f => f)
      have z2 : w.frozen? ⟨g, 2, none⟩ = false := frozen_at h1 2
      have k2 : w.cell? ⟨g, 2, none⟩ = some (.int .i64 S.armed) := cell_at h1 2
      have z3 : w2.frozen? ⟨g, 3, none⟩ = false := frozen_at d2 3
      have k3 : w2.cell? ⟨g, 3, none⟩ = some kv' := cell_at d2 3
      have D2 := hid d2
      have HI2 := hid hi2
      have HF2 := hid hf2
      obtain ⟨a, cap, rfl, _⟩ := hk
      clear h1 h2 hd hs hkg hi2 hf2 d2 hk2
      rw [HE.out]
      go_enter Tryz.func13, Tryz.ntmps13
      go_wp2_with (at_builtin; refine wpList_append_run rfl (.tmp 18) (.tmp 19) 37 37 rfl _ _ _ _ rfl rfl hrun ?_)
      go_wp2_with fail
      go_ret
      have en : (n : Int) = (n.toNat : Int) := by omega
      have hfa : Fr (· = g) w w2 := (fr_set1 w g 2 (.int .i64 n)).trans HF2.out (fun _ _ f => f.elim)
      have hfb : Fr (· = g) w2 (w2.setCell ⟨g, 3, none⟩ (.slice va vn vc)) := fr_set1 _ _ _ _
      have hfc : Fr (· = g) w (w2.setCell ⟨g, 3, none⟩ (.slice va vn vc)) := hfa.trans hfb (fun _ _ e => e)
      have hR := HR.out
      refine ⟨rfl, ⟨b1, b2, ⟨⟨c1, c2, .slice va vn vc, ?_, HI2.out.keep hfb (fun b cur hb => int_apart D2.out hb (by decide))⟩, hR.safe.keep hfc (rowP_apart hR.safe H1.out (by decide)).symm, hR.writ.keep hfc (rowP_apart hR.writ H1.out (by decide)).symm, hR.ne⟩, Or.inl rfl, Or.inl rfl⟩, hfc.mono (fun _ _ e => Or.inl e)⟩
      rw [set_at D2.out 3 _, en]
      rfl

end Go.Proofs.YthmnchemfigneaaGreat.D
