/-
  The document's disk: After, Image, die. No condition beyond the disk's own.
-/
import Derived.Test.YthmnchemfigneaaR3
import Derived.Deep.DeepCutAuto
namespace Go.Proofs.Ythmnchemfigneaa.D
open Go.RowKit Go.Maps Go.Shelf
set_option linter.unusedVariables false
set_option linter.unusedSimpArgs false

theorem piece_le (l : List UInt8) (i : Nat) : (piece l i).length ≤ 64 := by simp only [piece, List.length_take]; omega
theorem after_len {S : St} (hs : S.Ok) (ks : List Int) : (S.after ks).length = 64 * S.n := by
  have h1 : (S.after ks).length = S.safe.length := left_length hs _
  rw [h1]; exact hs.safe

theorem cat_image {S : St} (hs : S.Ok) : cat (sec S) S.n = S.image := by
  have h1 : S.image.length = 64 * S.n := by rw [image_length hs]; exact hs.safe
  rw [← cat_piece h1]
  exact cat_congr (fun i _ => (image_piece hs i).symm)

set_option maxHeartbeats 4000000 in
set_option maxRecDepth 100000 in
theorem rimage_c (w : World) (g b1 b2 : Nat) (S : St) (h : RA w g b1 b2 S) (hs : S.Ok) :
    Calls Try.prog 15 #[.pointer (some ⟨g, 0, none⟩)] w fun e w' => e = .returned (.string (bs S.image)) ∧ Fr (fun _ => False) w w' := by
  have HR := hid h
  have HS := hid hs
  have HLO := hid h.low
  obtain ⟨n, hn⟩ : ∃ n, n = S.n := ⟨_, rfl⟩
  have hn2 : n ≤ 4096 := by rw [hn]; exact hs.n2
  have hn1 : 0 < n := by rw [hn]; exact hs.n1
  have HN := hid hn
  obtain ⟨i0, hi, hz0, hz1, hz2⟩ := info_parts (show (Try.prog.info? 9).map (fun i => (i.zero, i.size, i.bytes)) = some (some (.string (bs [])), 1, 16) by kernel_rfl)
  have HB0 := hid (show Below w.heap.size w (w.alloc (.cells #[] 9)) from (Below.refl _ w).alloc (Nat.le_refl _) _)
  have HO0 := hid (World.ownsRow_made (base := w.heap.size) (e := 9) (size := 1) w #[] 0 (Nat.le_refl _) (Nat.zero_le _) (by simp))
  clear h hs hn
  go_enter Try.func15, Try.ntmps15
  go_wp2_with fail
  go_loopw [3, 4] (fun v i wr => ∃ (k : Nat) (a : Option Addr) (cap : Nat), i = .int .i64 k ∧ k ≤ n ∧ v = .slice a k cap ∧
      Hid (wr.ownsRow w.heap.size 9 1 (.slice a k cap) k (rowOf (sec S) k)) ∧ Hid (Below w.heap.size w wr)) (fun _ i _ => n - (intOf i).toNat)
  case atStart => exact ⟨0, some ⟨w.heap.size, 0, none⟩, 0, rfl, by omega, rfl, HO0, HB0⟩
  case round =>
    obtain ⟨k, a, cap, rfl, hk, rfl, HO, HW⟩ := hrel
    have HRr := hid (RC.below HR.out (Nat.le_refl _) HW.out)
    obtain ⟨⟨c1, c2, kv, d1, _⟩, _, _, _⟩ := HRr.out
    have k0 : wr.cell? ⟨g, 0, none⟩ = some (.slice (some ⟨b1, 0, none⟩) n c1) := by rw [HN.out]; exact cell_at d1 0
    clear d1
    by_cases hend : k = n
    · subst hend
      obtain ⟨gb, cap', hv⟩ := Joins.ownsRow_form HO.out (by omega)
      injection hv with hv1 _ hv2
      subst hv1
      subst hv2
      have hrp : RowP wr gb S.n (sec S) := by
        rw [← HN.out]
        exact RowP.of_own HO.out (fun i hi => rowOf_get hi)
      have HJ := hid (rjoin_c wr gb S.n cap _ hrp HS.out.n2 (fun i hi => by
        unfold sec
        cases hu : S.un i with
        | none => exact piece_le _ _
        | some l => exact Nat.le_of_eq (HS.out.un i l hu).2))
      rw [cat_image HS.out] at HJ
      rw [← HN.out] at HJ
      clear hrp
      go_wp2_with fail
      refine HJ.out.mono ?_
      rintro e w3 ⟨rfl, hf3⟩
      have HF3 := hid hf3
      clear hf3
      go_wp2_with fail
      go_ret
      exact ⟨rfl, (below_fr HW.out (Nat.le_refl _)).trans HF3.out (fun _ _ f => f)⟩
    · have hk' : k < n := by omega
      have hbl : w.heap.size ≤ wr.heap.size := HW.out.size
      have HSEC := hid (rsector_c wr g b1 b2 S.n S.armed _ _ S.kept S.dead HRr.out HS.out.n2 k (by rw [← HN.out]; exact hk'))
      rw [sec_uns HS.out] at HSEC
      obtain ⟨y, hy⟩ : ∃ y, y = sec S k := ⟨_, rfl⟩
      rw [← hy] at HSEC
      obtain ⟨v', w2, hrun, hown2, hgr2, _⟩ := run_append_own (P := Try.prog) (wr.alloc (.cells #[.string (bs y)] 9)) w.heap.size 37 37 9 i0 (.string (bs [])) 1 16 Try.underlying37 hi hz0 hz1 hz2 rfl (by decide)
        (.slice a k cap) k (rowOf (sec S) k) (HO.out.alloc _) ⟨wr.heap.size, 0, none⟩ 1 1 [.string (bs y)] rfl (one_cell (MapKept.heap_alloc wr _).1) (by intro u hu; simp at hu; subst hu; rfl) (by unfold maxLen; omega) (by omega) (by simp; omega)
      have HW2 := hid ((HW.out.alloc hbl (.cells #[.string (bs y)] 9)).grown hgr2 (by simp; omega) (fun b hb => (HO.out.lt b hb).1))
      obtain ⟨g', cap', rfl⟩ := Joins.ownsRow_form hown2 (by omega)
      have E := hid (show rowOf (sec S) (k + 1) = rowOf (sec S) k ++ [.string (bs y)] by rw [hy]; simp [rowOf, List.range_succ])
      have HO2 := hid hown2
      clear hend hy hown2 hgr2 HRr
      go_wp2_with fail
      refine HSEC.out.mono ?_
      rintro e w5 ⟨rfl, rfl⟩
      go_wp2_with (at_builtin; refine wpList_append_run rfl (.tmp 15) (.tmp 19) 37 37 rfl _ _ _ _ rfl rfl hrun ?_)
      go_wp2_with fail
      all_goals (
        first | go_roundw | skip
        case measure => simp [intOf]; omega
        refine ⟨k + 1, some ⟨g', 0, none⟩, cap', rfl, by omega, rfl, hid (by rw [E.out]; exact HO2.out), HW2⟩)

theorem dies_piece {S : St} (ks : List Int) : uns (S.dies ks) = fun _ => [] := rfl

end Go.Proofs.Ythmnchemfigneaa.D
