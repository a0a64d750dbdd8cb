/-
  WalReads. No condition.
-/
import Derived.Test.YthmnchemfigneaaWX2
import Derived.Test.YthmnchemfigneaaWArW
namespace Go.Proofs.Ythmnchemfigneaa.D
open Go.RowKit Go.Maps Go.Shelf
set_option linter.unusedVariables false
set_option linter.unusedSimpArgs false

theorem recsGo_len : ∀ (f : Nat) (t : List UInt8) (n : Nat), (recsGo f t n).length ≤ f
  | 0, _, _ => Nat.le_refl _
  | f + 1, t, n => by
    rw [recsGo]
    cases ahead t n with
    | none => simp
    | some r =>
      have := recsGo_len f (t.drop (64 * many r.length)) (n + 1)
      simp only [List.length_cons]
      omega
theorem read_len {s : St} (hs : s.Ok) (f c n : Int) (h : chk s f c n = 0) : (s.read f c).1.length ≤ 262144 := by
  obtain ⟨_, p1, p2, p3, p4, p5⟩ := LSt.begin_ok h
  unfold St.read
  split
  · simp
  split
  · simp
  · have := secs_length hs (a := f.toNat) (c := c.toNat) (by omega)
    have h2 := hs.n2
    show (secs s f.toNat c.toNat).length ≤ _
    omega
theorem walRead_len {s : St} (hs : s.Ok) (f c n : Int) : (walRead s f c n).1.length ≤ 262145 := by
  unfold walRead
  split
  · simp
  · rename_i h
    have h0 : chk s f c n = 0 := Decidable.byContradiction h
    split
    · simp
    · have h1 := read_len hs f c n h0
      have h2 := recsGo_len ((s.read f c).1.length + 1) (s.read f c).1 n.toNat
      show (recs (s.read f c).1 n.toNat).length ≤ _
      unfold recs
      omega

set_option maxHeartbeats 8000000 in
set_option maxRecDepth 100000 in
theorem reads_law (V : WV) (hV : WOk V) (u : Value) (w : World) :
    Calls Try.prog 5 #[.agg #[.string (bs V.im), .int .i64 V.first, .int .i64 V.count, .int .i64 V.from_, u]] w fun e w' => e = .returned (.bool true) ∧ Fr (fun _ => False) w w' := by
  obtain ⟨im, f, c, n⟩ := V
  obtain ⟨him, ⟨f1, f2⟩, ⟨c1, c2⟩, ⟨n1, n2⟩⟩ := hV
  simp only at him f1 f2 c1 c2 n1 n2 ⊢
  have hf0 : Fr (fun _ => False) w (w.alloc (.cells #[.string (bs im), .int .i64 f, .int .i64 c, .int .i64 n, u] 32)) := (Fr.refl _ w).alloc _
  have HF0 := hid hf0
  have hnew := (MapKept.heap_alloc w (.cells #[.string (bs im), .int .i64 f, .int .i64 c, .int .i64 n, u] 32)).1
  obtain ⟨w1, hw1⟩ : ∃ w1, w1 = w.alloc (.cells #[.string (bs im), .int .i64 f, .int .i64 c, .int .i64 n, u] 32) := ⟨_, rfl⟩
  rw [← hw1] at hnew HF0
  have c0 : w1.cell? ⟨w.heap.size, 0, none⟩ = some (.string (bs im)) := cell_at hnew 0
  have HN := hid hnew
  have HDK := hid (disks_c w1 im him)
  clear hf0 hnew
  go_enter Try.func5, Try.ntmps5
  go_wp2_with fail
  rw [← hw1]
  refine HDK.out.mono ?_
  rintro e w2 ⟨g, bm, m, b1, b2, N, rfl, hDJ⟩
  obtain ⟨S, hS⟩ : ∃ S, S = news (imgOf im) := ⟨_, rfl⟩
  rw [← hS] at hDJ
  have HD2 := hid hDJ
  have HN2 := hid (hDJ.fr.at HN.out (fun f => f))
  have HF2 := hid (HF0.out.trans hDJ.fr (fun _ _ f => f))
  have k1 : w2.cell? ⟨w.heap.size, 1, none⟩ = some (.int .i64 f) := cell_at HN2.out 1
  have k2 : w2.cell? ⟨w.heap.size, 2, none⟩ = some (.int .i64 c) := cell_at HN2.out 2
  have k3 : w2.cell? ⟨w.heap.size, 3, none⟩ = some (.int .i64 n) := cell_at HN2.out 3
  obtain ⟨R, hR⟩ : ∃ R, R = walRead S f c n := ⟨_, rfl⟩
  have hRl : R.1.length ≤ 262145 := hR ▸ walRead_len hDJ.ok f c n
  have H1 := hid (show Calls Try.prog 11 #[.pointer (some ⟨g, 0, none⟩), .int .i64 f, .int .i64 c, .int .i64 n] w2 fun e w' => ∃ v, e = .returned (.tuple #[v, .int .i64 R.2.1, .int .i64 R.2.2]) ∧ Texts w' w2.heap.size v R.1 ∧ Fr (fun _ => False) w2 w' from
    hR ▸ wread_c w2 g bm S HD2.out.at_ HD2.out.ok f c n f1 f2)
  have H2 := hid (fun (W : World) (hf : Fr (fun _ => False) w2 W) => show Calls Try.prog 12 #[.pointer (some ⟨m, 0, none⟩), .int .i64 f, .int .i64 c, .int .i64 n] W fun e w' => ∃ v, e = .returned (.tuple #[v, .int .i64 R.2.1, .int .i64 R.2.2]) ∧ Texts w' W.heap.size v R.1 ∧ Fr (fun _ => False) W w' from
    hR ▸ vread_c W m b1 b2 S (HD2.out.stay hf).ra HD2.out.ok f c n f1 f2)
  have q1 : (R.2.2 == R.2.2) = true := by simp
  have q2 : (R.2.1 == R.2.1) = true := by simp
  clear hw1 c0 hS hDJ hR
  go_wp2_with fail
  refine H1.out.mono ?_
  rintro e w3 ⟨v3, rfl, ht3, hf3⟩
  have HT3 := hid (ht3.tv (by omega))
  have HF3 := hid (HF2.out.trans hf3 (fun _ _ f => f))
  have HX3 := hid hf3
  have H2b := hid (H2.out w3 hf3)
  have k1 : w3.cell? ⟨w.heap.size, 1, none⟩ = some (.int .i64 f) := cells_stay hf3 k1
  have k2 : w3.cell? ⟨w.heap.size, 2, none⟩ = some (.int .i64 c) := cells_stay hf3 k2
  have k3 : w3.cell? ⟨w.heap.size, 3, none⟩ = some (.int .i64 n) := cells_stay hf3 k3
  clear ht3 hf3
  go_wp2_with fail
  refine H2b.out.mono ?_
  rintro e w4 ⟨v4, rfl, ht4, hf4⟩
  have HT4 := hid (ht4.tv (by omega))
  have HT3' := hid (HT3.out.stay hf4)
  have HF4 := hid (HF3.out.trans hf4 (fun _ _ f => f))
  have HX4 := hid (HX3.out.trans hf4 (fun _ _ f => f))
  clear ht4 hf4 k1 k2 k3
  go_wp2_with fail
  refine (fixed_c _).mono ?_
  rintro e w5 ⟨rfl, hf5⟩
  have HST := hid (same_texts w5 v3 v4 R.1 R.1 (HT3'.out.stay hf5) (HT4.out.stay hf5))
  have HF5 := hid (HF4.out.trans hf5 (fun _ _ f => f))
  have HX5 := hid (HX4.out.trans hf5 (fun _ _ f => f))
  have q3 : decide (R.1 = R.1) = true := by simp
  rw [q3] at HST
  clear hf5 q3
  obtain ⟨p3, cap3, rfl, _⟩ := HT3.out
  obtain ⟨p4, cap4, rfl, _⟩ := HT4.out
  go_wp2_with fail
  refine HST.out.mono ?_
  rintro e w6 ⟨rfl, hf6⟩
  have HF6 := hid (HF5.out.trans hf6 (fun _ _ f => f))
  have HX6 := hid (HX5.out.trans hf6 (fun _ _ f => f))
  clear hf6
  have HI := hid (image_c w6 g bm S (HD2.out.stay HX6.out).at_ HD2.out.ok)
  go_wp2_with fail
  refine HI.out.mono ?_
  rintro e w7 ⟨rfl, hf7⟩
  have HF7 := hid (HF6.out.trans hf7 (fun _ _ f => f))
  have HX7 := hid (HX6.out.trans hf7 (fun _ _ f => f))
  clear hf7
  have HI2 := hid (rimage_c w7 m b1 b2 S (HD2.out.stay HX7.out).ra HD2.out.ok)
  have q4 : (S.image == S.image) = true := by simp
  go_wp2_with fail
  refine HI2.out.mono ?_
  rintro e w8 ⟨rfl, hf8⟩
  go_wp2_with fail
  go_ret
  exact ⟨rfl, HF7.out.trans hf8 (fun _ _ f => f)⟩

end Go.Proofs.Ythmnchemfigneaa.D
