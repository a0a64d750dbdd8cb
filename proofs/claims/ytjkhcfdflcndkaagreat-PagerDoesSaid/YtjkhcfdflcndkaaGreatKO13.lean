/-
  A pager's Format. No condition beyond the sizes that are named.
-/
import Derived.Test.YtjkhcfdflcndkaaGreatKO12
namespace Go.Proofs.YtjkhcfdflcndkaaGreat.D
open Go.RowKit Go.Maps Go.Shelf
set_option linter.unusedVariables false
set_option linter.unusedSimpArgs false

def PFmtPost (w : World) (g bm : Nat) (S : St) (f c n : Int) (e : Ending) (w' : World) : Prop :=
  Fr (fun i => i = g ∨ i = bm) w w' ∧
    (∀ P, (formatP S f c n).1 = some P → ∃ p ml mt bm', e = .returned (.tuple #[.pointer (some ⟨p, 0, none⟩), .int .i64 0]) ∧ PD w' p g bm' ml mt P (formatP S f c n).2.1 ∧ w.heap.size ≤ p ∧ w.heap.size ≤ ml ∧ w.heap.size ≤ mt ∧ (bm' = bm ∨ w.heap.size ≤ bm')) ∧
    ((formatP S f c n).1 = none → e = .returned (.tuple #[.pointer none, .int .i64 (formatP S f c n).2.2]) ∧ ∃ bm', At w' g bm' (formatP S f c n).2.1 ∧ (bm' = bm ∨ w.heap.size ≤ bm'))

def PFmtC (w : World) (g bm : Nat) (S : St) (f c n : Int) : Prop := Calls Tryz.prog 12 #[.pointer (some ⟨g, 0, none⟩), .int .i64 f, .int .i64 c, .int .i64 n] w (PFmtPost w g bm S f c n)

set_option maxRecDepth 100000 in
theorem pformat_bad (w : World) (g bm : Nat) (S : St) (h : At w g bm S) (hs : S.Ok) (f c n : Int) (hf : -9223372036854775808 ≤ f) (hf2 : f ≤ 9223372036854775807) (he : pchk S f c n ≠ 0) : PFmtC w g bm S f c n := by
  have HC := hid (pcheck_c w g bm S h hs f c n hf hf2)
  have HE := hid (show formatP S f c n = (none, S, pchk S f c n) by unfold formatP; rw [if_pos he])
  have HA := hid h
  unfold PFmtC
  clear h hs
  obtain ⟨C, hC⟩ : ∃ C, C = pchk S f c n := ⟨_, rfl⟩
  rw [← hC] at HC he HE
  have q : (C == 0) = false := by simpa using he
  have q2 : (C != 0) = true := by simpa using he
  clear hC he
  go_enter Tryz.func12, Tryz.ntmps12
  go_wp2_with fail
  refine HC.out.mono ?_
  rintro e w2 ⟨rfl, rfl⟩
  go_wp2_with fail
  go_ret2
  refine ⟨Fr.refl _ _, fun P hP => ?_, fun _ => ?_⟩
  · rw [HE.out] at hP; cases hP
  · rw [HE.out]; exact ⟨rfl, bm, HA.out, Or.inl rfl⟩

/-- Format's disk, write by write. -/
def fmA (S : St) : St := (S.write 1 (List.replicate 64 0)).1
def fmB (S : St) (n : Nat) : St := ((fmA S).write 0 (headB 2 0 n)).1
def fTo (S : St) (n : Nat) : Nat → St
  | 0 => S
  | 1 => fmA S
  | _ => fmB S n
theorem fTo_ok {S : St} (hs : S.Ok) (n : Nat) : ∀ i, (fTo S n i).Ok ∧ (fTo S n i).n = S.n
  | 0 => ⟨hs, rfl⟩
  | 1 => write_ok hs _ _
  | i + 2 => by
    have h1 := write_ok hs 1 (List.replicate 64 0)
    have h2 := write_ok h1.1 0 (headB 2 0 n)
    exact ⟨h2.1, h2.2.trans h1.2⟩

set_option maxHeartbeats 4000000 in
set_option maxRecDepth 100000 in
theorem pformat_go (w : World) (g bm : Nat) (S : St) (h : At w g bm S) (hs : S.Ok) (f c n : Int) (hf : -9223372036854775808 ≤ f) (hf2 : f ≤ 9223372036854775807) (he : pchk S f c n = 0) : PFmtC w g bm S f c n := by
  have HC := hid (pcheck_c w g bm S h hs f c n hf hf2)
  rw [he] at HC
  obtain ⟨p1, p2, p3, p4, p5, p6, p7⟩ := pchk_ok he
  obtain ⟨F, rfl⟩ : ∃ F : Nat, f = F := ⟨f.toNat, by omega⟩
  obtain ⟨N, rfl⟩ : ∃ N : Nat, c = N := ⟨c.toNat, by omega⟩
  obtain ⟨M, rfl⟩ : ∃ M : Nat, n = M := ⟨n.toNat, by omega⟩
  have HE := hid (show formatP S (F : Int) (N : Int) (M : Int) = if (fmtP S M).2 ≠ 0 then (none, (fmtP S M).1, 2) else (some (PSt.of F N (2, -1, M)), (fmtP S M).1, 0) by
    unfold formatP; rw [if_neg (by rw [he]; decide)]; simp only [Int.toNat_natCast])
  have HA := hid h
  have HOK := hid (fTo_ok hs M)
  have HHD := hid (fun W : World => show Calls Tryz.prog 52 #[.int .i64 2, .int .i64 (-1), .int .i64 (M : Int)] W fun e w' => e = .returned (.string (bs (headB 2 0 M))) ∧ Fr (fun _ => False) W w' from head_c W 2 0 M (-1) rfl (by omega) (by omega) (by omega))
  have HRP := hid (fun W : World => show Calls Tryz.prog 51 #[.string (bs [0]), .int .i64 64] W fun e w' => e = .returned (.string (bs (List.replicate 64 0))) ∧ Fr (fun _ => False) W w' from repeat_c W 64 (by omega))
  obtain ⟨Z, hZ⟩ : ∃ Z : List UInt8, Z = List.replicate 64 0 := ⟨_, rfl⟩
  obtain ⟨H, hH⟩ : ∃ H : List UInt8, H = headB 2 0 M := ⟨_, rfl⟩
  rw [← hZ] at HRP
  rw [← hH] at HHD
  have HZ := hid hZ
  have HH := hid hH
  have HMB := hid (show (M : Int) ≤ 1152921504606846976 from p6)
  obtain ⟨MI, hMI⟩ : ∃ MI : Int, MI = (M : Int) := ⟨_, rfl⟩
  rw [← hMI] at HC HHD ⊢
  have HMI := hid hMI
  have hmm := @run_makeMap Tryz.prog
  unfold PFmtC
  clear h hs he p1 p2 p3 p4 p5 p6 p7 hZ hH hMI
  go_enter Tryz.func12, Tryz.ntmps12
  go_wp2_with fail
  refine HC.out.mono ?_
  rintro e w1 ⟨rfl, rfl⟩
  go_wp2_with fail
  obtain ⟨B, hB⟩ : ∃ B, B = w1.heap.size := ⟨_, rfl⟩
  have hA1 : (w1.alloc (.map #[] 0)).heap[B]? = some (.map #[] 0) := by rw [hB]; exact (MapKept.heap_alloc w1 _).1
  have hz1 : (w1.alloc (.map #[] 0)).heap.size = B + 1 := by rw [hB]; simp
  have hA2 := (MapKept.heap_alloc (w1.alloc (.map #[] 0)) (.map #[] 0)).1
  have hz2 : ((w1.alloc (.map #[] 0)).alloc (.map #[] 0)).heap.size = B + 1 + 1 := by simp [hB]
  obtain ⟨cl, hcl⟩ : ∃ cl, cl = pcells g B (B + 1) (PSt.of F N (2, -1, M)) := ⟨_, rfl⟩
  have hA3 := (MapKept.heap_alloc ((w1.alloc (.map #[] 0)).alloc (.map #[] 0)) (.cells cl 70)).1
  rw [hz1] at hA2
  rw [hz2] at hA3
  have hfa : Fr (fun _ => False) w1 (w1.alloc (.map #[] 0)) := (Fr.refl _ w1).alloc _
  have hfb : Fr (fun _ => False) (w1.alloc (.map #[] 0)) ((w1.alloc (.map #[] 0)).alloc (.map #[] 0)) := (Fr.refl _ _).alloc _
  have hfc : Fr (fun _ => False) ((w1.alloc (.map #[] 0)).alloc (.map #[] 0)) (((w1.alloc (.map #[] 0)).alloc (.map #[] 0)).alloc (.cells cl 70)) := (Fr.refl _ _).alloc _
  have hs1 : SetAt (w1.alloc (.map #[] 0)) B none_ := ⟨0, .map [], hB ▸ World.ownsMap_made _ _ _ _, fun i => by simp [Maps.has, none_], fun k hk => by simp [Maps.has] at hk⟩
  have hs2 : SetAt ((w1.alloc (.map #[] 0)).alloc (.map #[] 0)) (B + 1) none_ := ⟨0, .map [], hz1 ▸ World.ownsMap_made (w1.alloc (.map #[] 0)) _ _ _, fun i => by simp [Maps.has, none_], fun k hk => by simp [Maps.has] at hk⟩
  have hlow := HA.out.low
  have HPD := hid (show PD (((w1.alloc (.map #[] 0)).alloc (.map #[] 0)).alloc (.cells cl 70)) (B + 1 + 1) g bm B (B + 1) (PSt.of F N (2, -1, M)) S from
    ⟨⟨by rw [hA3, hcl], (hs1.stay hfb).stay hfc, hs2.stay hfc, by omega⟩, HA.out.stay ((hfa.trans hfb (fun _ _ f => f)).trans hfc (fun _ _ f => f)), by omega, by omega⟩)
  have HF3 := hid ((hfa.trans hfb (fun _ _ f => f)).trans hfc (fun _ _ f => f))
  have HB := hid hB
  have ecl : cl = #[.pointer (some ⟨g, 0, none⟩), .int .i64 (F : Int), .int .i64 (N : Int), .int .i64 (-1), .int .i64 MI, .int .i64 2, .map (some B), .map (some (B + 1)), .bool false] := by rw [hcl, HMI.out]; rfl
  rw [ecl] at HPD HF3
  rw [← hB]
  obtain ⟨w3, hw3⟩ : ∃ w3, w3 = (((w1.alloc (.map #[] 0)).alloc (.map #[] 0)).alloc (.cells #[.pointer (some ⟨g, 0, none⟩), .int .i64 (F : Int), .int .i64 (N : Int), .int .i64 (-1), .int .i64 MI, .int .i64 2, .map (some B), .map (some (B + 1)), .bool false] 70)) := ⟨_, rfl⟩
  rw [← hw3] at HPD HF3 ⊢
  clear hA1 hz1 hA2 hz2 hA3 hfa hfb hfc hs1 hs2 hlow hB hcl ecl hw3
  obtain ⟨pp, hpp⟩ : ∃ pp, pp = B + 1 + 1 := ⟨_, rfl⟩
  rw [← hpp] at HPD ⊢
  have HPP := hid hpp
  clear hpp
  have HPD3 := hid (HPD.out.stay ((Fr.refl _ w3).drew))
  have k5 : w3.drew.cell? ⟨pp, 5, none⟩ = some (.int .i64 2) := cell_at HPD3.out.pa.1 5
  have k3 : w3.drew.cell? ⟨pp, 3, none⟩ = some (.int .i64 (-1)) := cell_at HPD3.out.pa.1 3
  have k4 : w3.drew.cell? ⟨pp, 4, none⟩ = some (.int .i64 MI) := by rw [HMI.out]; exact cell_at HPD3.out.pa.1 4
  go_region_held3 (fun w' => w'.cell? ⟨pp, 5, none⟩ = some (.int .i64 2) ∧ w'.cell? ⟨pp, 3, none⟩ = some (.int .i64 (-1)) ∧ w'.cell? ⟨pp, 4, none⟩ = some (.int .i64 MI))
    (first | exact ⟨k5, k3, k4⟩ | exact ⟨cells_stay2 hf4 k5, cells_stay2 hf4 k3, cells_stay2 hf4 k4⟩ | exact ⟨cells_stay2 hf5 (cells_stay2 hf4 k5), cells_stay2 hf5 (cells_stay2 hf4 k3), cells_stay2 hf5 (cells_stay2 hf4 k4)⟩ | exact ⟨cells_stay2 hf5 k5, cells_stay2 hf5 k3, cells_stay2 hf5 k4⟩ | exact ⟨cells_stay2 hf4 (cells_stay2 hf5 k5), cells_stay2 hf4 (cells_stay2 hf5 k3), cells_stay2 hf4 (cells_stay2 hf5 k4)⟩ | go_keep)
    (first
      | (go_at_call 51; refine (HRP.out _).mono ?_; rintro e w4 ⟨rfl, hf4⟩)
      | (go_at_call 52; refine (HHD.out _).mono ?_; rintro e w5 ⟨rfl, hf5⟩))
  have HF5 := hid (((HF3.out.trans ((Fr.refl (fun _ => False) w3).drew) (fun _ _ f => f)).trans hf4 (fun _ _ f => f)).trans hf5 (fun _ _ f => f))
  have HPD5 := hid ((HPD3.out.stay hf4).stay hf5)
  obtain ⟨sb, hsb⟩ : ∃ sb, sb = w5.heap.size := ⟨_, rfl⟩
  have hf6 : Fr (fun _ => False) w5 (w5.alloc (.cells #[.string (bs Z), .string (bs H)] 9)) := (Fr.refl _ w5).alloc _
  have HSB := hid (show (w5.alloc (.cells #[.string (bs Z), .string (bs H)] 9)).heap[sb]? = some (.cells #[.string (bs Z), .string (bs H)] 9) from by rw [hsb]; exact (MapKept.heap_alloc w5 _).1)
  have HPD6 := hid (HPD5.out.stay hf6)
  have HF6 := hid (HF5.out.trans hf6 (fun _ _ f => f))
  rw [← hsb]
  obtain ⟨w6, hw6⟩ : ∃ w6, w6 = w5.alloc (.cells #[.string (bs Z), .string (bs H)] 9) := ⟨_, rfl⟩
  rw [← hw6] at HSB HPD6 HF6 ⊢
  rename_i hHeld
  clear hHeld hsb hf4 hf5 hf6 hw6 k3 k4 k5
  go_wp2_with fail
  go_loopw [48] (fun v wr => ∃ (i bm2 : Nat), v = .int .i64 i ∧ i ≤ 2 ∧ Hid (PD wr pp g bm2 B (B + 1) (PSt.of F N (2, -1, M)) (fTo S M i)) ∧ Hid (wr.heap[sb]? = some (.cells #[.string (bs Z), .string (bs H)] 9)) ∧ Hid (Fr (fun i => i = g ∨ i = bm) w1 wr) ∧ Hid (bm2 = bm ∨ w1.heap.size ≤ bm2) ∧
      Hid (1 ≤ i → (S.write 1 (List.replicate 64 0)).2 = 0) ∧ Hid (i = 2 → ((fmA S).write 0 (headB 2 0 M)).2 = 0)) (fun v _ => 2 - (intOf v).toNat)
  case atStart => exact ⟨0, bm, rfl, by omega, HPD6, HSB, hid (fr_no HF6.out), hid (Or.inl rfl), hid (fun h => by omega), hid (fun h => by omega)⟩
  case round =>
    obtain ⟨i, bm2, rfl, hi, HP, HSB, HF, HBM, HE1, HE2⟩ := hrel
    have sx0 : wr.cell? ⟨sb, 0, none⟩ = some (.string (bs Z)) := cell_at HSB.out 0
    have sx1 : wr.cell? ⟨sb, 1, none⟩ = some (.string (bs H)) := cell_at HSB.out 1
    by_cases i2 : i = 2
    · subst i2
      have HSY := hid (sync_c wr g bm2 (fmB S M) HP.out.da (HOK.out 2).1)
      obtain ⟨R, hR⟩ : ∃ R, R = (fmB S M).sync := ⟨_, rfl⟩
      rw [← hR] at HSY
      have HR := hid hR
      have HFM := hid (show fmtP S M = if R.2 ≠ 0 then (R.1, 2) else (R.1, 0) by
        rw [hR]; unfold fmtP
        rw [if_neg (by rw [HE1.out (by omega)]; decide), if_neg (by have := HE2.out rfl; unfold fmA at this; rw [this]; decide)]
        rfl)
      clear hR
      by_cases he : R.2 = 0
      · have q : (R.2 == 0) = true := by simpa using he
        have HEZ := hid he
        have HE3 := hid (show formatP S (F : Int) (N : Int) (M : Int) = (some (PSt.of F N (2, -1, M)), R.1, 0) by
          have e : fmtP S M = (R.1, 0) := by rw [HFM.out, if_neg (by simp [he])]
          rw [HE.out, e, if_neg (by show ¬ (0 : Int) ≠ 0; decide)])
        clear he
        go_wp2_with fail
        refine HSY.out.mono ?_
        rintro e w8 ⟨rfl, ⟨bm8, hA8, hb8⟩, hf8⟩
        have HP8 := hid (HP.out.dturn hA8 hb8 hf8)
        have HF8 := hid (HF.out.trans hf8 (fun j hj e => by have := HBM.out; omega))
        have HB8 := hid (show bm8 = bm ∨ w1.heap.size ≤ bm8 by have := HBM.out; have := HF.out.size; omega)
        clear hA8 hf8 hb8
        go_wp2_with fail
        go_ret2
        refine ⟨HF8.out, fun P hP => ?_, fun e => ?_⟩
        · rw [HMI.out, HE3.out] at hP ⊢
          cases hP
          have h1 := HB.out
          have h2 := HPP.out
          exact ⟨pp, B, B + 1, bm8, rfl, HP8.out, by omega, by omega, by omega, HB8.out⟩
        · rw [HMI.out, HE3.out] at e; cases e
      · have q : (R.2 == 0) = false := by simpa using he
        have HE3 := hid (show formatP S (F : Int) (N : Int) (M : Int) = (none, R.1, 2) by
          have e : fmtP S M = (R.1, 2) := by rw [HFM.out, if_pos he]
          rw [HE.out, e, if_pos (by show (2 : Int) ≠ 0; decide)])
        clear he
        go_wp2_with fail
        refine HSY.out.mono ?_
        rintro e w8 ⟨rfl, ⟨bm8, hA8, hb8⟩, hf8⟩
        have HP8 := hid (HP.out.dturn hA8 hb8 hf8)
        have HF8 := hid (HF.out.trans hf8 (fun j hj e => by have := HBM.out; omega))
        have HB8 := hid (show bm8 = bm ∨ w1.heap.size ≤ bm8 by have := HBM.out; have := HF.out.size; omega)
        clear hA8 hf8 hb8
        go_wp2_with fail
        go_ret2
        refine ⟨HF8.out, fun P hP => ?_, fun e => ?_⟩
        · rw [HMI.out, HE3.out] at hP
          cases hP
        · rw [HMI.out, HE3.out]
          exact ⟨rfl, bm8, HP8.out.da, HB8.out⟩
    by_cases i1 : i = 1
    · subst i1
      have HWR := hid (show Calls Tryz.prog 53 #[.pointer (some ⟨g, 0, none⟩), .int .i64 0, .string (bs H)] wr fun e w' => e = .returned (.int .i64 ((fmA S).write 0 H).2) ∧ (∃ bm', At w' g bm' ((fmA S).write 0 H).1 ∧ (bm' = bm2 ∨ wr.heap.size ≤ bm')) ∧ Fr (fun i => i = g ∨ i = bm2) wr w' from
        write_c wr g bm2 (fmA S) HP.out.da (HOK.out 1).1 0 (by decide) (by decide) H (by rw [HH.out, headB_len]; decide))
      obtain ⟨R, hR⟩ : ∃ R, R = (fmA S).write 0 H := ⟨_, rfl⟩
      rw [← hR] at HWR
      have HR := hid hR
      clear hR
      by_cases he : R.2 = 0
      · have q : (R.2 == 0) = true := by simpa using he
        have HEZ := hid he
        clear he
        go_wp2_with fail
        refine HWR.out.mono ?_
        rintro e w8 ⟨rfl, ⟨bm8, hA8, hb8⟩, hf8⟩
        have HP8 := hid (HP.out.dturn hA8 hb8 hf8)
        have HS8 := hid (hf8.at HSB.out (fun e => HP.out.apart HSB.out (by decide) (by decide) (by unfold inPD; omega)))
        have HF8 := hid (HF.out.trans hf8 (fun j hj e => by have := HBM.out; omega))
        have HB8 := hid (show bm8 = bm ∨ w1.heap.size ≤ bm8 by have := HBM.out; have := HF.out.size; omega)
        clear hA8 hf8 hb8 sx0 sx1
        go_wp2_with fail
        refine ⟨⟨2, bm8, rfl, by omega, hid ?_, HS8, HF8, HB8, hid (fun _ => HE1.out (by omega)), hid (fun _ => ?_)⟩, by simp [intOf]⟩
        · have := HP8.out
          rw [HR.out, HH.out] at this
          exact this
        · have := HEZ.out
          rw [HR.out, HH.out] at this
          exact this
      · have q : (R.2 == 0) = false := by simpa using he
        have HE3 := hid (show formatP S (F : Int) (N : Int) (M : Int) = (none, R.1, 2) by
          have e : fmtP S M = (R.1, 2) := by
            unfold fmtP
            rw [if_neg (by rw [HE1.out (by omega)]; decide), if_pos (by have h9 := he; rw [HR.out, HH.out] at h9; exact h9), HR.out, HH.out]
            rfl
          rw [HE.out, e, if_pos (by show (2 : Int) ≠ 0; decide)])
        clear he
        go_wp2_with fail
        refine HWR.out.mono ?_
        rintro e w8 ⟨rfl, ⟨bm8, hA8, hb8⟩, hf8⟩
        have HP8 := hid (HP.out.dturn hA8 hb8 hf8)
        have HF8 := hid (HF.out.trans hf8 (fun j hj e => by have := HBM.out; omega))
        have HB8 := hid (show bm8 = bm ∨ w1.heap.size ≤ bm8 by have := HBM.out; have := HF.out.size; omega)
        clear hA8 hf8 hb8 sx0 sx1
        go_wp2_with fail
        go_ret2
        refine ⟨HF8.out, fun P hP => ?_, fun e => ?_⟩
        · rw [HMI.out, HE3.out] at hP
          cases hP
        · rw [HMI.out, HE3.out]
          exact ⟨rfl, bm8, HP8.out.da, HB8.out⟩
    · have i0 : i = 0 := by omega
      subst i0
      have HWR := hid (show Calls Tryz.prog 53 #[.pointer (some ⟨g, 0, none⟩), .int .i64 1, .string (bs Z)] wr fun e w' => e = .returned (.int .i64 (S.write 1 Z).2) ∧ (∃ bm', At w' g bm' (S.write 1 Z).1 ∧ (bm' = bm2 ∨ wr.heap.size ≤ bm')) ∧ Fr (fun i => i = g ∨ i = bm2) wr w' from
        write_c wr g bm2 S HP.out.da (HOK.out 0).1 1 (by decide) (by decide) Z (by rw [HZ.out, List.length_replicate]; decide))
      obtain ⟨R, hR⟩ : ∃ R, R = S.write 1 Z := ⟨_, rfl⟩
      rw [← hR] at HWR
      have HR := hid hR
      clear hR i1 i2
      by_cases he : R.2 = 0
      · have q : (R.2 == 0) = true := by simpa using he
        have HEZ := hid he
        clear he
        go_wp2_with fail
        refine HWR.out.mono ?_
        rintro e w8 ⟨rfl, ⟨bm8, hA8, hb8⟩, hf8⟩
        have HP8 := hid (HP.out.dturn hA8 hb8 hf8)
        have HS8 := hid (hf8.at HSB.out (fun e => HP.out.apart HSB.out (by decide) (by decide) (by unfold inPD; omega)))
        have HF8 := hid (HF.out.trans hf8 (fun j hj e => by have := HBM.out; omega))
        have HB8 := hid (show bm8 = bm ∨ w1.heap.size ≤ bm8 by have := HBM.out; have := HF.out.size; omega)
        clear hA8 hf8 hb8 sx0 sx1
        go_wp2_with fail
        refine ⟨⟨1, bm8, rfl, by omega, hid ?_, HS8, HF8, HB8, hid (fun _ => ?_), hid (fun e => by omega)⟩, by simp [intOf]⟩
        · have := HP8.out
          rw [HR.out, HZ.out] at this
          exact this
        · have := HEZ.out
          rw [HR.out, HZ.out] at this
          exact this
      · have q : (R.2 == 0) = false := by simpa using he
        have HE3 := hid (show formatP S (F : Int) (N : Int) (M : Int) = (none, R.1, 2) by
          have e : fmtP S M = (R.1, 2) := by
            unfold fmtP
            rw [if_pos (by have h9 := he; rw [HR.out, HZ.out] at h9; exact h9), HR.out, HZ.out]
          rw [HE.out, e, if_pos (by show (2 : Int) ≠ 0; decide)])
        clear he
        go_wp2_with fail
        refine HWR.out.mono ?_
        rintro e w8 ⟨rfl, ⟨bm8, hA8, hb8⟩, hf8⟩
        have HP8 := hid (HP.out.dturn hA8 hb8 hf8)
        have HF8 := hid (HF.out.trans hf8 (fun j hj e => by have := HBM.out; omega))
        have HB8 := hid (show bm8 = bm ∨ w1.heap.size ≤ bm8 by have := HBM.out; have := HF.out.size; omega)
        clear hA8 hf8 hb8 sx0 sx1
        go_wp2_with fail
        go_ret2
        refine ⟨HF8.out, fun P hP => ?_, fun e => ?_⟩
        · rw [HMI.out, HE3.out] at hP
          cases hP
        · rw [HMI.out, HE3.out]
          exact ⟨rfl, bm8, HP8.out.da, HB8.out⟩

theorem pformat_c (w : World) (g bm : Nat) (S : St) (h : At w g bm S) (hs : S.Ok) (f c n : Int) (hf : -9223372036854775808 ≤ f) (hf2 : f ≤ 9223372036854775807) : PFmtC w g bm S f c n := by
  by_cases he : pchk S f c n = 0
  · exact pformat_go w g bm S h hs f c n hf hf2 he
  · exact pformat_bad w g bm S h hs f c n hf hf2 he

end Go.Proofs.YtjkhcfdflcndkaaGreat.D

/-
  A pager's Commit: the cases that write nothing. No condition beyond the sizes that are named.
-/
namespace Go.Proofs.YtjkhcfdflcndkaaGreat.D
open Go.RowKit Go.Maps Go.Shelf
set_option linter.unusedVariables false
set_option linter.unusedSimpArgs false

theorem cl_enter (args : Array Value) (w : World) : (callFunc 68 args).run Tryz.prog w = .ok (.enter 68 args) w := by kernel_rfl

set_option maxRecDepth 100000 in
theorem cl_c (w : World) (p g bm ml mt x : Nat) (P : PSt) (S : St) (h : PD w p g bm ml mt P S) (hx : w.heap[x]? = some (.cells #[.pointer (some ⟨p, 0, none⟩)] 29)) (i : Int) (h1 : -9223372036854775808 ≤ i) (h2 : i ≤ 9223372036854775807) :
    Calls Tryz.prog 68 #[.int .i64 i, .pointer (some ⟨x, 0, none⟩)] w fun e w' => e = .returned (.bool (P.is i && P.used i)) ∧ Fr (fun _ => False) w w' := by
  have HI := hid (is_c w p g ml mt P h.pa i)
  have HU := hid (used_c w p g ml mt P h.pa i h1 h2)
  have c0 : w.cell? ⟨x, 0, none⟩ = some (.pointer (some ⟨p, 0, none⟩)) := cell_at hx 0
  clear h hx
  cases hi : P.is i with
  | false =>
    rw [hi] at HI
    clear hi HU
    go_enter Tryz.func68, Tryz.ntmps68
    go_wp2_with fail
    refine HI.out.mono ?_
    rintro e w2 ⟨rfl, rfl⟩
    go_wp2_with fail
    go_ret
    exact ⟨rfl, Fr.refl _ _⟩
  | true =>
    rw [hi] at HI
    obtain ⟨u, hu⟩ : ∃ u, u = P.used i := ⟨_, rfl⟩
    rw [← hu] at HU ⊢
    clear hi hu
    go_enter Tryz.func68, Tryz.ntmps68
    go_wp2_with fail
    refine HI.out.mono ?_
    rintro e w2 ⟨rfl, rfl⟩
    go_wp2_with fail
    refine HU.out.mono ?_
    rintro e w3 ⟨rfl, hf3⟩
    go_wp2_with fail
    go_ret
    exact ⟨rfl, hf3⟩

theorem may_cl {w : World} {p g bm ml mt x : Nat} {P : PSt} {S : St} (h : PD w p g bm ml mt P S) (hx : w.heap[x]? = some (.cells #[.pointer (some ⟨p, 0, none⟩)] 29)) : May w 68 #[] #[.pointer (some ⟨x, 0, none⟩)] (fun i => P.is i && P.used i) := by
  refine ⟨cl_enter, fun i w' h1 h2 hf => ?_⟩
  have hl := h.lt
  have hxl := lt_of_at hx
  have hP : PD w' p g bm ml mt P S := ⟨⟨hf.at h.pa.1 (by omega), h.pa.2.1.keep hf (by omega), h.pa.2.2.1.keep hf (by omega), h.pa.2.2.2⟩, h.da.keep hf (by omega) (by omega) (fun b cur hb e => by have := lt_of_at hb; omega), h.n1, h.n2⟩
  exact cl_c w' p g bm ml mt x P S hP (hf.at hx (by omega)) i h1 h2

def PCommitC (w : World) (p g bm ml mt : Nat) (P : PSt) (S : St) (root fr : Int) (v : Value) (l : List Int) : Prop :=
  Calls Tryz.prog 27 #[.pointer (some ⟨p, 0, none⟩), .int .i64 root, .int .i64 fr, v] w fun e w' => e = .returned (.int .i64 (P.commit S root fr l).2.2) ∧ PTurn w w' p g bm ml mt (P.commit S root fr l).1 (P.commit S root fr l).2.1

theorem set_look {w : World} {b : Nat} {f : Int → Bool} (h : SetAt w b f) (k : Int) (h1 : -9223372036854775808 ≤ k) (h2 : k ≤ 9223372036854775807) :
    (Instr.lookup 68 (.map (some b)) (.int .i64 k) true).run Tryz.prog w = .ok (.tuple #[.agg #[], .bool (f k)]) w := h.look k h1 h2

section
variable (w : World) (p g bm ml mt : Nat) (P : PSt) (S : St) (h : PD w p g bm ml mt P S) (root fr : Int) (v : Value) (l : List Int)
include h

set_option maxRecDepth 100000 in
theorem pcommit_dead (hd : P.dead = true) : PCommitC w p g bm ml mt P S root fr v l := by
  have HD := hid h
  have HE := hid (show P.commit S root fr l = (P, S, 2) by unfold PSt.commit; rw [if_pos hd])
  have hf1 : Fr (fun _ => False) w (w.alloc (.cells #[.pointer (some ⟨p, 0, none⟩)] 29)) := (Fr.refl _ w).alloc _
  have k8 : (w.alloc (.cells #[.pointer (some ⟨p, 0, none⟩)] 29)).cell? ⟨p, 8, none⟩ = some (.bool true) := hd ▸ cell_at (hf1.at h.pa.1 (fun f => f)) 8
  have HF := hid hf1
  unfold PCommitC
  rw [HE.out]
  clear h hd hf1
  go_enter Tryz.func27, Tryz.ntmps27
  go_wp2_with fail
  go_ret
  exact ⟨rfl, PTurn.self HD.out HF.out⟩

set_option maxHeartbeats 4000000 in
set_option maxRecDepth 100000 in
theorem pcommit_not (hp : P.pages ≤ 4096) (hv : IntsV w v l) (hl : ∀ x ∈ l, -9223372036854775808 ≤ x ∧ x ≤ 9223372036854775807) (r1 : -9223372036854775808 ≤ root) (r2 : root ≤ 9223372036854775807) (hd : P.dead = false) (hm : P.mayCommit root l = false) : PCommitC w p g bm ml mt P S root fr v l := by
  have HD := hid h
  have HE := hid (show P.commit S root fr l = (P, S, 191) by unfold PSt.commit; rw [if_neg (by simp [hd]), if_pos hm])
  have hf1 : Fr (fun _ => False) w (w.alloc (.cells #[.pointer (some ⟨p, 0, none⟩)] 29)) := (Fr.refl _ w).alloc _
  have hnew := (MapKept.heap_alloc w (.cells #[.pointer (some ⟨p, 0, none⟩)] 29)).1
  obtain ⟨w1, hw1⟩ : ∃ w1, w1 = w.alloc (.cells #[.pointer (some ⟨p, 0, none⟩)] 29) := ⟨_, rfl⟩
  rw [← hw1] at hf1 hnew
  obtain ⟨x, hx⟩ : ∃ x, x = w.heap.size := ⟨_, rfl⟩
  rw [← hx] at hnew
  have HD1 := hid (h.stay hf1)
  have k8 : w1.cell? ⟨p, 8, none⟩ = some (.bool false) := hd ▸ cell_at HD1.out.pa.1 8
  have HSET := hid (set_c w1 v l 68 #[] #[.pointer (some ⟨x, 0, none⟩)] (fun i => P.is i && P.used i) P.pages (hv.stay hf1) hl (may_cl HD1.out hnew) (fun i hi => is_true (by simp at hi; exact hi.1)) hp)
  have HF1 := hid hf1
  have HX := hid hnew
  have hmf : ∀ (fn : Fn) (first cap : Array Value) (w : World), (Instr.makeFunc fn first cap).run Tryz.prog w = .ok (.func fn first cap) w := fun _ _ _ _ => rfl
  have hnil : ∀ W : World, (Instr.lookup 68 (.map none) (.int .i64 root) true).run Tryz.prog W = .ok (.tuple #[.agg #[], .bool false]) W := fun W => by kernel_rfl
  have HLK := hid (fun (W : World) (b : Nat) (f : Int → Bool) (hs : SetAt W b f) => hs.look root r1 r2)
  obtain ⟨a, cap, rfl, _⟩ := hv
  have HM := hid hm
  unfold PCommitC
  rw [HE.out]
  rw [hw1] at k8
  have HW1 := hid hw1
  have HXE := hid hx
  clear h hd hf1 hnew hm hw1 hx hl
  go_enter Tryz.func27, Tryz.ntmps27
  go_wp2_with fail
  rw [← HW1.out, ← HXE.out]
  refine HSET.out.mono ?_
  rintro e w2 ⟨hf, h1, h2⟩
  have HF := hid (HF1.out.trans hf (fun _ _ f => f))
  have H1 := hid h1
  have H2 := hid h2
  clear hf h1 h2 k8
  cases hok : setOk (fun i => P.is i && P.used i) l with
  | false =>
    have HOK := hid hok
    clear hok
    rcases H2.out HOK.out with rfl | ⟨B, rfl, hB⟩
    · go_wp2_with fail
      go_ret
      exact ⟨rfl, PTurn.self HD.out (HF.out.alloc _)⟩
    · have hlk := HLK.out _ _ _ hB
      obtain ⟨u, hu⟩ : ∃ u, u = l.contains root := ⟨_, rfl⟩
      rw [← hu] at hlk
      clear hB hu
      go_wp2_with fail
      go_ret
      exact ⟨rfl, PTurn.self HD.out (HF.out.alloc _)⟩
  | true =>
    have hmm : (decide (root = -1) || l.contains root) = false := by
      have := HM.out
      unfold PSt.mayCommit at this
      rw [hok] at this
      simpa using this
    obtain ⟨B, rfl, hB, _⟩ := H1.out hok
    have hlk := HLK.out _ _ _ hB
    simp only [Bool.or_eq_false_iff] at hmm
    rw [hmm.2] at hlk
    have q : (root == -1) = false := by have := hmm.1; simpa using this
    have q2 : (root != -1) = true := by have := hmm.1; simpa using this
    clear hB hmm hok
    go_wp2_with fail
    go_ret
    exact ⟨rfl, PTurn.self HD.out (HF.out.alloc _)⟩
end

end Go.Proofs.YtjkhcfdflcndkaaGreat.D
