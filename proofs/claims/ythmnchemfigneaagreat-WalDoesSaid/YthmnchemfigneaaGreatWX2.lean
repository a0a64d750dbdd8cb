/-
  fixed: it is true. No condition.
-/
import Derived.Test.YthmnchemfigneaaGreatWX
import Derived.Deep.RegionWith
namespace Go.Proofs.YthmnchemfigneaaGreat.D
open Go.RowKit Go.Maps Go.Shelf
set_option linter.unusedVariables false
set_option linter.unusedSimpArgs false

theorem conv_keep (w5 w6 : World) (k g bm : Nat) (n : Nat) (hk : k < w5.heap.size) (hg : g < w5.heap.size) (hb : bm < w5.heap.size)
    (hf : Fr (fun i => i = k ∨ i = g ∨ i = bm) (w5.alloc (.cells (bytesOf (zero n)).toArray 5)).drew w6) :
    (convert 54 9 (.slice (some ⟨w5.heap.size, 0, none⟩) n n)).run Tryz.prog w6 = .ok (.string (bs (zero n))) w6 := by
  have h := row_str (zero n) n w5.heap.size (0, 0) w6 (hf.at (show (w5.alloc (.cells (bytesOf (zero n)).toArray 5)).drew.heap[w5.heap.size]? = _ from (MapKept.heap_alloc w5 _).1) (by omega))
  rwa [show (zero n).length = n by simp [zero]] at h
theorem conv_now (w5 : World) (n : Nat) :
    (convert 54 9 (.slice (some ⟨w5.heap.size, 0, none⟩) n n)).run Tryz.prog (w5.alloc (.cells (bytesOf (zero n)).toArray 5)).drew = .ok (.string (bs (zero n))) (w5.alloc (.cells (bytesOf (zero n)).toArray 5)).drew := by
  have h := row_str (zero n) n w5.heap.size (0, 0) (w5.alloc (.cells (bytesOf (zero n)).toArray 5)).drew (show (w5.alloc (.cells (bytesOf (zero n)).toArray 5)).drew.heap[w5.heap.size]? = _ from (MapKept.heap_alloc w5 _).1)
  rwa [show (zero n).length = n by simp [zero]] at h

def A1C (k g : Nat) (r : List UInt8) (L L' : LSt) (s s' : St) (c : Int) (W : World) (bm : Nat) : Prop :=
  Calls Tryz.prog 8 #[.pointer (some ⟨k, 0, none⟩), .string (bs r)] W fun e w' => e = .returned (.int .i64 c) ∧ LogAt w' k g L' ∧ (∃ bm', At w' g bm' s' ∧ (bm' = bm ∨ W.heap.size ≤ bm')) ∧ Fr (fun i => i = k ∨ i = g ∨ i = bm) W w'

theorem a1 {W : World} {k g bm : Nat} (hl : LogAt W k g l0) (ha : At W g bm x0) : A1C k g [97] l0 l1 x0 x1 0 W bm := by
  have := append_c W k g bm l0 x0 [97] hl ha x0_ok l0_ok (by decide)
  unfold AppendC at this
  rw [y_a1] at this
  exact this
theorem a2 {W : World} {k g bm : Nat} (hl : LogAt W k g l1) (ha : At W g bm x1) : A1C k g (zero 49) l1 l2 x1 x2 0 W bm := by
  have := append_c W k g bm l1 x1 (zero 49) hl ha l1_ok.1 l1_ok.2.2 (by decide)
  unfold AppendC at this
  rw [y_a2] at this
  exact this
set_option maxRecDepth 100000 in
theorem a3 {W : World} {k g bm : Nat} (hl : LogAt W k g l2) (ha : At W g bm x2) : A1C k g [] l2 l2 x2 x2 182 W bm := by
  have := append_c W k g bm l2 x2 [] hl ha l2_ok.1 l2_ok.2.2 (by decide)
  unfold AppendC at this
  rw [y_a3] at this
  exact this

set_option maxHeartbeats 8000000 in
set_option maxRecDepth 100000 in
theorem fixed_c (w : World) : Calls Tryz.prog 7 #[] w fun e w' => e = .returned (.bool true) ∧ Fr (fun _ => False) w w' := by
  obtain ⟨S, hS, hS1, hS2, hS3, hS4, hS5⟩ := y_s1
  have HC1 := hid (show Calls Tryz.prog 33 #[.int .i64 1, .string (bs [97])] w fun e w' => e = .returned (.tuple #[.string (bs S), .int .i64 0]) ∧ Fr (fun _ => False) w w' by
    have := sectors_x w 1 [97] (by decide)
    rwa [hS] at this)
  have HC2 := hid (fun W : World => show Calls Tryz.prog 33 #[.int .i64 0, .string (bs [97])] W fun e w' => e = .returned (.tuple #[.string (bs []), .int .i64 1]) ∧ Fr (fun _ => False) W w' by
    have := sectors_x W 0 [97] (by decide)
    rwa [y_s0] at this)
  have HS := hid (And.intro hS1 (And.intro hS2 (And.intro hS3 (And.intro hS4 hS5))))
  clear hS hS1 hS2 hS3 hS4 hS5
  go_enter Tryz.func7, Tryz.ntmps7
  go_wp2_with fail
  refine HC1.out.mono ?_
  rintro e w2 ⟨rfl, hf2⟩
  have HF2 := hid hf2
  clear hf2
  go_wp2_with fail
  refine (HC2.out _).mono ?_
  rintro e w3 ⟨rfl, hf3⟩
  have HF3 := hid (HF2.out.trans hf3 (fun _ _ f => f))
  clear hf3
  have hmk : (Instr.makeSlice 54 (.int .i64 256) (.int .i64 256)).run Tryz.prog w3 = .ok (.slice (some ⟨w3.heap.size, 0, none⟩) 256 256) (w3.alloc (.cells (bytesOf (zero 256)).toArray 5)) := mkz 256 (by omega) w3
  have hms := mks 256 w3
  have HDK := hid (disks_c (w3.alloc (.cells (bytesOf (zero 256)).toArray 5)) (zero 256) (by simp [zero]))
  have HF3b := hid (show Fr (fun _ => False) w3 (w3.alloc (.cells (bytesOf (zero 256)).toArray 5)) from (Fr.refl _ w3).alloc _)
  obtain ⟨Z, hZ⟩ : ∃ Z, Z = zero 256 := ⟨_, rfl⟩
  rw [← hZ] at hmk hms HDK HF3b
  have HZ := hid hZ
  clear hZ
  go_wp2_with fail
  refine HDK.out.mono ?_
  rintro e w4 ⟨g, bm, m, b1, b2, N, rfl, hDJ⟩
  have hx0 : news (imgOf Z) = x0 := by rw [HZ.out]; rfl
  rw [hx0] at hDJ
  have hlow : w.heap.size ≤ g ∧ w.heap.size ≤ bm := by
    have h1 := HF3.out.size
    have h2 := HF3b.out.size
    have := hDJ.low
    omega
  have HF4 := hid ((HF3.out.trans HF3b.out (fun _ _ f => f)).trans hDJ.fr (fun _ _ f => f))
  have HA4 := hid hDJ.at_
  have HLW := hid hlow
  clear hDJ hx0 hlow hmk hms
  obtain ⟨hS1, hS2, hS3, hS4, hS5⟩ := HS.out
  have hs7 := slice_bs (P := Tryz.prog) 9 Tryz.underlying9 w4 S 14 17 (by omega) (by omega) 14 17 rfl rfl
  rw [show (S.drop 14).take (17 - 14) = [82, 87, 97] from hS5] at hs7
  have hz : (bs S).size = 64 := by simp [bs, ByteArray.size, hS1]
  have g7 := at_bs S 7 (by omega)
  have g11 := at_bs S 11 (by omega)
  have g13 := at_bs S 13 (by omega)
  rw [hS2] at g7
  rw [hS3] at g11
  rw [hS4] at g13
  have HS1 := hid hS1
  have HR0 := hid (show Calls Tryz.prog 34 #[.pointer (some ⟨g, 0, none⟩), .int .i64 0, .int .i64 4, .int .i64 5] w4 fun e w' => ∃ v, e = .returned (.tuple #[v, .int .i64 5, .int .i64 0]) ∧ Texts w' w4.heap.size v [] ∧ Fr (fun _ => False) w4 w' by
    have := wread_c w4 g bm x0 HA4.out x0_ok 0 4 5 (by decide) (by decide)
    unfold WReadC at this
    rw [y_r0] at this
    exact this)
  clear hS2 hS3 hS4 hS5
  go_wp2_with fail
  refine HR0.out.mono ?_
  rintro e w5 ⟨v5, rfl, ht5, hf5⟩
  have hv5 : TV w5 v5 [] := ht5.tv (by decide)
  obtain ⟨p5, cap5, rfl, _, _⟩ := hv5
  have HA5 := hid (HA4.out.stay hf5)
  have HF5 := hid (HF4.out.trans hf5 (fun _ _ f => f))
  clear ht5 hf5 hs7 hz g7 g11 g13
  have HBG := hid (begin_c w5 g bm x0 HA5.out x0_ok 1 3 5 (by decide) (by decide) y_c0)
  simp only [List.length_nil]
  go_wp2_with fail
  refine HBG.out.mono ?_
  rintro e w6 ⟨k, rfl, hl6, hk6, hf6⟩
  have HL6 := hid (show LogAt w6 k g l0 from hl6)
  have HA6 := hid (HA5.out.stay hf6)
  have HF6 := hid (HF5.out.trans hf6 (fun _ _ f => f))
  have HK6 := hid (show w.heap.size ≤ k from Nat.le_trans HF5.out.size hk6)
  clear hl6 hk6 hf6
  have HRM := hid (show Calls Tryz.prog 22 #[.pointer (some ⟨k, 0, none⟩)] w6 fun e w' => e = .returned (.int .i64 144) ∧ Fr (fun _ => False) w6 w' by
    have := room_c w6 k g l0 HL6.out l0_ok.at_ (by have := l0_ok.area; rw [y_n0] at this; omega)
    rwa [y_rm0] at this)
  go_wp2_with fail
  refine HRM.out.mono ?_
  rintro e w7 ⟨rfl, hf7⟩
  have HL7 := hid (HL6.out.stay hf7)
  have HA7 := hid (HA6.out.stay hf7)
  have HF7 := hid (HF6.out.trans hf7 (fun _ _ f => f))
  have hk7 : k < w7.heap.size := lt_of_at HL7.out
  have hg7 := HA7.out.low
  clear hf7
  go_wp2_with fail
  have hmk49 : ∀ W : World, (Instr.makeSlice 54 (.int .i64 49) (.int .i64 49)).run Tryz.prog W = .ok (.slice (some ⟨W.heap.size, 0, none⟩) 49 49) (W.alloc (.cells (bytesOf (zero 49)).toArray 5)) := fun W => mkz 49 (by omega) W
  have cnow := fun W : World => conv_now W 49
  have cnow2 := fun W : World => mks 49 W
  obtain ⟨Z9, hZ9⟩ : ∃ Z, Z = zero 49 := ⟨_, rfl⟩
  have HA2C := hid (fun (W : World) (bm : Nat) (hl : LogAt W k g l1) (ha : At W g bm x1) => show A1C k g Z9 l1 l2 x1 x2 0 W bm from hZ9 ▸ a2 hl ha)
  have HCK := hid (fun (w6 : World) (hf : Fr (fun i => i = k ∨ i = g ∨ i = bm) (w7.alloc (.cells (bytesOf Z9).toArray 5)).drew w6) => show (convert 54 9 (.slice (some ⟨w7.heap.size, 0, none⟩) 49 49)).run Tryz.prog w6 = .ok (.string (bs Z9)) w6 by
    rw [hZ9]; exact conv_keep w7 w6 k g bm 49 hk7 hg7.1 hg7.2 (by rw [← hZ9]; exact hf))
  rw [← hZ9] at hmk49 cnow cnow2
  have HZ9 := hid hZ9
  clear hZ9
  unfold A1C at HA2C
  have HLd := hid (show LogAt w7.drew k g l0 from HL7.out.drew)
  have HAd := hid (show At w7.drew g bm x0 from HA7.out.drew)
  have HFa := hid (show Fr (fun _ => False) w7 (w7.alloc (.cells (bytesOf Z9).toArray 5)).drew from ((Fr.refl _ w7).alloc _).drew)
  have HA1a := hid (show A1C k g [97] l0 l1 x0 x1 0 w7.drew bm from a1 HLd.out HAd.out)
  have HA1b := hid (show A1C k g [97] l0 l1 x0 x1 0 (w7.alloc (.cells (bytesOf Z9).toArray 5)).drew bm from a1 (HL7.out.stay HFa.out) (HA7.out.stay HFa.out))
  unfold A1C at HA1a HA1b
  go_region_with (first
    | (go_at_call_of 8 (Value.string ⟨#[97]⟩); refine HA1a.out.mono ?_; rintro e w8 ⟨rfl, hl8, ⟨bm8, ha8, hb8⟩, hf8⟩; have hq8 : Fr (fun i => i = k ∨ i = g ∨ i = bm) w7 w8 := (fr_no (Fr.refl (fun _ => False) w7).drew).trans hf8 (fun _ _ e => e))
    | (go_at_call_of 8 (Value.string ⟨#[97]⟩); refine HA1b.out.mono ?_; rintro e w8 ⟨rfl, hl8, ⟨bm8, ha8, hb8⟩, hf8⟩; have hcv8 := HCK.out w8 hf8; have hq8 : Fr (fun i => i = k ∨ i = g ∨ i = bm) w7 w8 := (fr_no HFa.out).trans hf8 (fun _ _ e => e))
    | (go_at_call_of 8 (Value.string (bs Z9)); refine (HA2C.out _ bm8 (by first | exact hl8 | exact hl8.stay ((Fr.refl _ _).alloc _)) (by first | exact ha8 | exact ha8.stay ((Fr.refl _ _).alloc _))).mono ?_; rintro e w9 ⟨rfl, hl9, ⟨bm9, ha9, hb9⟩, hf9⟩))
  all_goals
    have h7 : w.heap.size ≤ w7.heap.size := HF7.out.size
    have s8 : w.heap.size ≤ bm8 := by
      have := HLW.out
      rcases hb8 with h | h
      · omega
      · first | exact Nat.le_trans h7 h | exact Nat.le_trans h7 (Nat.le_trans HFa.out.size h)
    have hF9 : Fr (fun _ => False) w w9 := by
      have h1 := HLW.out
      have h2 := HK6.out
      have hq : Fr (fun i => i = k ∨ i = g ∨ i = bm ∨ i = bm8) w7 w9 := by
        first
          | exact (hq8.mono (fun i _ e => by omega)).trans hf9 (fun i _ e => by omega)
          | exact ((hq8.mono (T := fun i => i = k ∨ i = g ∨ i = bm ∨ i = bm8) (fun i _ e => by omega)).alloc _).trans hf9 (fun i _ e => by omega)
      exact HF7.out.trans hq (fun i hi e => by omega)
    have HF9 := hid hF9
    have HL9 := hid hl9
    have HA9 := hid ha9
    have hlw9 : w.heap.size ≤ bm9 := by
      rcases hb9 with h | h
      · omega
      · have h8 := hq8.size
        first | exact Nat.le_trans h7 (Nat.le_trans h8 h) | exact Nat.le_trans h7 (Nat.le_trans h8 (Nat.le_trans (by simp) h))
    have HLB9 := hid hlw9
    clear hlw9 hF9 hl9 ha9 hb9 hf9 hl8 ha8 hb8 hf8 hq8 s8 h7 hmk49 cnow cnow2
    try clear hcv8
    have HA3 := hid (a3 HL9.out HA9.out)
    unfold A1C at HA3
    go_wp2_with fail
    refine HA3.out.mono ?_
    rintro e w10 ⟨rfl, hl10, ⟨bm10, ha10, hb10⟩, hf10⟩
    have HL10 := hid hl10
    have HA10 := hid ha10
    have HF10 := hid (show Fr (fun _ => False) w w10 from HF9.out.trans hf10 (fun i hi e => by have := HLW.out; have := HK6.out; have := HLB9.out; omega))
    clear hl10 ha10 hf10 hb10
    have HR2 := hid (show Calls Tryz.prog 34 #[.pointer (some ⟨g, 0, none⟩), .int .i64 1, .int .i64 3, .int .i64 5] w10 fun e w' => ∃ v, e = .returned (.tuple #[v, .int .i64 7, .int .i64 0]) ∧ Texts w' w10.heap.size v [[97], zero 49] ∧ Fr (fun _ => False) w10 w' by
      have := wread_c w10 g bm10 x2 HA10.out l2_ok.1 1 3 5 (by decide) (by decide)
      unfold WReadC at this
      rw [y_r2] at this
      exact this)
    go_wp2_with fail
    refine HR2.out.mono ?_
    rintro e w11 ⟨v11, rfl, ht11, hf11⟩
    have hv11 : TV w11 v11 [[97], zero 49] := ht11.tv (by decide)
    have HV11 := hid hv11
    obtain ⟨p11, cap11, rfl, _, hp11⟩ := hv11
    obtain ⟨b11, o11, rfl, hc11⟩ : ∃ b o, p11 = some ⟨b, o, none⟩ ∧ ∀ j, j < 2 → w11.cell? ⟨b, o + j, none⟩ = some (.string (bs ([[97], zero 49].getD j []))) := by
      rcases hp11 with h | h
      · cases h
      · exact h
    have k0 : w11.cell? ⟨b11, o11 + 0, none⟩ = some (.string (bs [97])) := hc11 0 (by omega)
    have k1 : w11.cell? ⟨b11, o11 + 1, none⟩ = some (.string (bs (zero 49))) := hc11 1 (by omega)
    have K := hid (And.intro k0 k1)
    have HL11 := hid (HL10.out.stay hf11)
    have HA11 := hid (HA10.out.stay hf11)
    have HF11 := hid (HF10.out.trans hf11 (fun _ _ f => f))
    clear ht11 hp11 hf11 hc11 k0 k1
    simp only [List.length_cons, List.length_nil]
    have HR3 := hid (show Calls Tryz.prog 34 #[.pointer (some ⟨g, 0, none⟩), .int .i64 2, .int .i64 4, .int .i64 5] w11 fun e w' => ∃ v n, e = .returned (.tuple #[v, .int .i64 n, .int .i64 180]) ∧ TV w' v (walRead x2 2 4 5).1 ∧ Fr (fun _ => False) w11 w' by
      have := wread_c w11 g bm10 x2 HA11.out l2_ok.1 2 4 5 (by decide) (by decide)
      unfold WReadC at this
      rw [y_r3] at this
      refine this.mono ?_
      rintro e w' ⟨v, rfl, h1, h2⟩
      exact ⟨v, _, rfl, h1.tv (by decide +kernel), h2⟩)
    go_wp2_with fail
    refine HR3.out.mono ?_
    rintro e w12 ⟨v12, n12, rfl, hv12, hf12⟩
    obtain ⟨p12, cap12, rfl, _, _⟩ := hv12
    have HL12 := hid (HL11.out.stay hf12)
    have HF12 := hid (HF11.out.trans hf12 (fun _ _ f => f))
    have k0 : w12.cell? ⟨b11, o11, none⟩ = some (.string (bs [97])) := cells_stay hf12 K.out.1
    have k1 : w12.cell? ⟨b11, o11 + 1, none⟩ = some (.string (bs (zero 49))) := cells_stay hf12 K.out.2
    obtain ⟨Y, hY⟩ : ∃ Y, Y = zero 49 := ⟨_, rfl⟩
    rw [← hY] at k1
    have hYl : Y.length = 49 := by rw [hY]; simp [zero]
    have HRM2 := hid (show Calls Tryz.prog 22 #[.pointer (some ⟨k, 0, none⟩)] w12 fun e w' => e = .returned (.int .i64 (-1)) ∧ Fr (fun _ => False) w12 w' by
      have := room_c w12 k g l2 HL12.out l2_ok.2.2.at_ (by decide +kernel)
      rwa [y_rm2] at this)
    have HNX := hid (fun (W : World) (hf : Fr (fun _ => False) w12 W) => show Calls Tryz.prog 21 #[.pointer (some ⟨k, 0, none⟩)] W fun e w' => e = .returned (.int .i64 7) ∧ w' = W by
      have := next_c W k g l2 (HL12.out.stay hf)
      rwa [y_nx2] at this)
    clear hf12 hY
    go_wp2_with fail
    refine HRM2.out.mono ?_
    rintro e w13 ⟨rfl, hf13⟩
    have HF13 := hid (HF12.out.trans hf13 (fun _ _ f => f))
    have HNX2 := hid (HNX.out w13 hf13)
    clear hf13
    go_wp2_with fail
    refine HNX2.out.mono ?_
    rintro e w14 ⟨rfl, rfl⟩
    go_wp2_with fail
    go_ret
    exact ⟨rfl, HF13.out⟩

end Go.Proofs.YthmnchemfigneaaGreat.D
