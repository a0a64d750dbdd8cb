/-
  The calls whose answers the document fixes: they are so. No condition.
-/
import Derived.Test.YtcklnhjjjapfjaaDC
import Derived.KernelRfl
namespace Go.Proofs.Ytcklnhjjjapfjaa.D
open Go.RowKit Go.Maps Go.Shelf
set_option linter.unusedVariables false
set_option linter.unusedSimpArgs false

def zero (n : Nat) : List UInt8 := List.replicate n 0
def f0 : St := news (zero 128)
def fA : List UInt8 := fillL 128 97
def fX : List UInt8 := fillL 128 120
def f1 : St := (f0.write 0 fA).1
def f3 : St := (f1.arm 1 [1]).1
def f4 : St := (f3.write 0 fX).1

theorem f0_ok : f0.Ok := news_ok (by simp [IsImage, zero])
theorem f1_ok : f1.Ok := (write_ok f0_ok 0 fA).1
theorem f3_ok : f3.Ok := (arm_ok f1_ok (by decide) [1]).1
theorem f4_ok : f4.Ok := (write_ok f3_ok 0 fX).1

theorem q_w1 : (f0.write 0 fA).2 = 0 := by kernel_rfl
theorem q_a1 : (f1.arm 1 [1]).2 = 0 := by kernel_rfl
theorem q_w4 : (f3.write 0 fX).2 = 2 := by kernel_rfl
theorem q_w5 : (f1.write 1 fA).2 = 171 := by kernel_rfl
theorem q_w5s : (f1.write 1 fA).1 = f1 := by kernel_rfl
theorem q_d4 : f4.dead = true := by kernel_rfl
theorem q_d1 : f1.dead = false := by kernel_rfl
theorem q_n1 : f1.n = 2 := by kernel_rfl
theorem aft : ∃ L, f1.after [0, 1] = L ∧ L.length = 128 ∧ L.getD 0 0 = 0 ∧ L.getD 64 0 = 98 := ⟨_, rfl, by kernel_rfl, by kernel_rfl, by kernel_rfl⟩
theorem img : ∃ L, f4.image = L ∧ L.length = 128 ∧ L.getD 0 0 = 120 ∧ L.getD 64 0 = 0 := ⟨_, rfl, by kernel_rfl, by kernel_rfl, by kernel_rfl⟩
theorem red : ∃ L, f1.read 1 1 = (L, 0) ∧ L.length = 64 ∧ L.getD 0 0 = 98 := ⟨(f1.read 1 1).1, by kernel_rfl, by kernel_rfl, by kernel_rfl⟩

theorem mkz (n : Nat) (hn : n ≤ 281474976710656) (w : World) :
    (Instr.makeSlice 26 (.int .i64 (n : Int)) (.int .i64 (n : Int))).run Try.prog w = .ok (.slice (some ⟨w.heap.size, 0, none⟩) n n) (w.alloc (.cells (bytesOf (zero n)).toArray 5)) := mk_row n hn w
theorem mks (n : Nat) (w : World) :
    (convert 26 9 (.slice (some ⟨w.heap.size, 0, none⟩) n n)).run Try.prog (w.alloc (.cells (bytesOf (zero n)).toArray 5)) = .ok (.string (bs (zero n))) (w.alloc (.cells (bytesOf (zero n)).toArray 5)) := made_str n w

theorem at_bs (L : List UInt8) (i : Nat) (h : i < (bs L).size) : (bs L)[i]'h = L.getD i 0 := by
  have hz : (bs L).size = L.length := by simp [bs, ByteArray.size]
  have h' : i < L.length := by omega
  simp [bs, ByteArray.getElem_eq_getElem_data, List.getD_eq_getElem?_getD, h']

set_option maxHeartbeats 8000000 in
set_option maxRecDepth 100000 in
theorem fixed_c (w : World) : Calls Try.prog 10 #[] w fun e w' => e = .returned (.bool true) ∧ Fr (fun _ => False) w w' := by
  have hmk : (Instr.makeSlice 26 (.int .i64 128) (.int .i64 128)).run Try.prog w = .ok (.slice (some ⟨w.heap.size, 0, none⟩) 128 128) (w.alloc (.cells (bytesOf (zero 128)).toArray 5)) := mkz 128 (by omega) w
  have hms := mks 128 w
  obtain ⟨Z, hZ⟩ : ∃ Z, Z = zero 128 := ⟨_, rfl⟩
  have HN1 := hid (new_c (w.alloc (.cells (bytesOf (zero 128)).toArray 5)) (zero 128) (by simp [IsImage, zero]))
  have hf1 := hid (show Fr (fun _ => False) w (w.alloc (.cells (bytesOf (zero 128)).toArray 5)) from (Fr.refl _ w).alloc _)
  rw [← hZ] at hmk hms HN1 hf1
  have hS := hid (show news Z = f0 by rw [hZ]; rfl)
  clear hZ
  go_enter Try.func10, Try.ntmps10
  go_wp2_with fail
  refine HN1.out.mono ?_
  rintro e w2 ⟨g, bm, rfl, hA2, hg2, hb2, hf2⟩
  rw [hS.out] at hA2
  have HA2 := hid hA2
  have HF2 := hid (hf1.out.trans hf2 (fun _ _ f => f))
  have hw2 : w.heap.size ≤ g ∧ w.heap.size ≤ bm := ⟨Nat.le_trans hf1.out.size hg2, Nat.le_trans hf1.out.size hb2⟩
  have hmk2 : (Instr.makeSlice 26 (.int .i64 63) (.int .i64 63)).run Try.prog w2 = .ok (.slice (some ⟨w2.heap.size, 0, none⟩) 63 63) (w2.alloc (.cells (bytesOf (zero 63)).toArray 5)) := mkz 63 (by omega) w2
  have hms2 := mks 63 w2
  have HN2 := hid (new_bad (w2.alloc (.cells (bytesOf (zero 63)).toArray 5)) (zero 63) (by simp [IsImage, zero]) (by simp [zero]))
  obtain ⟨Z2, hZ2⟩ : ∃ Z, Z = zero 63 := ⟨_, rfl⟩
  rw [← hZ2] at hmk2 hms2 HN2
  have HF3 := hid (show Fr (fun _ => False) w2 (w2.alloc (.cells (bytesOf Z2).toArray 5)) from (Fr.refl _ w2).alloc _)
  clear hA2 hg2 hb2 hf2 hZ2
  go_wp2_with fail
  refine HN2.out.mono ?_
  rintro e w3 ⟨rfl, rfl⟩
  obtain ⟨W3, eW3⟩ : ∃ W3, W3 = w2.alloc (.cells (bytesOf Z2).toArray 5) := ⟨_, rfl⟩
  rw [← eW3] at HF3 ⊢
  have HA3 := hid (HA2.out.stay HF3.out)
  have HF3' := hid (HF2.out.trans HF3.out (fun _ _ f => f))
  clear eW3 hmk2 hms2 hmk hms
  have HFA := hid (show Calls Try.prog 14 #[.int .i64 128, .int .u8 97] W3 fun e w' => e = .returned (.string (bs fA)) ∧ Fr (fun _ => False) W3 w' from fill_c 128 97 W3)
  go_wp2_with fail
  refine HFA.out.mono ?_
  rintro e w4 ⟨rfl, hf4⟩
  have HA4 := hid (HA3.out.stay hf4)
  have HF4 := hid (HF3'.out.trans hf4 (fun _ _ f => f))
  have HWR := hid (show Calls Try.prog 15 #[.pointer (some ⟨g, 0, none⟩), .int .i64 0, .string (bs fA)] w4 fun e w' => e = .returned (.int .i64 0) ∧ (∃ bm', At w' g bm' f1 ∧ (bm' = bm ∨ w4.heap.size ≤ bm')) ∧ Fr (fun i => i = g ∨ i = bm) w4 w' by
    have := write_c w4 g bm f0 HA4.out f0_ok 0 (by decide) (by decide) fA (by rw [show fA.length = 128 by kernel_rfl]; omega)
    unfold WriteC at this
    rw [q_w1] at this
    exact this)
  clear hf4
  go_wp2_with fail
  refine HWR.out.mono ?_
  rintro e w5 ⟨rfl, ⟨bm5, hA5, hb5⟩, hf5⟩
  have HA5 := hid hA5
  have hb5' : w.heap.size ≤ bm5 := by
    rcases hb5 with h | h
    · omega
    · exact Nat.le_trans HF4.out.size h
  have HF5 := hid (HF4.out.trans hf5 (fun i hi e => by rcases e with e | e <;> omega))
  obtain ⟨L, hL, hl1, hl2, hl3⟩ := aft
  have HL := hid (And.intro hl1 (And.intro hl2 hl3))
  have hfi := hid (show Fr (fun _ => False) w5 (w5.alloc (.cells #[.int .i64 0, .int .i64 1] 3)) from (Fr.refl _ w5).alloc _)
  have HAF := hid (show Calls Try.prog 17 #[.pointer (some ⟨g, 0, none⟩), .slice (some ⟨w5.heap.size, 0, none⟩) 2 2] (w5.alloc (.cells #[.int .i64 0, .int .i64 1] 3)) fun e w' => e = .returned (.string (bs L)) ∧ Fr (fun _ => False) (w5.alloc (.cells #[.int .i64 0, .int .i64 1] 3)) w' by
    have := after_c (w5.alloc (.cells #[.int .i64 0, .int .i64 1] 3)) g bm5 f1 (HA5.out.stay hfi.out) f1_ok (.slice (some ⟨w5.heap.size, 0, none⟩) 2 2) [0, 1] (ints_new w5 [0, 1] (by decide)).toV
    rw [hL] at this
    exact this)
  clear hA5 hb5 hf5 hL hl1 hl2 hl3
  go_wp2_with fail
  refine HAF.out.mono ?_
  rintro e w7 ⟨rfl, hf7⟩
  have hf57 := hfi.out.trans hf7 (fun _ _ f => f)
  have HA7 := hid (HA5.out.stay hf57)
  have HF7 := hid (HF5.out.trans hf57 (fun _ _ f => f))
  have HCL := hid (clone_c w7 g bm5 f1 HA7.out)
  clear hf7 hf57
  go_wp2_with fail
  refine HCL.out.mono ?_
  rintro e w8 ⟨g2, bm7, rfl, hC8, hg2, hb7, hf8⟩
  have HC8 := hid hC8
  have HA8 := hid (HA7.out.stay hf8)
  have HF8 := hid (HF7.out.trans hf8 (fun _ _ f => f))
  have hlw7 := HA7.out.low
  have hlwC := HC8.out.low
  have hn1 : g ≠ g2 := by omega
  have hn2 : bm5 ≠ bm7 := by omega
  have hfj := hid (show Fr (fun _ => False) w8 (w8.alloc (.cells #[.int .i64 1] 3)) from (Fr.refl _ w8).alloc _)
  have HAM := hid (show Calls Try.prog 18 #[.pointer (some ⟨g2, 0, none⟩), .int .i64 1, .slice (some ⟨w8.heap.size, 0, none⟩) 1 1] (w8.alloc (.cells #[.int .i64 1] 3)) fun e w' => e = .returned (.int .i64 0) ∧ At w' g2 bm7 f3 ∧ Fr (fun i => i = g2 ∨ i = bm7) (w8.alloc (.cells #[.int .i64 1] 3)) w' by
    have := arm_c (w8.alloc (.cells #[.int .i64 1] 3)) g2 bm7 f1 (HC8.out.stay hfj.out) f1_ok 1 (by decide) (by decide) (.slice (some ⟨w8.heap.size, 0, none⟩) 1 1) [1] (ints_new w8 [1] (by decide)).toV (by decide)
    rw [q_a1] at this
    exact this)
  have hs8 : w7.heap.size ≤ w8.heap.size := hf8.size
  clear hC8 hf8
  go_wp2_with fail
  refine HAM.out.mono ?_
  rintro e w10 ⟨rfl, hC10, hf10⟩
  have HC10 := hid hC10
  have hA9 := HA8.out.stay hfj.out
  have hC9 := HC8.out.stay hfj.out
  have HA10 := hid (hA9.beside hC9 hf10 hn1 hn2)
  have hw10 : w.heap.size ≤ g2 ∧ w.heap.size ≤ bm7 := ⟨Nat.le_trans HF7.out.size hg2, Nat.le_trans HF7.out.size hb7⟩
  have HF10 := hid ((HF8.out.trans hfj.out (fun _ _ f => f)).trans hf10 (fun i hi e => by rcases e with e | e <;> omega))
  have HFB := hid (show Calls Try.prog 14 #[.int .i64 128, .int .u8 120] w10 fun e w' => e = .returned (.string (bs fX)) ∧ Fr (fun _ => False) w10 w' from fill_c 128 120 w10)
  clear hC10 hA9 hC9 hf10
  go_wp2_with fail
  refine HFB.out.mono ?_
  rintro e w11 ⟨rfl, hf11⟩
  have HA11 := hid (HA10.out.stay hf11)
  have HC11 := hid (HC10.out.stay hf11)
  have HF11 := hid (HF10.out.trans hf11 (fun _ _ f => f))
  have HWX := hid (show Calls Try.prog 15 #[.pointer (some ⟨g2, 0, none⟩), .int .i64 0, .string (bs fX)] w11 fun e w' => e = .returned (.int .i64 2) ∧ (∃ bm', At w' g2 bm' f4 ∧ (bm' = bm7 ∨ w11.heap.size ≤ bm')) ∧ Fr (fun i => i = g2 ∨ i = bm7) w11 w' by
    have := write_c w11 g2 bm7 f3 HC11.out f3_ok 0 (by decide) (by decide) fX (by rw [show fX.length = 128 by kernel_rfl]; omega)
    unfold WriteC at this
    rw [q_w4] at this
    exact this)
  clear hf11
  go_wp2_with fail
  refine HWX.out.mono ?_
  rintro e w12 ⟨rfl, ⟨bm12, hC12, hb12⟩, hf12⟩
  have HC12 := hid hC12
  have HA12 := hid (HA11.out.beside HC11.out hf12 hn1 hn2)
  have hlw11 := HA11.out.low
  have hn3 : bm5 ≠ bm12 := by omega
  have hw12 : w.heap.size ≤ bm12 := by
    rcases hb12 with h | h
    · omega
    · exact Nat.le_trans HF11.out.size h
  have HF12 := hid (HF11.out.trans hf12 (fun i hi e => by rcases e with e | e <;> omega))
  have HFC := hid (show Calls Try.prog 14 #[.int .i64 128, .int .u8 97] w12 fun e w' => e = .returned (.string (bs fA)) ∧ Fr (fun _ => False) w12 w' from fill_c 128 97 w12)
  clear hC12 hb12 hf12 hlw11
  go_wp2_with fail
  refine HFC.out.mono ?_
  rintro e w13 ⟨rfl, hf13⟩
  have HA13 := hid (HA12.out.stay hf13)
  have HC13 := hid (HC12.out.stay hf13)
  have HF13 := hid (HF12.out.trans hf13 (fun _ _ f => f))
  have HWD := hid (show Calls Try.prog 15 #[.pointer (some ⟨g, 0, none⟩), .int .i64 1, .string (bs fA)] w13 fun e w' => e = .returned (.int .i64 171) ∧ (∃ bm', At w' g bm' f1 ∧ (bm' = bm5 ∨ w13.heap.size ≤ bm')) ∧ Fr (fun i => i = g ∨ i = bm5) w13 w' by
    have := write_c w13 g bm5 f1 HA13.out f1_ok 1 (by decide) (by decide) fA (by rw [show fA.length = 128 by kernel_rfl]; omega)
    unfold WriteC at this
    rw [q_w5, q_w5s] at this
    exact this)
  clear hf13
  go_wp2_with fail
  refine HWD.out.mono ?_
  rintro e w14 ⟨rfl, ⟨bm14, hA14, hb14⟩, hf14⟩
  have HA14 := hid hA14
  have HC14 := hid (HC13.out.beside HA13.out hf14 (fun e => hn1 e.symm) (fun e => hn3 e.symm))
  have HF14 := hid (HF13.out.trans hf14 (fun i hi e => by rcases e with e | e <;> omega))
  obtain ⟨R, hR, hr1, hr2⟩ := red
  have HR := hid (And.intro hr1 hr2)
  have HRD := hid (show Calls Try.prog 20 #[.pointer (some ⟨g, 0, none⟩), .int .i64 1, .int .i64 1] w14 fun e w' => e = .returned (.tuple #[.string (bs R), .int .i64 0]) ∧ Fr (fun _ => False) w14 w' by
    have := read_c w14 g bm14 f1 HA14.out f1_ok 1 1 (by decide) (by decide)
    unfold ReadC at this
    rw [hR] at this
    exact this)
  clear hA14 hb14 hf14 hR hr1 hr2
  go_wp2_with fail
  refine HRD.out.mono ?_
  rintro e w15 ⟨rfl, hf15⟩
  have HA15 := hid (HA14.out.stay hf15)
  have HC15 := hid (HC14.out.stay hf15)
  have HF15 := hid (HF14.out.trans hf15 (fun _ _ f => f))
  obtain ⟨l1, l2, l3⟩ := HL.out
  obtain ⟨r1, r2⟩ := HR.out
  have m2 : ∀ h : 0 < (bs L).size, ((bs L)[0]'h).toNat = 0 := fun h => by rw [at_bs, l2]; rfl
  have m3 : ∀ h : 64 < (bs L).size, ((bs L)[64]'h).toNat = 98 := fun h => by rw [at_bs, l3]; rfl
  have m4 : ∀ h : 0 < (bs R).size, ((bs R)[0]'h).toNat = 98 := fun h => by rw [at_bs, r2]; rfl
  obtain ⟨I, hI, i1, i2, i3⟩ := img
  have m5 : ∀ h : 0 < (bs I).size, ((bs I)[0]'h).toNat = 120 := fun h => by rw [at_bs, i2]; rfl
  have m6 : ∀ h : 64 < (bs I).size, ((bs I)[64]'h).toNat = 0 := fun h => by rw [at_bs, i3]; rfl
  have HD1 := hid (show Calls Try.prog 13 #[.pointer (some ⟨g2, 0, none⟩)] w15 fun e w' => e = .returned (.bool true) ∧ w' = w15 from q_d4 ▸ dead_c w15 g2 bm12 f4 HC15.out)
  have HD2 := hid (show Calls Try.prog 13 #[.pointer (some ⟨g, 0, none⟩)] w15 fun e w' => e = .returned (.bool false) ∧ w' = w15 from q_d1 ▸ dead_c w15 g bm14 f1 HA15.out)
  have HIM := hid (show ∀ w', Fr (fun _ => False) w15 w' → Calls Try.prog 16 #[.pointer (some ⟨g2, 0, none⟩)] w' fun e w'' => e = .returned (.string (bs I)) ∧ Fr (fun _ => False) w' w'' from fun w' hw' => by
    have := image_c w' g2 bm12 f4 (HC15.out.stay hw') f4_ok
    rwa [hI] at this)
  have HCN := hid (show ∀ w', Fr (fun _ => False) w15 w' → Calls Try.prog 11 #[.pointer (some ⟨g, 0, none⟩)] w' fun e w'' => e = .returned (.int .i64 2) ∧ w'' = w' from fun w' hw' => by
    have := count_c w' g bm14 f1 (HA15.out.stay hw') f1_ok
    rwa [q_n1] at this)
  clear hf15 HN1 hf1 hS HA2 HF2 HN2 HF3 HA3 HF3' HFA HA4 HF4 HWR HA5 HF5 HAF HA7 HF7 HCL HC8 HA8 HF8 HAM HC10 HA10 HF10 HFB HA11 HC11 HF11 HWX HC12 HA12 HF12 HFC HA13 HC13 HF13 HWD HA14 HC14 HF14 HRD HL HR hI l2 l3 r2 i2 i3 hfi hfj
  go_wp2_with fail
  refine HD1.out.mono ?_
  rintro e w16 ⟨rfl, rfl⟩
  go_wp2_with fail
  refine HD2.out.mono ?_
  rintro e w17 ⟨rfl, rfl⟩
  go_wp2_with fail
  refine (HIM.out _ (Fr.refl _ _)).mono ?_
  rintro e w18 ⟨rfl, hf18⟩
  have HF18 := hid hf18
  clear hf18
  go_wp2_with fail
  refine (HIM.out _ HF18.out).mono ?_
  rintro e w19 ⟨rfl, hf19⟩
  have HF19 := hid (HF18.out.trans hf19 (fun _ _ f => f))
  clear hf19
  go_wp2_with fail
  refine (HIM.out _ HF19.out).mono ?_
  rintro e w20 ⟨rfl, hf20⟩
  have HF20 := hid (HF19.out.trans hf20 (fun _ _ f => f))
  clear hf20
  go_wp2_with fail
  refine (HCN.out _ HF20.out).mono ?_
  rintro e w21 ⟨rfl, rfl⟩
  go_wp2_with fail
  go_ret
  exact ⟨rfl, HF15.out.trans HF20.out (fun _ _ f => f)⟩

end Go.Proofs.Ytcklnhjjjapfjaa.D
