/-
  A pager's Write, Live. No condition beyond the sizes that are named.
-/
import Derived.Test.YtjkhcfdflcndkaaGP
import Derived.Test.YtjkhcfdflcndkaaShelf
import Derived.Deep.RegionHeld3
namespace Go.Proofs.Ytjkhcfdflcndkaa.D
open Go.RowKit Go.Maps Go.Shelf
set_option linter.unusedVariables false
set_option linter.unusedSimpArgs false

theorem repeatL_zero : ∀ c : Nat, Lib.repeatL [(0 : UInt8)] c = List.replicate c 0
  | 0 => rfl
  | c + 1 => by
    have ih := repeatL_zero c
    show 0 :: Lib.repeatL [(0 : UInt8)] c = _
    rw [ih, List.replicate_succ]

theorem repeat_c (w : World) (c : Nat) (hc : c ≤ 1000000) :
    Calls Try.prog 29 #[.string (bs [0]), .int .i64 c] w fun e w' => e = .returned (.string (bs (List.replicate c 0))) ∧ Fr (fun _ => False) w w' := by
  have hz : (bs [0]).size = 1 := rfl
  refine (Try.strings_Repeat (bs [0]) c w (by omega) (by rw [hz]; omega)).mono ?_
  rintro e w' ⟨rfl, hb⟩
  refine ⟨?_, Fr.below hb _⟩
  rw [show (bs [0]).data.toList = [0] from rfl, repeatL_zero]

def PWriteC (w : World) (p g bm ml mt : Nat) (P : PSt) (S : St) (k : Int) (l : List UInt8) : Prop :=
  Calls Try.prog 12 #[.pointer (some ⟨p, 0, none⟩), .int .i64 k, .string (bs l)] w fun e w' => e = .returned (.int .i64 (P.write S k l).2.2) ∧ PTurn w w' p g bm ml mt (P.write S k l).1 (P.write S k l).2.1

section
variable (w : World) (p g bm ml mt : Nat) (P : PSt) (S : St) (h : PD w p g bm ml mt P S) (k : Int) (l : List UInt8)
include h
set_option maxRecDepth 100000 in
theorem pwrite_dead (h1 : -9223372036854775808 ≤ k) (h2 : k ≤ 9223372036854775807) (hd : P.dead = true) : PWriteC w p g bm ml mt P S k l := by
  have HD := hid h
  have HE := hid (show P.write S k l = (P, S, 2) by unfold PSt.write; rw [if_pos hd])
  have c7 : w.cell? ⟨p, 7, none⟩ = some (.map (some mt)) := cell_at h.pa.1 7
  have c8 : ∀ W, Fr (fun _ => False) w W → W.cell? ⟨p, 8, none⟩ = some (.bool true) := fun W hf => hd ▸ cell_at ((hf.at h.pa.1 (fun f => f))) 8
  have e1 := h.pa.2.2.1.look k h1 h2
  have hf1 : Fr (fun _ => False) w (w.alloc (.cells #[] 59)) := (Fr.refl _ w).alloc _
  have k8 := c8 _ hf1
  obtain ⟨a, ha⟩ : ∃ a, a = P.taken k := ⟨_, rfl⟩
  rw [← ha] at e1
  have HF := hid hf1
  unfold PWriteC
  rw [HE.out]
  clear h hd c8 hf1 ha
  cases a <;>
  · go_enter Try.func12, Try.ntmps12
    go_wp2_with fail
    go_ret
    exact ⟨rfl, PTurn.self HD.out HF.out⟩

set_option maxRecDepth 100000 in
theorem pwrite_long (h1 : -9223372036854775808 ≤ k) (h2 : k ≤ 9223372036854775807) (hd : P.dead = false) (hl : 512 < l.length) (hl2 : l.length ≤ 9223372036854775807) : PWriteC w p g bm ml mt P S k l := by
  have HD := hid h
  have HE := hid (show P.write S k l = (P, S, 193) by unfold PSt.write; rw [if_neg (by simp [hd]), if_pos hl])
  have c7 : w.cell? ⟨p, 7, none⟩ = some (.map (some mt)) := cell_at h.pa.1 7
  have c8 : ∀ W, Fr (fun _ => False) w W → W.cell? ⟨p, 8, none⟩ = some (.bool false) := fun W hf => hd ▸ cell_at ((hf.at h.pa.1 (fun f => f))) 8
  have e1 := h.pa.2.2.1.look k h1 h2
  have hf1 : Fr (fun _ => False) w (w.alloc (.cells #[] 59)) := (Fr.refl _ w).alloc _
  have k8 := c8 _ hf1
  obtain ⟨a, ha⟩ : ∃ a, a = P.taken k := ⟨_, rfl⟩
  rw [← ha] at e1
  have HF := hid hf1
  unfold PWriteC
  rw [HE.out]
  clear h hd c8 hf1 ha
  cases a <;>
  · go_enter Try.func12, Try.ntmps12
    go_wp2_with fail
    go_ret
    exact ⟨rfl, PTurn.self HD.out HF.out⟩

set_option maxRecDepth 100000 in
theorem pwrite_not (h1 : -9223372036854775808 ≤ k) (h2 : k ≤ 9223372036854775807) (hd : P.dead = false) (hl : ¬ 512 < l.length) (ht : P.taken k = false) : PWriteC w p g bm ml mt P S k l := by
  have HD := hid h
  have HE := hid (show P.write S k l = (P, S, 191) by unfold PSt.write; rw [if_neg (by simp [hd]), if_neg hl, if_pos ht])
  have c7 : w.cell? ⟨p, 7, none⟩ = some (.map (some mt)) := cell_at h.pa.1 7
  have c8 : ∀ W, Fr (fun _ => False) w W → W.cell? ⟨p, 8, none⟩ = some (.bool false) := fun W hf => hd ▸ cell_at ((hf.at h.pa.1 (fun f => f))) 8
  have e1 := h.pa.2.2.1.look k h1 h2
  have hf1 : Fr (fun _ => False) w (w.alloc (.cells #[] 59)) := (Fr.refl _ w).alloc _
  have k8 := c8 _ hf1
  rw [ht] at e1
  have HF := hid hf1
  unfold PWriteC
  rw [HE.out]
  clear h hd c8 hf1 ht
  go_enter Try.func12, Try.ntmps12
  go_wp2_with fail
  go_ret
  exact ⟨rfl, PTurn.self HD.out HF.out⟩

set_option maxHeartbeats 4000000 in
set_option maxRecDepth 100000 in
theorem pwrite_go (hS : S.Ok) (hP : P.Ok S.n) (hd : P.dead = false) (hl : ¬ 512 < l.length) (ht : P.taken k = true) : PWriteC w p g bm ml mt P S k l := by
  have HD := hid h
  obtain ⟨hk0, hk1⟩ := hP.tk k ht
  obtain ⟨R, hR⟩ : ∃ R, R = S.write ((P.first : Int) + 8 * k) (l ++ List.replicate (512 - l.length) 0) := ⟨_, rfl⟩
  have HE := hid (show P.write S k l = (P.told R.2, R.1, R.2) by rw [hR]; unfold PSt.write; rw [if_neg (by simp [hd]), if_neg hl, if_neg (by simp [ht])])
  have hpn : P.pages ≤ 4096 := hP.p2
  have hfn : P.first ≤ 4096 := by have := hP.area; have := hS.n2; omega
  have c7 : w.cell? ⟨p, 7, none⟩ = some (.map (some mt)) := cell_at h.pa.1 7
  have c8 : ∀ W, Fr (fun _ => False) w W → W.cell? ⟨p, 8, none⟩ = some (.bool false) := fun W hf => hd ▸ cell_at ((hf.at h.pa.1 (fun f => f))) 8
  have e1 := h.pa.2.2.1.look k (by omega) (by omega)
  obtain ⟨W1, hW1⟩ : ∃ W1, W1 = w.alloc (.cells #[] 59) := ⟨_, rfl⟩
  have hf1 : Fr (fun _ => False) w W1 := hW1 ▸ (Fr.refl _ w).alloc _
  have k8 := c8 _ hf1
  rw [hW1] at k8
  rw [ht] at e1
  have HF := hid hf1
  have HW := hid hW1
  have x1 : IntKind.i64.wrap (8 * k) = 8 * k := by rw [IntKind.wrap_i64]; omega
  have x2 : IntKind.i64.wrap ((P.first : Int) + 8 * k) = (P.first : Int) + 8 * k := by rw [IntKind.wrap_i64]; omega
  have hlk : ((512 : Int) - l.length) = ((512 - l.length : Nat) : Int) := by omega
  have HREP := hid (fun W : World => repeat_c W (512 - l.length) (by omega))
  rw [← hlk] at HREP
  have x3 : IntKind.i64.wrap ((512 : Int) - l.length) = (512 : Int) - l.length := by rw [IntKind.wrap_i64]; omega
  have HWR := hid (fun (W : World) (hA : At W g bm S) => show Calls Try.prog 31 #[.pointer (some ⟨g, 0, none⟩), .int .i64 ((P.first : Int) + 8 * k), .string (bs (l ++ List.replicate (512 - l.length) 0))] W fun e w' => e = .returned (.int .i64 R.2) ∧ (∃ bm', At w' g bm' R.1 ∧ (bm' = bm ∨ W.heap.size ≤ bm')) ∧ Fr (fun i => i = g ∨ i = bm) W w' by
    have := write_c W g bm S hA hS ((P.first : Int) + 8 * k) (by omega) (by omega) (l ++ List.replicate (512 - l.length) 0) (by simp; omega)
    unfold WriteC at this
    rw [← hR] at this
    exact this)
  obtain ⟨Z, hZ⟩ : ∃ Z : List UInt8, Z = List.replicate (512 - l.length) 0 := ⟨_, rfl⟩
  rw [← hZ] at HWR HREP
  have HLZ := hid (show l.length + Z.length ≤ 512 by rw [hZ, List.length_replicate]; omega)
  unfold PWriteC
  rw [HE.out]
  have HP := hid hP
  clear h hd c8 hf1 ht hW1 hR hlk hZ hS hP
  go_enter Try.func12, Try.ntmps12
  go_wp2_with fail
  rw [← HW.out]
  have HD1 := hid (HD.out.stay HF.out)
  have HD2 := hid (HD1.out.stay ((Fr.refl _ W1).drew))
  have k0 : W1.drew.cell? ⟨p, 0, none⟩ = some (.pointer (some ⟨g, 0, none⟩)) := cell_at HD2.out.pa.1 0
  have k1 : W1.drew.cell? ⟨p, 1, none⟩ = some (.int .i64 P.first) := cell_at HD2.out.pa.1 1
  have cat : ¬ (9223372036854775807 < l.length + Z.length) := by have := HLZ.out; omega
  have cat2 : l.length + Z.length ≤ 9223372036854775807 := by have := HLZ.out; omega
  clear c7 k8 e1
  go_region_held3 (fun w' => w'.cell? ⟨p, 0, none⟩ = some (.pointer (some ⟨g, 0, none⟩)) ∧ w'.cell? ⟨p, 1, none⟩ = some (.int .i64 P.first))
    (first | exact ⟨k0, k1⟩ | exact ⟨cell_at (by assumption) 0, cell_at (by assumption) 1⟩ | go_keep)
    (first
      | (go_at_call 29; refine (HREP.out _).mono ?_; rintro e w2 ⟨rfl, hf2⟩; have hD2 := HD2.out.stay hf2; have hp2 := hD2.pa.1)
      | (go_at_call 31; refine (HWR.out _ hD2.da).mono ?_; rintro e w3 ⟨rfl, ⟨bm3, hA3, hb3⟩, hf3⟩; have hD3 := hD2.dturn hA3 hb3 hf3; have hp3 := hD3.pa.1)
      | (go_at_call 33; refine (ptold_d _ p g bm3 ml mt P R.1 hD3 R.2).mono ?_; rintro e w4 ⟨rfl, hD4, hf4⟩; have hp4 := hD4.pa.1))
  all_goals
    go_wp2_with fail
    go_ret
    refine ⟨rfl, bm3, ml, hD4, ?_, Or.inl rfl, ?_⟩
    · have h1 := HF.out.size
      have h2 := hf2.size
      have h3 : W1.drew.heap.size = W1.heap.size := rfl
      omega
    · exact (((fr_no (HF.out.trans ((Fr.refl (fun _ => False) W1).drew) (fun _ _ f => f))).trans (fr_no hf2) (fun _ _ f => f)).trans hf3 (fun i _ e => by unfold inPD; omega)).trans hf4 (fun i _ e => Or.inl e)

theorem pwrite_c (hS : S.Ok) (hP : P.Ok S.n) (h1 : -9223372036854775808 ≤ k) (h2 : k ≤ 9223372036854775807) (hl2 : l.length ≤ 9223372036854775807) : PWriteC w p g bm ml mt P S k l := by
  cases hd : P.dead with
  | true => exact pwrite_dead w p g bm ml mt P S h k l h1 h2 hd
  | false =>
    by_cases hl : 512 < l.length
    · exact pwrite_long w p g bm ml mt P S h k l h1 h2 hd hl hl2
    · cases ht : P.taken k with
      | false => exact pwrite_not w p g bm ml mt P S h k l h1 h2 hd hl ht
      | true => exact pwrite_go w p g bm ml mt P S h k l hS hP hd hl ht
end

end Go.Proofs.Ytjkhcfdflcndkaa.D
