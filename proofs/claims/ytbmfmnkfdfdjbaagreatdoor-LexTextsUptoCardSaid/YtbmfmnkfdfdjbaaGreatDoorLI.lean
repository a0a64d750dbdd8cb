/-
  What read defers; the token beyond the last. No condition.
-/
import Derived.Test.YtbmfmnkfdfdjbaaGreatDoorLH
import Derived.Test.YtbmfmnkfdfdjbaaGreatDoorLR
import Derived.RecoverIn
import Derived.RegionIn
import Derived.TacticsInMore
namespace Go.Proofs.YtbmfmnkfdfdjbaaGreatDoor.D
open Go.RowKit Go.Shelf
set_option linter.unusedVariables false
set_option linter.unusedSimpArgs false

set_option maxHeartbeats 2000000 in
set_option maxRecDepth 100000 in
theorem token_many (w : World) (r : Nat) (s : List UInt8) (i f n : Nat) (h : RdAt w r s i f n) (hn : 2048 ≤ n) (hn2 : n ≤ 1000000) :
    Calls Tryz.prog 40 #[.pointer (some ⟨r, 0, none⟩)] w fun x w' => x = .panicked (wrongAt f 53) ∧ Fr (fun _ => False) w w' := by
  obtain ⟨w1, hw1⟩ : ∃ w1, w1 = w.alloc (.cells #[.int .i64 0, .string ⟨#[]⟩, .int .i64 0, .int .i64 0] 30) := ⟨_, rfl⟩
  have hf1 : Fr (fun _ => False) w w1 := hw1 ▸ (Fr.refl _ w).alloc _
  have H1 := hid (h.stay hf1)
  have c3 : w1.cell? ⟨r, 3, none⟩ = some (.int .i64 n) := cell_at H1.out 3
  have hlt : decide ((n : Int) < 2048) = false := decide_eq_false (by omega)
  have HM0 := hid (must_not w1 r s i f n H1.out 53)
  have HW1 := hid hw1
  have HF1 := hid hf1
  rw [hw1] at c3
  clear h hw1 hf1
  go_enter Tryz.func40, Tryz.ntmps40
  go_wp2_with fail
  rw [← HW1.out]
  refine HM0.out.mono ?_
  rintro e wx ⟨rfl, hwx⟩
  rw [hwx]
  clear hwx c3
  go_wp2_with fail
  exact ⟨rfl, rfl, HF1.out⟩

def done (j : Nat) (c : Int) : List PanicEntry := [{ v := .iface 56 (.agg #[.int .i64 j, .int .i64 c]), recovered := true }]
/-- One cell that holds a value. -/
def Is (w : World) (b : Nat) (v : Value) (t : TypeId) : Prop := w.heap[b]? = some (.cells #[v] t)

set_option maxHeartbeats 2000000 in
set_option maxRecDepth 100000 in
theorem catch_panic (d : Nat) (w : World) (b : Nat) (j : Nat) (c : Int) (v : Value) (x y : Int) (h2 : Is w b v 25) (h3 : Is w (b + 1) (.int .i64 x) 3) (h4 : Is w (b + 2) (.int .i64 y) 26) :
    CallsDIn Fence.wide d Tryz.prog 28 #[.pointer (some ⟨b, 0, none⟩), .pointer (some ⟨b + 1, 0, none⟩), .pointer (some ⟨b + 2, 0, none⟩)] (.panicking (wrongAt j c)) w fun e u' w' =>
      e = .returned (.tuple #[]) ∧ u' = .panicking (done j c) ∧ Is w' b (.slice none 0 0) 25 ∧ Is w' (b + 1) (.int .i64 j) 3 ∧ Is w' (b + 2) (.int .i64 c) 26 ∧ Fr (fun i => i = b ∨ i = b + 1 ∨ i = b + 2) w w' := by
  have hta : ∀ w, (Instr.typeAssert (.iface 56 (.agg #[.int .i64 j, .int .i64 c])) 20 56 true).run Tryz.prog w = .ok (.tuple #[.agg #[.int .i64 j, .int .i64 c], .bool true]) w := fun w => by
    simp [Instr.typeAssert, run_underlying Tryz.underlying56, go_sem, Result.andThen]
  refine callsDIn_of_wpSIn Tryz.func28 rfl trivial fun c₀ cs hu => ?_
  apply wpSIn_seq
  apply wpSIn_region
  simp [wpOpsSIn, go_sem, recoverD, hu, wrongAt, hta, Tryz.ntmps28, Exit.thenS]
  refine wpSIn_of_wpIn rfl ?_
  obtain ⟨g, hg⟩ : ∃ g, g = w.heap.size := ⟨_, rfl⟩
  obtain ⟨w1, hw1⟩ : ∃ w1, w1 = w.alloc (.cells #[.int .i64 j, .int .i64 c] 56) := ⟨_, rfl⟩
  have hf1 : Fr (fun i => i = b ∨ i = b + 1 ∨ i = b + 2) w w1 := hw1 ▸ (Fr.refl _ w).alloc _
  have hG : w1.heap[g]? = some (.cells #[.int .i64 j, .int .i64 c] 56) := by rw [hw1, hg]; exact Array.getElem?_push_size
  have hb4 : b + 2 < g := hg ▸ lt_of_at h4
  have i2 : Is w1 b v 25 := (hw1 ▸ (Fr.refl (fun _ => False) w).alloc _ : Fr (fun _ => False) w w1).at h2 (fun f => f)
  have i3 : Is w1 (b + 1) (.int .i64 x) 3 := (hw1 ▸ (Fr.refl (fun _ => False) w).alloc _ : Fr (fun _ => False) w w1).at h3 (fun f => f)
  have i4 : Is w1 (b + 2) (.int .i64 y) 26 := (hw1 ▸ (Fr.refl (fun _ => False) w).alloc _ : Fr (fun _ => False) w w1).at h4 (fun f => f)
  rw [← hw1, ← hg]
  simp only [Array.replicate_succ, Array.replicate_zero, List.push_toArray, List.nil_append, List.cons_append, List.setIfInBounds_toArray, List.set_cons_succ, List.set_cons_zero, List.append_toArray]
  have m0 : w1.cell? ⟨g, 0, none⟩ = some (.int .i64 j) := cell_at hG 0
  have m1 : w1.cell? ⟨g, 1, none⟩ = some (.int .i64 c) := cell_at hG 1
  have p2 : w1.cell? ⟨b, 0, none⟩ = some v := cell_at i2 0
  have q2 : w1.frozen? ⟨b, 0, none⟩ = false := frozen_at i2 0
  have p3 : w1.cell? ⟨b + 1, 0, none⟩ = some (.int .i64 x) := cell_at i3 0
  have q3 : w1.frozen? ⟨b + 1, 0, none⟩ = false := frozen_at i3 0
  have p4 : w1.cell? ⟨b + 2, 0, none⟩ = some (.int .i64 y) := cell_at i4 0
  have q4 : w1.frozen? ⟨b + 2, 0, none⟩ = false := frozen_at i4 0
  have HF := hid hf1
  have I2 := hid i2
  have I3 := hid i3
  have I4 := hid i4
  have HB4 := hid hb4
  have n1 : ¬ g = b := by omega
  have n2 : ¬ g = b + 1 := by omega
  have n3 : ¬ g = b + 2 := by omega
  have n4 : ¬ b = g := by omega
  have n5 : ¬ b + 1 = g := by omega
  have n6 : ¬ b + 2 = g := by omega
  clear hta hG hg hf1 h2 h3 h4 hb4 i2 i3 i4 hw1
  refine wpIn_wide.2 ?_
  go_wp2_with fail
  go_region
  obtain ⟨W2, hW2⟩ : ∃ W2, W2 = ((w1.setCell ⟨b, 0, none⟩ (.slice none 0 0)).setCell ⟨b + 1, 0, none⟩ (.int .i64 (j : Int))).setCell ⟨b + 2, 0, none⟩ (.int .i64 c) := ⟨_, rfl⟩
  rw [← hW2]
  have k2 : Is W2 b (.slice none 0 0) 25 := by
    rw [hW2]
    exact (fr_set1 _ (b + 2) 0 _).at ((fr_set1 _ (b + 1) 0 _).at (set_at I2.out 0 _) (by omega)) (by omega)
  have k3 : Is W2 (b + 1) (.int .i64 j) 3 := by
    rw [hW2]
    exact (fr_set1 _ (b + 2) 0 _).at (set_at ((fr_set1 _ b 0 _).at I3.out (by omega)) 0 _) (by omega)
  have k4 : Is W2 (b + 2) (.int .i64 c) 26 := by
    rw [hW2]
    exact set_at ((fr_set1 _ (b + 1) 0 _).at ((fr_set1 _ b 0 _).at I4.out (by omega)) (by omega)) 0 _
  have kf : Fr (fun i => i = b ∨ i = b + 1 ∨ i = b + 2) w W2 := by
    rw [hW2]
    exact ((HF.out.setCell _ (fun _ => Or.inl rfl) _).setCell _ (fun _ => Or.inr (Or.inl rfl)) _).setCell _ (fun _ => Or.inr (Or.inr rfl)) _
  have K := hid (show Is W2.drew b (.slice none 0 0) 25 ∧ Is W2.drew (b + 1) (.int .i64 j) 3 ∧ Is W2.drew (b + 2) (.int .i64 c) 26 ∧ Fr (fun i => i = b ∨ i = b + 1 ∨ i = b + 2) w W2.drew from ⟨k2, k3, k4, kf.drew⟩)
  clear hW2 k2 k3 k4 kf m0 m1 p2 q2 p3 q3 p4 q4
  go_wp2_with fail
  refine ⟨rfl, _, rfl, .tuple #[], ?_, rfl, rfl, K.out⟩
  simp [results, Tryz.results28]

set_option maxHeartbeats 2000000 in
set_option maxRecDepth 100000 in
theorem catch_idle (d : Nat) (w : World) (p q r : Value) :
    CallsDIn Fence.wide d Tryz.prog 28 #[p, q, r] .returning w fun e u' w' => e = .returned (.tuple #[]) ∧ u' = .returning ∧ Fr (fun _ => False) w w' := by
  have hta : ∀ w, (Instr.typeAssert .nilIface 20 56 true).run Tryz.prog w = .ok (.tuple #[.agg #[.int .i64 0, .int .i64 0], .bool false]) w := fun w => by
    obtain ⟨i, hi, hz⟩ := Option.map_eq_some_iff.1 (show (Tryz.prog.info? 56).map (·.zero) = some (some (.agg #[.int .i64 0, .int .i64 0])) by kernel_rfl)
    simp [Instr.typeAssert, run_underlying Tryz.underlying56, zeroValue, hi, hz, go_sem, Result.andThen, typeInfo]
  refine callsDIn_of_wpSIn Tryz.func28 rfl trivial fun c₀ cs hu => ?_
  apply wpSIn_seq
  apply wpSIn_region
  simp [wpOpsSIn, go_sem, recoverD, hu, hta, Tryz.ntmps28, Exit.thenS]
  refine wpSIn_of_wpIn rfl ?_
  obtain ⟨w1, hw1⟩ : ∃ w1, w1 = w.alloc (.cells #[.int .i64 0, .int .i64 0] 56) := ⟨_, rfl⟩
  have hf1 : Fr (fun _ => False) w w1 := hw1 ▸ (Fr.refl _ w).alloc _
  rw [← hw1]
  simp only [Array.replicate_succ, Array.replicate_zero, List.push_toArray, List.nil_append, List.cons_append, List.setIfInBounds_toArray, List.set_cons_succ, List.set_cons_zero, List.append_toArray]
  refine wpIn_wide.2 ?_
  clear hw1 hta
  go_wp2_with fail
  refine ⟨rfl, .returning, ?_, .tuple #[], ?_, rfl, rfl, hf1⟩
  · cases c₀
    simp_all
  · simp [results, Tryz.results28]

end Go.Proofs.YtbmfmnkfdfdjbaaGreatDoor.D
