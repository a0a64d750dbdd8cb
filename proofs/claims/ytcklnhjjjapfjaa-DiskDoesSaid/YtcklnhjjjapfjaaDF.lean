/-
  make([]byte, n), string of it; fill. No condition beyond the sizes that are named.
-/
import Derived.Test.YtcklnhjjjapfjaaD3
import Derived.Test.YtcklnhjjjapfjaaD4
import Derived.Deep.OwnRows
namespace Go.Proofs.Ytcklnhjjjapfjaa.D
open Go.RowKit Go.Maps Go.Deep
set_option linter.unusedVariables false
set_option linter.unusedSimpArgs false

theorem mk_row (n : Nat) (hn : n ≤ 281474976710656) (w : World) :
    (Instr.makeSlice 26 (.int .i64 (n : Int)) (.int .i64 (n : Int))).run Try.prog w = .ok (.slice (some ⟨w.heap.size, 0, none⟩) n n) (w.alloc (.cells (bytesOf (List.replicate n 0)).toArray 5)) := by
  have h := run_make_row' (P := Try.prog) 26 5 (.int .u8 0) 1 Try.underlying26 (by kernel_rfl) rfl .i64 .i64 n (by omega) (by omega) w
  rw [h]
  have e : madeCells #[Value.int .u8 0] n = (bytesOf (List.replicate n 0)).toArray := by
    apply Array.ext
    · simp [madeCells, bytesOf]
    · intro i h1 h2
      have e0 : i % 1 = 0 := by omega
      simp [madeCells, bytesOf, e0]
  rw [e]

theorem row_str (b : List UInt8) (cap g : Nat) (fz : Nat × Nat) (w : World) (h : w.heap[g]? = some (.cells (bytesOf b).toArray 5 fz)) :
    (convert 26 9 (.slice (some ⟨g, 0, none⟩) b.length cap)).run Try.prog w = .ok (.string (bs b)) w := by
  refine run_convert_bytes_back w 26 9 5 ⟨g, 0, none⟩ cap b Try.underlying26 Try.underlying5 Try.underlying9 (fun j hj => ?_)
  have e1 : (⟨g, 0, none⟩ : Addr).add j = ⟨g, j, none⟩ := by unfold Addr.add; split <;> simp_all
  rw [e1, World.cell?, h]
  simp [bytesOf, hj]

theorem made_str (n : Nat) (w : World) :
    (convert 26 9 (.slice (some ⟨w.heap.size, 0, none⟩) n n)).run Try.prog (w.alloc (.cells (bytesOf (List.replicate n 0)).toArray 5)) = .ok (.string (bs (List.replicate n 0))) (w.alloc (.cells (bytesOf (List.replicate n 0)).toArray 5)) := by
  have := row_str (List.replicate n 0) n w.heap.size (0, 0) (w.alloc (.cells (bytesOf (List.replicate n 0)).toArray 5)) (MapKept.heap_alloc w _).1
  rwa [List.length_replicate] at this

def fillN (n : Int) : Nat := (min n 4480).toNat
def fillB (c : UInt8) (i : Nat) : UInt8 := c + UInt8.ofNat (i / 64)
def fillL (n : Int) (c : UInt8) : List UInt8 := (List.range (fillN n)).map (fillB c)
theorem fillL_length (n : Int) (c : UInt8) : (fillL n c).length = fillN n := by simp [fillL]
def fillAt (N : Nat) (c : UInt8) (k : Nat) : List UInt8 := (List.range k).map (fillB c) ++ List.replicate (N - k) 0

theorem fillB_val (c : UInt8) (k : Nat) : Value.int .u8 (((c.toNat : Int) + (k : Int) / 64) % 256) = .int .u8 ((fillB c k).toNat : Int) := by
  congr 1
  simp only [fillB, UInt8.toNat_add, UInt8.toNat_ofNat']
  omega

theorem fillAt_set (N : Nat) (c : UInt8) (k : Nat) (hk : k < N) : (bytesOf (fillAt N c k)).toArray.setIfInBounds k (.int .u8 (((c.toNat : Int) + (k : Int) / 64) % 256)) = (bytesOf (fillAt N c (k + 1))).toArray := by
  rw [fillB_val]
  apply Array.ext'
  obtain ⟨m, hm⟩ : ∃ m, N - k = m + 1 := ⟨N - k - 1, by omega⟩
  have hm2 : N - (k + 1) = m := by omega
  simp only [List.setIfInBounds_toArray, fillAt, hm, hm2, List.replicate_succ, List.range_succ, bytesOf, List.map_append, List.map_cons, List.map_nil, List.append_assoc]
  rw [List.set_append_right _ _ (by simp)]
  simp

set_option maxHeartbeats 4000000 in
set_option maxRecDepth 100000 in
theorem fill_c (n : Int) (c : UInt8) (w : World) :
    Calls Try.prog 14 #[.int .i64 n, .int .u8 (c.toNat : Int)] w fun e w' => e = .returned (.string (bs (fillL n c))) ∧ Fr (fun _ => False) w w' := by
  obtain ⟨N, hN⟩ : ∃ N, N = fillN n := ⟨_, rfl⟩
  have HN := hid hN
  have hN2 : N ≤ 4480 := by rw [hN, fillN]; omega
  have hmin : ∀ w, (Builtin.min_ #[3, 3] 3 #[.int .i64 n, .int .i64 4480]).run Try.prog w = .ok (.int .i64 (min n 4480)) w := by
    intro w
    rw [run_min_int2]
    congr 2
    split <;> omega
  have hmax : ∀ w, (Builtin.max_ #[3, 3] 3 #[.int .i64 0, .int .i64 (min n 4480)]).run Try.prog w = .ok (.int .i64 (N : Int)) w := by
    intro w
    rw [run_max_int2]
    congr 2
    rw [hN, fillN]
    split <;> omega
  obtain ⟨M, hM⟩ : ∃ M, M = min n 4480 := ⟨_, rfl⟩
  rw [← hM] at hmin hmax
  have hmk := mk_row N (by omega) w
  have hW := hid (MapKept.heap_alloc w (.cells (bytesOf (List.replicate N 0)).toArray 5)).1
  have hF0 := hid (show Fr (fun _ => False) w (w.alloc (.cells (bytesOf (List.replicate N 0)).toArray 5)) from (Fr.refl _ w).alloc _)
  have hfl : ∀ k, k ≤ N → (fillAt N c k).length = N := fun k hk => by simp [fillAt]; omega
  have HFL := hid hfl
  clear hN hM hfl
  go_enter Try.func14, Try.ntmps14
  go_wp2_with fail
  go_loopw [6] (fun v wr => ∃ k : Nat, v = .int .i64 k ∧ k ≤ N ∧ Hid (wr.heap[w.heap.size]? = some (.cells (bytesOf (fillAt N c k)).toArray 5)) ∧ Hid (Fr (fun _ => False) w wr)) (fun i _ => N - (intOf i).toNat)
  case atStart => exact ⟨0, rfl, by omega, hid (by have := hW.out; simpa [fillAt] using this), hF0⟩
  case round =>
    obtain ⟨k, rfl, hk, HR, HF⟩ := hrel
    by_cases hend : k = N
    · subst hend
      have hback := row_str (fillAt k c k) k w.heap.size (0, 0) wr HR.out
      rw [HFL.out k (Nat.le_refl _)] at hback
      go_wp2
      go_ret
      refine ⟨?_, HF.out⟩
      simp [fillAt, fillL, ← HN.out]
    · have hk' : k < N := by omega
      have cc : wr.cell? ⟨w.heap.size, k, none⟩ = some (.int .u8 (((fillAt N c k).getD k 0).toNat : Int)) := by
        rw [cell_at HR.out]
        have := HFL.out k hk
        simp [bytesOf, List.getD_eq_getElem?_getD, this, hk']
      have ff : wr.frozen? ⟨w.heap.size, k, none⟩ = false := frozen_at HR.out k
      go_wp2
      go_roundw
      case rel =>
        refine ⟨k + 1, rfl, by omega, hid ?_, hid ?_⟩
        · rw [set_at HR.out k, fillAt_set N c k hk']
        · refine HF.out.setCell _ (fun h => ?_) _
          simp at h
      case measure => simp [intOf]; omega

end Go.Proofs.Ytcklnhjjjapfjaa.D
