/-
  make([]byte, n), string of it; fill. No condition beyond the sizes that are named.
-/
import Derived.Test.YtjkhcfdflcndkaaD3
import Derived.Test.YtjkhcfdflcndkaaD4
import Derived.Deep.OwnRows
namespace Go.Proofs.Ytjkhcfdflcndkaa.D
open Go.RowKit Go.Maps Go.Deep
set_option linter.unusedVariables false
set_option linter.unusedSimpArgs false

theorem mk_row (n : Nat) (hn : n ≤ 281474976710656) (w : World) :
    (Instr.makeSlice 36 (.int .i64 (n : Int)) (.int .i64 (n : Int))).run Try.prog w = .ok (.slice (some ⟨w.heap.size, 0, none⟩) n n) (w.alloc (.cells (bytesOf (List.replicate n 0)).toArray 5)) := by
  have h := run_make_row' (P := Try.prog) 36 5 (.int .u8 0) 1 Try.underlying36 (by kernel_rfl) rfl .i64 .i64 n (by omega) (by omega) w
  rw [h]
  have e : madeCells #[Value.int .u8 0] n = (bytesOf (List.replicate n 0)).toArray := by
    apply Array.ext
    · simp [madeCells, bytesOf]
    · intro i h1 h2
      have e0 : i % 1 = 0 := by omega
      simp [madeCells, bytesOf, e0]
  rw [e]

theorem row_str (b : List UInt8) (cap g : Nat) (fz : Nat × Nat) (w : World) (h : w.heap[g]? = some (.cells (bytesOf b).toArray 5 fz)) :
    (convert 36 9 (.slice (some ⟨g, 0, none⟩) b.length cap)).run Try.prog w = .ok (.string (bs b)) w := by
  refine run_convert_bytes_back w 36 9 5 ⟨g, 0, none⟩ cap b Try.underlying36 Try.underlying5 Try.underlying9 (fun j hj => ?_)
  have e1 : (⟨g, 0, none⟩ : Addr).add j = ⟨g, j, none⟩ := by unfold Addr.add; split <;> simp_all
  rw [e1, World.cell?, h]
  simp [bytesOf, hj]

theorem made_str (n : Nat) (w : World) :
    (convert 36 9 (.slice (some ⟨w.heap.size, 0, none⟩) n n)).run Try.prog (w.alloc (.cells (bytesOf (List.replicate n 0)).toArray 5)) = .ok (.string (bs (List.replicate n 0))) (w.alloc (.cells (bytesOf (List.replicate n 0)).toArray 5)) := by
  have := row_str (List.replicate n 0) n w.heap.size (0, 0) (w.alloc (.cells (bytesOf (List.replicate n 0)).toArray 5)) (MapKept.heap_alloc w _).1
  rwa [List.length_replicate] at this

def fillN (n : Int) : Nat := (min n 4480).toNat
def fillB (c : UInt8) (i : Nat) : UInt8 := c + UInt8.ofNat (i / 64)
def fillL (n : Int) (c : UInt8) : List UInt8 := (List.range (fillN n)).map (fillB c)
theorem fillL_length (n : Int) (c : UInt8) : (fillL n c).length = fillN n := by simp [fillL]
def fillAt (N : Nat) (c : UInt8) (k : Nat) : List UInt8 := (List.range k).map (fillB c) ++ List.replicate (N - k) 0

theorem fillB_val (c : UInt8) (k : Nat) : Value.int .u8 (((c.toNat : Int) + (k : Int) / 64) % 256) = .int .u8 ((fillB c k).toNat : Int) := by
  congr 1
  simp only [fillB, UInt8.toNat_add, UInt8.toNat_ofNat']
  omega

theorem fillAt_set (N : Nat) (c : UInt8) (k : Nat) (hk : k < N) : (bytesOf (fillAt N c k)).toArray.setIfInBounds k (.int .u8 (((c.toNat : Int) + (k : Int) / 64) % 256)) = (bytesOf (fillAt N c (k + 1))).toArray := by
  rw [fillB_val]
  apply Array.ext'
  obtain ⟨m, hm⟩ : ∃ m, N - k = m + 1 := ⟨N - k - 1, by omega⟩
  have hm2 : N - (k + 1) = m := by omega
  simp only [List.setIfInBounds_toArray, fillAt, hm, hm2, List.replicate_succ, List.range_succ, bytesOf, List.map_append, List.map_cons, List.map_nil, List.append_assoc]
  rw [List.set_append_right _ _ (by simp)]
  simp

end Go.Proofs.Ytjkhcfdflcndkaa.D
