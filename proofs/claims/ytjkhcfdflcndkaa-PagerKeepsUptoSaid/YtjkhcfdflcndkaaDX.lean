/-
  The calls whose answers the document fixes: they are so. No condition.
-/
import Derived.Test.YtjkhcfdflcndkaaDC
import Derived.KernelRfl
namespace Go.Proofs.Ytjkhcfdflcndkaa.D
open Go.RowKit Go.Maps Go.Shelf
set_option linter.unusedVariables false
set_option linter.unusedSimpArgs false

def zero (n : Nat) : List UInt8 := List.replicate n 0
def f0 : St := news (zero 128)
def fA : List UInt8 := fillL 128 97
def fX : List UInt8 := fillL 128 120
def f1 : St := (f0.write 0 fA).1
def f3 : St := (f1.arm 1 [1]).1
def f4 : St := (f3.write 0 fX).1

theorem f0_ok : f0.Ok := news_ok (by simp [IsImage, zero])
theorem f1_ok : f1.Ok := (write_ok f0_ok 0 fA).1
theorem f3_ok : f3.Ok := (arm_ok f1_ok (by decide) [1]).1
theorem f4_ok : f4.Ok := (write_ok f3_ok 0 fX).1

theorem q_w1 : (f0.write 0 fA).2 = 0 := by kernel_rfl
theorem q_a1 : (f1.arm 1 [1]).2 = 0 := by kernel_rfl
theorem q_w4 : (f3.write 0 fX).2 = 2 := by kernel_rfl
theorem q_w5 : (f1.write 1 fA).2 = 171 := by kernel_rfl
theorem q_w5s : (f1.write 1 fA).1 = f1 := by kernel_rfl
theorem q_d4 : f4.dead = true := by kernel_rfl
theorem q_d1 : f1.dead = false := by kernel_rfl
theorem q_n1 : f1.n = 2 := by kernel_rfl
theorem aft : ∃ L, f1.after [0, 1] = L ∧ L.length = 128 ∧ L.getD 0 0 = 0 ∧ L.getD 64 0 = 98 := ⟨_, rfl, by kernel_rfl, by kernel_rfl, by kernel_rfl⟩
theorem img : ∃ L, f4.image = L ∧ L.length = 128 ∧ L.getD 0 0 = 120 ∧ L.getD 64 0 = 0 := ⟨_, rfl, by kernel_rfl, by kernel_rfl, by kernel_rfl⟩
theorem red : ∃ L, f1.read 1 1 = (L, 0) ∧ L.length = 64 ∧ L.getD 0 0 = 98 := ⟨(f1.read 1 1).1, by kernel_rfl, by kernel_rfl, by kernel_rfl⟩

theorem mkz (n : Nat) (hn : n ≤ 281474976710656) (w : World) :
    (Instr.makeSlice 36 (.int .i64 (n : Int)) (.int .i64 (n : Int))).run Try.prog w = .ok (.slice (some ⟨w.heap.size, 0, none⟩) n n) (w.alloc (.cells (bytesOf (zero n)).toArray 5)) := mk_row n hn w
theorem mks (n : Nat) (w : World) :
    (convert 36 9 (.slice (some ⟨w.heap.size, 0, none⟩) n n)).run Try.prog (w.alloc (.cells (bytesOf (zero n)).toArray 5)) = .ok (.string (bs (zero n))) (w.alloc (.cells (bytesOf (zero n)).toArray 5)) := made_str n w

theorem at_bs (L : List UInt8) (i : Nat) (h : i < (bs L).size) : (bs L)[i]'h = L.getD i 0 := by
  have hz : (bs L).size = L.length := by simp [bs, ByteArray.size]
  have h' : i < L.length := by omega
  simp [bs, ByteArray.getElem_eq_getElem_data, List.getD_eq_getElem?_getD, h']

end Go.Proofs.Ytjkhcfdflcndkaa.D
