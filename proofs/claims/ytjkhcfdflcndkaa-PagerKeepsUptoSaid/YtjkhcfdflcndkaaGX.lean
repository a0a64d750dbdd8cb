/-
  The pager's calls whose answers the document fixes: they are so. No condition.
-/
import Derived.Test.YtjkhcfdflcndkaaGC3
import Derived.Test.YtjkhcfdflcndkaaDX
import Derived.KernelRfl
namespace Go.Proofs.Ytjkhcfdflcndkaa.D
open Go.RowKit Go.Maps Go.Shelf
set_option linter.unusedVariables false
set_option linter.unusedSimpArgs false

def y0 : St := news (zero 2176)
def p0 : PSt := PSt.of 2 4 (2, -1, 1)
def y1 : St := (formatP y0 2 4 1).2.1
def p1 : PSt := p0.alloc.1
def p2 : PSt := p1.alloc.1
def y2 : St := (p2.write y1 0 [97]).2.1
def p3 : PSt := (p2.commit y2 0 5 [0]).1
def y3 : St := (p2.commit y2 0 5 [0]).2.1
def q0 : PSt := PSt.of 2 4 (3, 0, 5)

theorem y_len : (zero 2176).length = 2176 := List.length_replicate
theorem y_isImage : IsImage (zero 2176) := by
  unfold IsImage
  rw [y_len]
  decide
theorem y0_ok : y0.Ok := news_ok y_isImage
theorem y_n0 : y0.n = 34 := by kernel_rfl
theorem y_f : (formatP y0 2 4 1).1 = some p0 := by kernel_rfl
theorem y_fe : (formatP y0 2 4 1).2.2 = 0 := by kernel_rfl
theorem y_f5 : pchk y1 2 5 1 = 190 := by kernel_rfl
theorem y_a0 : p0.alloc = (p1, 0, 0) := by kernel_rfl
theorem y_a1 : p1.alloc = (p2, 1, 0) := by kernel_rfl
theorem y_free0 : p0.free = 4 := by kernel_rfl
theorem y_w0 : (p2.write y1 0 [97]).2.2 = 0 := by kernel_rfl
theorem y_w0p : (p2.write y1 0 [97]).1 = p2 := by kernel_rfl
theorem y_w2 : (p2.write y2 2 [97]) = (p2, y2, 191) := by kernel_rfl
theorem y_c : (p2.commit y2 0 5 [0]).2.2 = 0 := by kernel_rfl
theorem y_wb : p3.write y3 0 [98] = (p3, y3, 191) := by kernel_rfl
theorem y_r : ∃ L, p3.read y3 0 = (L, 0) ∧ L.length = 512 ∧ L.getD 0 0 = 97 := ⟨(p3.read y3 0).1, by kernel_rfl, by kernel_rfl, by kernel_rfl⟩
theorem y_o : openP y3 2 4 = (some q0, 0) := by kernel_rfl
theorem y_free3 : p3.free = 3 := by kernel_rfl
theorem y_freeq : q0.free = 4 := by kernel_rfl

end Go.Proofs.Ytjkhcfdflcndkaa.D
