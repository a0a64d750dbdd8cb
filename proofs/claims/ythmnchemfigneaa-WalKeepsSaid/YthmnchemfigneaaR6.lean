/-
  The document's disk: Write. No condition beyond the disk's own.
-/
import Derived.Test.YthmnchemfigneaaR5
namespace Go.Proofs.Ythmnchemfigneaa.D
open Go.RowKit Go.Maps Go.Shelf
set_option linter.unusedVariables false
set_option linter.unusedSimpArgs false

theorem ra_wr1 {w : World} {g b1 b2 k : Nat} {S : St} (h : RA w g b1 b2 S) (hk : k < S.n) (l : List UInt8) : RA (w.setCell ⟨b2, k, none⟩ (.string (bs l))) g b1 b2 (S.wr1 k l) := by
  refine (RC.put2 h hk l).congr (fun _ _ => rfl) (fun i hi => ?_)
  simp only [uns, St.wr1]
  by_cases e : i = k
  · simp [e]
  · simp [e]

end Go.Proofs.Ythmnchemfigneaa.D
