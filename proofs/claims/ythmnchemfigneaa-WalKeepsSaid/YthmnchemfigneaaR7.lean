/-
  The document's disk: Sync. No condition beyond the disk's own.
-/
import Derived.Test.YthmnchemfigneaaR6
import Derived.Deep.RegionWith
namespace Go.Proofs.Ythmnchemfigneaa.D
open Go.RowKit Go.Maps Go.Shelf
set_option linter.unusedVariables false
set_option linter.unusedSimpArgs false

/-- The safe sectors, k of them synced. -/
def s1 (S : St) (k : Nat) (i : Nat) : List UInt8 := if i < k then sec S i else piece S.safe i
def s2 (S : St) (k : Nat) (i : Nat) : List UInt8 := if i < k then [] else uns S i

theorem s1_next (S : St) (k i : Nat) : (if i = k then sec S k else s1 S k i) = s1 S (k + 1) i := by
  unfold s1
  by_cases e : i = k
  · subst e; rw [if_pos rfl, if_pos (by omega)]
  · rw [if_neg e]
    by_cases h : i < k
    · rw [if_pos h, if_pos (by omega)]
    · rw [if_neg h, if_neg (by omega)]
theorem s2_next (S : St) (k i : Nat) : (if i = k then [] else s2 S k i) = s2 S (k + 1) i := by
  unfold s2
  by_cases e : i = k
  · subst e; rw [if_pos rfl, if_pos (by omega)]
  · rw [if_neg e]
    by_cases h : i < k
    · rw [if_pos h, if_pos (by omega)]
    · rw [if_neg h, if_neg (by omega)]

theorem becomes_image_n {S : St} (hs : S.Ok) : (S.becomes S.image).n = S.n := becomes_n (image_length hs)

end Go.Proofs.Ythmnchemfigneaa.D
