/-
  No cell of these rows narrows 'for every input' (looked for: loops, veiled, ifaces, maps, wideKeys, modest, calm, conditions, laid).
  DERIVED. THE GIVEN ROWS OF THIS SEAT. 5 by the template 'for every input the law returns true; each argument reads behind the call as it read before'; 0 by the template 'total and deterministic' (their statements: YtcklnhjjjapfjaaTotals.lean).
  GIVEN WITH THE SEED: the statements are not yours to turn. If you find one false, say at which input.
  Laid BY PROGRAM, IN A SANDBOX (cutbox-rows.mjs): the forced cells as the released guide's own fill.sh prints them over the translation 72a73f919013da4d… (all of the seat's roots in one cut). By AI agents, Wed Nov 11 2026. No macro, syntax, notation, axiom, sorry.
-/
import Derived.Test.YtcklnhjjjapfjaaChecked
import GoSem.Claim
import GoSem.ClaimJoined
import GoSem.ClaimMapViews
import Derived.JoinedTies
import Derived.KernelRfl
namespace Go.Proofs.Ytcklnhjjjapfjaa
/- THE CELL 'sum', in the pinned program and in every row, IS THE sha256 OF THE DUMP (.gsa) THAT YtcklnhjjjapfjaaProg.lean LOADS. Nothing in Lean hashes anything: it is a label: what it is worth is what the hold of that sum in a sandbox is worth. -/
noncomputable def Try.pinned : Pinned := { name := "ytcklnhjjjapfjaa", sum := "72a73f919013da4d4a6d10a6384a4df03311afb0e51c8b2b279946e3a6527f4f", checked := Try.checked }
namespace Rows
def none {H : Type} : Left H := { results := [], args := [] }

/-- 'rhizomelaw17.DiskNews': WHATEVER THE INPUT: true; the input reads as it did. -/
def diskNewsSpec : ChangeSpec := { name := "diskNews", fn := fun _ => fun
  | [d] => { results := [.lit (.bool true)], args := [d] }
  | _ => none }
def diskNewsRow : OpenClaim := { program := "ytcklnhjjjapfjaa", sum := "72a73f919013da4d4a6d10a6384a4df03311afb0e51c8b2b279946e3a6527f4f", func := "rhizome/rhizomelaw17.DiskNews", spec := "diskNews", inPlace := ["maps.clone", "internal/abi.NoEscape"], unfollowed := true, recurses := true, apart := false }
def DiskNewsSaid : Prop := diskNewsRow.holds Try.pinned (OpenSpec.ofChange diskNewsSpec)

/-- ITS FALSE NEIGHBOUR: 'it returns false'. Refute it at one input. -/
def diskNewsWrong : ChangeSpec := { name := "diskNews", fn := fun _ => fun
  | [d] => { results := [.lit (.bool false)], args := [d] }
  | _ => none }
def DiskNewsWrongFalsely : Prop := diskNewsRow.holds Try.pinned (OpenSpec.ofChange diskNewsWrong)

/-- 'rhizomelaw17.DiskApart': WHATEVER THE INPUT: true; the input reads as it did. -/
def diskApartSpec : ChangeSpec := { name := "diskApart", fn := fun _ => fun
  | [d1, d2, d3] => { results := [.lit (.bool true)], args := [d1, d2, d3] }
  | _ => none }
def diskApartRow : OpenClaim := { program := "ytcklnhjjjapfjaa", sum := "72a73f919013da4d4a6d10a6384a4df03311afb0e51c8b2b279946e3a6527f4f", func := "rhizome/rhizomelaw17.DiskApart", spec := "diskApart", inPlace := ["maps.clone", "internal/abi.NoEscape"], unfollowed := true, recurses := true, apart := false }
def DiskApartSaid : Prop := diskApartRow.holds Try.pinned (OpenSpec.ofChange diskApartSpec)

/-- ITS FALSE NEIGHBOUR: 'it returns false'. Refute it at one input. -/
def diskApartWrong : ChangeSpec := { name := "diskApart", fn := fun _ => fun
  | [d1, d2, d3] => { results := [.lit (.bool false)], args := [d1, d2, d3] }
  | _ => none }
def DiskApartWrongFalsely : Prop := diskApartRow.holds Try.pinned (OpenSpec.ofChange diskApartWrong)

/-- 'rhizomelaw17.DiskArms': WHATEVER THE INPUT: true; the input reads as it did. -/
def diskArmsSpec : ChangeSpec := { name := "diskArms", fn := fun _ => fun
  | [d] => { results := [.lit (.bool true)], args := [d] }
  | _ => none }
def diskArmsRow : OpenClaim := { program := "ytcklnhjjjapfjaa", sum := "72a73f919013da4d4a6d10a6384a4df03311afb0e51c8b2b279946e3a6527f4f", func := "rhizome/rhizomelaw17.DiskArms", spec := "diskArms", inPlace := ["maps.clone", "internal/abi.NoEscape"], unfollowed := true, recurses := true, apart := false }
def DiskArmsSaid : Prop := diskArmsRow.holds Try.pinned (OpenSpec.ofChange diskArmsSpec)

/-- ITS FALSE NEIGHBOUR: 'it returns false'. Refute it at one input. -/
def diskArmsWrong : ChangeSpec := { name := "diskArms", fn := fun _ => fun
  | [d] => { results := [.lit (.bool false)], args := [d] }
  | _ => none }
def DiskArmsWrongFalsely : Prop := diskArmsRow.holds Try.pinned (OpenSpec.ofChange diskArmsWrong)

/-- 'rhizomelaw17.DiskDoes': WHATEVER THE INPUT: true; the input reads as it did. -/
def diskDoesSpec : ChangeSpec := { name := "diskDoes", fn := fun _ => fun
  | [d] => { results := [.lit (.bool true)], args := [d] }
  | _ => none }
def diskDoesRow : OpenClaim := { program := "ytcklnhjjjapfjaa", sum := "72a73f919013da4d4a6d10a6384a4df03311afb0e51c8b2b279946e3a6527f4f", func := "rhizome/rhizomelaw17.DiskDoes", spec := "diskDoes", inPlace := ["maps.clone", "internal/abi.NoEscape"], unfollowed := true, recurses := true, apart := false }
def DiskDoesSaid : Prop := diskDoesRow.holds Try.pinned (OpenSpec.ofChange diskDoesSpec)

/-- ITS FALSE NEIGHBOUR: 'it returns false'. Refute it at one input. -/
def diskDoesWrong : ChangeSpec := { name := "diskDoes", fn := fun _ => fun
  | [d] => { results := [.lit (.bool false)], args := [d] }
  | _ => none }
def DiskDoesWrongFalsely : Prop := diskDoesRow.holds Try.pinned (OpenSpec.ofChange diskDoesWrong)

/-- 'rhizomelaw17.DiskKeeps': WHATEVER THE INPUT: true; the input reads as it did. -/
def diskKeepsSpec : ChangeSpec := { name := "diskKeeps", fn := fun _ => fun
  | [d] => { results := [.lit (.bool true)], args := [d] }
  | _ => none }
def diskKeepsRow : OpenClaim := { program := "ytcklnhjjjapfjaa", sum := "72a73f919013da4d4a6d10a6384a4df03311afb0e51c8b2b279946e3a6527f4f", func := "rhizome/rhizomelaw17.DiskKeeps", spec := "diskKeeps", inPlace := ["maps.clone", "internal/abi.NoEscape"], unfollowed := true, recurses := true, apart := false }
def DiskKeepsSaid : Prop := diskKeepsRow.holds Try.pinned (OpenSpec.ofChange diskKeepsSpec)

/-- ITS FALSE NEIGHBOUR: 'it returns false'. Refute it at one input. -/
def diskKeepsWrong : ChangeSpec := { name := "diskKeeps", fn := fun _ => fun
  | [d] => { results := [.lit (.bool false)], args := [d] }
  | _ => none }
def DiskKeepsWrongFalsely : Prop := diskKeepsRow.holds Try.pinned (OpenSpec.ofChange diskKeepsWrong)

/- THE SECOND FORM. 'bulk': how many values and letters a reading holds, each counted each time it is reached (what is shared counts as often as it is met; a slice's spare places count too). A statement '..UptoSaid' is the law's where the arguments, and the package variables that the reading takes, are together of bulk at most 1048576: NARROWER than '..Said'. Prove '..Said' where nothing that the law and all that it calls make is longer than what came in: it says more and counts as full. Else prove '..UptoSaid'. A law counts once. -/
mutual
def uptoBulk {H : Type} : DataW H → Nat
  | .lit (.string bytes) => bytes.length + 1
  | .lit _ => 1
  | .nil => 1
  | .ptr d => uptoBulk d + 1
  | .slice elems spare => uptoBulkAll elems + uptoBulkAll spare + 1
  | .agg parts => uptoBulkAll parts + 1
  | .iface _ d => uptoBulk d + 1
  | .map entries => uptoBulkEntries entries + 1
  | .held _ => 1
def uptoBulkAll {H : Type} : List (DataW H) → Nat
  | [] => 0
  | d :: r => uptoBulk d + uptoBulkAll r
def uptoBulkEntries {H : Type} : List (Lit × DataW H) → Nat
  | [] => 0
  | x :: r => uptoBulkEntry x + uptoBulkEntries r
def uptoBulkEntry {H : Type} : Lit × DataW H → Nat
  | (.string bytes, d) => bytes.length + uptoBulk d + 1
  | (_, d) => uptoBulk d + 1
 end
def uptoSmall : (H : Type) → List (DataW H) → Bool := fun _ ds => decide (uptoBulkAll ds ≤ 1048576)
def OpenSpec.upto (s : _root_.Go.ChangeSpec) : _root_.Go.OpenSpec := { _root_.Go.OpenSpec.ofChange s with cond := some uptoSmall }

/-- 'rhizomelaw17.DiskNews', WHERE WHAT IT READS IS OF BULK AT MOST 1048576: true; the input reads as it did. -/
def diskNewsUptoRow : OpenClaim := { program := "ytcklnhjjjapfjaa", sum := "72a73f919013da4d4a6d10a6384a4df03311afb0e51c8b2b279946e3a6527f4f", func := "rhizome/rhizomelaw17.DiskNews", spec := "diskNews", inPlace := ["maps.clone", "internal/abi.NoEscape"], unfollowed := true, recurses := true, apart := false, narrowed := true }
def DiskNewsUptoSaid : Prop := diskNewsUptoRow.holds Try.pinned (OpenSpec.upto diskNewsSpec)

/-- 'rhizomelaw17.DiskApart', WHERE WHAT IT READS IS OF BULK AT MOST 1048576: true; the input reads as it did. -/
def diskApartUptoRow : OpenClaim := { program := "ytcklnhjjjapfjaa", sum := "72a73f919013da4d4a6d10a6384a4df03311afb0e51c8b2b279946e3a6527f4f", func := "rhizome/rhizomelaw17.DiskApart", spec := "diskApart", inPlace := ["maps.clone", "internal/abi.NoEscape"], unfollowed := true, recurses := true, apart := false, narrowed := true }
def DiskApartUptoSaid : Prop := diskApartUptoRow.holds Try.pinned (OpenSpec.upto diskApartSpec)

/-- 'rhizomelaw17.DiskArms', WHERE WHAT IT READS IS OF BULK AT MOST 1048576: true; the input reads as it did. -/
def diskArmsUptoRow : OpenClaim := { program := "ytcklnhjjjapfjaa", sum := "72a73f919013da4d4a6d10a6384a4df03311afb0e51c8b2b279946e3a6527f4f", func := "rhizome/rhizomelaw17.DiskArms", spec := "diskArms", inPlace := ["maps.clone", "internal/abi.NoEscape"], unfollowed := true, recurses := true, apart := false, narrowed := true }
def DiskArmsUptoSaid : Prop := diskArmsUptoRow.holds Try.pinned (OpenSpec.upto diskArmsSpec)

/-- 'rhizomelaw17.DiskDoes', WHERE WHAT IT READS IS OF BULK AT MOST 1048576: true; the input reads as it did. -/
def diskDoesUptoRow : OpenClaim := { program := "ytcklnhjjjapfjaa", sum := "72a73f919013da4d4a6d10a6384a4df03311afb0e51c8b2b279946e3a6527f4f", func := "rhizome/rhizomelaw17.DiskDoes", spec := "diskDoes", inPlace := ["maps.clone", "internal/abi.NoEscape"], unfollowed := true, recurses := true, apart := false, narrowed := true }
def DiskDoesUptoSaid : Prop := diskDoesUptoRow.holds Try.pinned (OpenSpec.upto diskDoesSpec)

/-- 'rhizomelaw17.DiskKeeps', WHERE WHAT IT READS IS OF BULK AT MOST 1048576: true; the input reads as it did. -/
def diskKeepsUptoRow : OpenClaim := { program := "ytcklnhjjjapfjaa", sum := "72a73f919013da4d4a6d10a6384a4df03311afb0e51c8b2b279946e3a6527f4f", func := "rhizome/rhizomelaw17.DiskKeeps", spec := "diskKeeps", inPlace := ["maps.clone", "internal/abi.NoEscape"], unfollowed := true, recurses := true, apart := false, narrowed := true }
def DiskKeepsUptoSaid : Prop := diskKeepsUptoRow.holds Try.pinned (OpenSpec.upto diskKeepsSpec)

end Rows
end Go.Proofs.Ytcklnhjjjapfjaa
