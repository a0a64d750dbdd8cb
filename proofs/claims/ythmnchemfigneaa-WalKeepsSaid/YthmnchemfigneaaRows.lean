/-
  No cell of these rows narrows 'for every input' (looked for: loops, veiled, ifaces, maps, wideKeys, modest, calm, conditions, laid).
  DERIVED. THE GIVEN ROWS OF THIS SEAT. 4 by the template 'for every input the law returns true; each argument reads behind the call as it read before'; 0 by the template 'total and deterministic' (their statements: YthmnchemfigneaaTotals.lean).
  GIVEN WITH THE SEED: the statements are not yours to turn. If you find one false, say at which input.
  Laid BY PROGRAM, IN A SANDBOX (cutbox-rows.mjs): the forced cells as the released guide's own fill.sh prints them over the translation ca3d34097aef5dc4… (all of the seat's roots in one cut). By AI agents, Wed Nov 11 2026. No macro, syntax, notation, axiom, sorry.
-/
import Derived.Test.YthmnchemfigneaaChecked
import GoSem.Claim
import GoSem.ClaimJoined
import GoSem.ClaimMapViews
import Derived.JoinedTies
import Derived.KernelRfl
namespace Go.Proofs.Ythmnchemfigneaa
/- THE CELL 'sum', in the pinned program and in every row, IS THE sha256 OF THE DUMP (.gsa) THAT YthmnchemfigneaaProg.lean LOADS. Nothing in Lean hashes anything: it is a label: what it is worth is what the hold of that sum in a sandbox is worth. -/
noncomputable def Try.pinned : Pinned := { name := "ythmnchemfigneaa", sum := "ca3d34097aef5dc4d30fb6382d9f2a259c9118e245f1a3b494b8956626f4fa71", checked := Try.checked }
namespace Rows
def none {H : Type} : Left H := { results := [], args := [] }

/-- 'rhizomelaw18.WalSectors': WHATEVER THE INPUT: true; the input reads as it did. -/
def walSectorsSpec : ChangeSpec := { name := "walSectors", fn := fun _ => fun
  | [d1, d2] => { results := [.lit (.bool true)], args := [d1, d2] }
  | _ => none }
def walSectorsRow : OpenClaim := { program := "ythmnchemfigneaa", sum := "ca3d34097aef5dc4d30fb6382d9f2a259c9118e245f1a3b494b8956626f4fa71", func := "rhizome/rhizomelaw18.WalSectors", spec := "walSectors", inPlace := ["internal/abi.NoEscape"], unfollowed := true, recurses := true, apart := false }
def WalSectorsSaid : Prop := walSectorsRow.holds Try.pinned (OpenSpec.ofChange walSectorsSpec)

/-- ITS FALSE NEIGHBOUR: 'it returns false'. Refute it at one input. -/
def walSectorsWrong : ChangeSpec := { name := "walSectors", fn := fun _ => fun
  | [d1, d2] => { results := [.lit (.bool false)], args := [d1, d2] }
  | _ => none }
def WalSectorsWrongFalsely : Prop := walSectorsRow.holds Try.pinned (OpenSpec.ofChange walSectorsWrong)

/-- 'rhizomelaw18.WalOnce': WHATEVER THE INPUT: true; the input reads as it did. -/
def walOnceSpec : ChangeSpec := { name := "walOnce", fn := fun _ => fun
  | [d] => { results := [.lit (.bool true)], args := [d] }
  | _ => none }
def walOnceRow : OpenClaim := { program := "ythmnchemfigneaa", sum := "ca3d34097aef5dc4d30fb6382d9f2a259c9118e245f1a3b494b8956626f4fa71", func := "rhizome/rhizomelaw18.WalOnce", spec := "walOnce", inPlace := ["internal/abi.NoEscape"], unfollowed := true, recurses := true, apart := false }
def WalOnceSaid : Prop := walOnceRow.holds Try.pinned (OpenSpec.ofChange walOnceSpec)

/-- ITS FALSE NEIGHBOUR: 'it returns false'. Refute it at one input. -/
def walOnceWrong : ChangeSpec := { name := "walOnce", fn := fun _ => fun
  | [d] => { results := [.lit (.bool false)], args := [d] }
  | _ => none }
def WalOnceWrongFalsely : Prop := walOnceRow.holds Try.pinned (OpenSpec.ofChange walOnceWrong)

/-- 'rhizomelaw18.WalReads': WHATEVER THE INPUT: true; the input reads as it did. -/
def walReadsSpec : ChangeSpec := { name := "walReads", fn := fun _ => fun
  | [d] => { results := [.lit (.bool true)], args := [d] }
  | _ => none }
def walReadsRow : OpenClaim := { program := "ythmnchemfigneaa", sum := "ca3d34097aef5dc4d30fb6382d9f2a259c9118e245f1a3b494b8956626f4fa71", func := "rhizome/rhizomelaw18.WalReads", spec := "walReads", inPlace := ["internal/abi.NoEscape"], unfollowed := true, recurses := true, apart := false }
def WalReadsSaid : Prop := walReadsRow.holds Try.pinned (OpenSpec.ofChange walReadsSpec)

/-- ITS FALSE NEIGHBOUR: 'it returns false'. Refute it at one input. -/
def walReadsWrong : ChangeSpec := { name := "walReads", fn := fun _ => fun
  | [d] => { results := [.lit (.bool false)], args := [d] }
  | _ => none }
def WalReadsWrongFalsely : Prop := walReadsRow.holds Try.pinned (OpenSpec.ofChange walReadsWrong)

/-- 'rhizomelaw18.WalKeeps': WHATEVER THE INPUT: true; the input reads as it did. -/
def walKeepsSpec : ChangeSpec := { name := "walKeeps", fn := fun _ => fun
  | [d] => { results := [.lit (.bool true)], args := [d] }
  | _ => none }
def walKeepsRow : OpenClaim := { program := "ythmnchemfigneaa", sum := "ca3d34097aef5dc4d30fb6382d9f2a259c9118e245f1a3b494b8956626f4fa71", func := "rhizome/rhizomelaw18.WalKeeps", spec := "walKeeps", inPlace := ["internal/abi.NoEscape"], unfollowed := true, recurses := true, apart := false }
def WalKeepsSaid : Prop := walKeepsRow.holds Try.pinned (OpenSpec.ofChange walKeepsSpec)

/-- ITS FALSE NEIGHBOUR: 'it returns false'. Refute it at one input. -/
def walKeepsWrong : ChangeSpec := { name := "walKeeps", fn := fun _ => fun
  | [d] => { results := [.lit (.bool false)], args := [d] }
  | _ => none }
def WalKeepsWrongFalsely : Prop := walKeepsRow.holds Try.pinned (OpenSpec.ofChange walKeepsWrong)

/- THE SECOND FORM. 'bulk': how many values and letters a reading holds, each counted each time it is reached (what is shared counts as often as it is met; a slice's spare places count too). A statement '..UptoSaid' is the law's where the arguments, and the package variables that the reading takes, are together of bulk at most 1048576: NARROWER than '..Said'. Prove '..Said' where nothing that the law and all that it calls make is longer than what came in: it says more and counts as full. Else prove '..UptoSaid'. A law counts once. -/
mutual
def uptoBulk {H : Type} : DataW H → Nat
  | .lit (.string bytes) => bytes.length + 1
  | .lit _ => 1
  | .nil => 1
  | .ptr d => uptoBulk d + 1
  | .slice elems spare => uptoBulkAll elems + uptoBulkAll spare + 1
  | .agg parts => uptoBulkAll parts + 1
  | .iface _ d => uptoBulk d + 1
  | .map entries => uptoBulkEntries entries + 1
  | .held _ => 1
def uptoBulkAll {H : Type} : List (DataW H) → Nat
  | [] => 0
  | d :: r => uptoBulk d + uptoBulkAll r
def uptoBulkEntries {H : Type} : List (Lit × DataW H) → Nat
  | [] => 0
  | x :: r => uptoBulkEntry x + uptoBulkEntries r
def uptoBulkEntry {H : Type} : Lit × DataW H → Nat
  | (.string bytes, d) => bytes.length + uptoBulk d + 1
  | (_, d) => uptoBulk d + 1
 end
def uptoSmall : (H : Type) → List (DataW H) → Bool := fun _ ds => decide (uptoBulkAll ds ≤ 1048576)
def OpenSpec.upto (s : _root_.Go.ChangeSpec) : _root_.Go.OpenSpec := { _root_.Go.OpenSpec.ofChange s with cond := some uptoSmall }

/-- 'rhizomelaw18.WalSectors', WHERE WHAT IT READS IS OF BULK AT MOST 1048576: true; the input reads as it did. -/
def walSectorsUptoRow : OpenClaim := { program := "ythmnchemfigneaa", sum := "ca3d34097aef5dc4d30fb6382d9f2a259c9118e245f1a3b494b8956626f4fa71", func := "rhizome/rhizomelaw18.WalSectors", spec := "walSectors", inPlace := ["internal/abi.NoEscape"], unfollowed := true, recurses := true, apart := false, narrowed := true }
def WalSectorsUptoSaid : Prop := walSectorsUptoRow.holds Try.pinned (OpenSpec.upto walSectorsSpec)

/-- 'rhizomelaw18.WalOnce', WHERE WHAT IT READS IS OF BULK AT MOST 1048576: true; the input reads as it did. -/
def walOnceUptoRow : OpenClaim := { program := "ythmnchemfigneaa", sum := "ca3d34097aef5dc4d30fb6382d9f2a259c9118e245f1a3b494b8956626f4fa71", func := "rhizome/rhizomelaw18.WalOnce", spec := "walOnce", inPlace := ["internal/abi.NoEscape"], unfollowed := true, recurses := true, apart := false, narrowed := true }
def WalOnceUptoSaid : Prop := walOnceUptoRow.holds Try.pinned (OpenSpec.upto walOnceSpec)

/-- 'rhizomelaw18.WalReads', WHERE WHAT IT READS IS OF BULK AT MOST 1048576: true; the input reads as it did. -/
def walReadsUptoRow : OpenClaim := { program := "ythmnchemfigneaa", sum := "ca3d34097aef5dc4d30fb6382d9f2a259c9118e245f1a3b494b8956626f4fa71", func := "rhizome/rhizomelaw18.WalReads", spec := "walReads", inPlace := ["internal/abi.NoEscape"], unfollowed := true, recurses := true, apart := false, narrowed := true }
def WalReadsUptoSaid : Prop := walReadsUptoRow.holds Try.pinned (OpenSpec.upto walReadsSpec)

/-- 'rhizomelaw18.WalKeeps', WHERE WHAT IT READS IS OF BULK AT MOST 1048576: true; the input reads as it did. -/
def walKeepsUptoRow : OpenClaim := { program := "ythmnchemfigneaa", sum := "ca3d34097aef5dc4d30fb6382d9f2a259c9118e245f1a3b494b8956626f4fa71", func := "rhizome/rhizomelaw18.WalKeeps", spec := "walKeeps", inPlace := ["internal/abi.NoEscape"], unfollowed := true, recurses := true, apart := false, narrowed := true }
def WalKeepsUptoSaid : Prop := walKeepsUptoRow.holds Try.pinned (OpenSpec.upto walKeepsSpec)

end Rows
end Go.Proofs.Ythmnchemfigneaa
