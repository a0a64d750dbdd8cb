/-
  No cell of these rows narrows 'for every input' (looked for: loops, veiled, ifaces, maps, wideKeys, modest, calm, conditions, laid).
  DERIVED. THE GIVEN ROWS OF THIS SEAT. 2 by the template 'for every input the law returns true; each argument reads behind the call as it read before'; 0 by the template 'total and deterministic' (their statements: YtjkhcfdflcndkaaGreatTotals.lean).
  GIVEN WITH THE SEED: the statements are not yours to turn. If you find one false, say at which input.
  Laid BY PROGRAM, IN A SANDBOX (cutbox-rows.mjs): the forced cells as the released guide's own fill.sh prints them over the translation 9f91022bf5ea881f… (all of the seat's roots in one cut). By AI agents, Wed Nov 11 2026. No macro, syntax, notation, axiom, sorry.
-/
import Derived.Test.YtjkhcfdflcndkaaGreatChecked
import GoSem.Claim
import GoSem.ClaimJoined
import GoSem.ClaimMapViews
import Derived.JoinedTies
import Derived.KernelRfl
namespace Go.Proofs.YtjkhcfdflcndkaaGreat
/- THE CELL 'sum', in the pinned program and in every row, IS THE sha256 OF THE DUMP (.gsa) THAT YtjkhcfdflcndkaaGreatProg.lean LOADS. Nothing in Lean hashes anything: it is a label: what it is worth is what the hold of that sum in a sandbox is worth. -/
noncomputable def Tryz.pinned : Pinned := { name := "ytjkhcfdflcndkaagreat", sum := "9f91022bf5ea881f843a9f4158e221cd240d0802d318ac1837bb40977451e994", checked := Tryz.checked }
namespace Rows
def none {H : Type} : Left H := { results := [], args := [] }

/-- 'rhizomelaw19.PagerOpens': WHATEVER THE INPUT: true; the input reads as it did. -/
def pagerOpensSpec : ChangeSpec := { name := "pagerOpens", fn := fun _ => fun
  | [d] => { results := [.lit (.bool true)], args := [d] }
  | _ => none }
def pagerOpensRow : OpenClaim := { program := "ytjkhcfdflcndkaagreat", sum := "9f91022bf5ea881f843a9f4158e221cd240d0802d318ac1837bb40977451e994", func := "rhizome/rhizomelaw19.PagerOpens", spec := "pagerOpens", inPlace := ["internal/abi.NoEscape", "internal/bytealg.MakeNoZero", "maps.clone"], unfollowed := true, recurses := true, apart := false }
def PagerOpensSaid : Prop := pagerOpensRow.holds Tryz.pinned (OpenSpec.ofChange pagerOpensSpec)

/-- ITS FALSE NEIGHBOUR: 'it returns false'. Refute it at one input. -/
def pagerOpensWrong : ChangeSpec := { name := "pagerOpens", fn := fun _ => fun
  | [d] => { results := [.lit (.bool false)], args := [d] }
  | _ => none }
def PagerOpensWrongFalsely : Prop := pagerOpensRow.holds Tryz.pinned (OpenSpec.ofChange pagerOpensWrong)

/-- 'rhizomelaw19.PagerDoes': WHATEVER THE INPUT: true; the input reads as it did. -/
def pagerDoesSpec : ChangeSpec := { name := "pagerDoes", fn := fun _ => fun
  | [d] => { results := [.lit (.bool true)], args := [d] }
  | _ => none }
def pagerDoesRow : OpenClaim := { program := "ytjkhcfdflcndkaagreat", sum := "9f91022bf5ea881f843a9f4158e221cd240d0802d318ac1837bb40977451e994", func := "rhizome/rhizomelaw19.PagerDoes", spec := "pagerDoes", inPlace := ["internal/abi.NoEscape", "internal/bytealg.MakeNoZero", "maps.clone"], unfollowed := true, recurses := true, apart := false }
def PagerDoesSaid : Prop := pagerDoesRow.holds Tryz.pinned (OpenSpec.ofChange pagerDoesSpec)

/-- ITS FALSE NEIGHBOUR: 'it returns false'. Refute it at one input. -/
def pagerDoesWrong : ChangeSpec := { name := "pagerDoes", fn := fun _ => fun
  | [d] => { results := [.lit (.bool false)], args := [d] }
  | _ => none }
def PagerDoesWrongFalsely : Prop := pagerDoesRow.holds Tryz.pinned (OpenSpec.ofChange pagerDoesWrong)

/- THE SECOND FORM. 'bulk': how many values and letters a reading holds, each counted each time it is reached (what is shared counts as often as it is met; a slice's spare places count too). A statement '..UptoSaid' is the law's where the arguments, and the package variables that the reading takes, are together of bulk at most 1048576: NARROWER than '..Said'. Prove '..Said' where nothing that the law and all that it calls make is longer than what came in: it says more and counts as full. Else prove '..UptoSaid'. A law counts once. -/
mutual
def uptoBulk {H : Type} : DataW H → Nat
  | .lit (.string bytes) => bytes.length + 1
  | .lit _ => 1
  | .nil => 1
  | .ptr d => uptoBulk d + 1
  | .slice elems spare => uptoBulkAll elems + uptoBulkAll spare + 1
  | .agg parts => uptoBulkAll parts + 1
  | .iface _ d => uptoBulk d + 1
  | .map entries => uptoBulkEntries entries + 1
  | .held _ => 1
def uptoBulkAll {H : Type} : List (DataW H) → Nat
  | [] => 0
  | d :: r => uptoBulk d + uptoBulkAll r
def uptoBulkEntries {H : Type} : List (Lit × DataW H) → Nat
  | [] => 0
  | x :: r => uptoBulkEntry x + uptoBulkEntries r
def uptoBulkEntry {H : Type} : Lit × DataW H → Nat
  | (.string bytes, d) => bytes.length + uptoBulk d + 1
  | (_, d) => uptoBulk d + 1
 end
def uptoSmall : (H : Type) → List (DataW H) → Bool := fun _ ds => decide (uptoBulkAll ds ≤ 1048576)
def OpenSpec.upto (s : _root_.Go.ChangeSpec) : _root_.Go.OpenSpec := { _root_.Go.OpenSpec.ofChange s with cond := some uptoSmall }

/-- 'rhizomelaw19.PagerOpens', WHERE WHAT IT READS IS OF BULK AT MOST 1048576: true; the input reads as it did. -/
def pagerOpensUptoRow : OpenClaim := { program := "ytjkhcfdflcndkaagreat", sum := "9f91022bf5ea881f843a9f4158e221cd240d0802d318ac1837bb40977451e994", func := "rhizome/rhizomelaw19.PagerOpens", spec := "pagerOpens", inPlace := ["internal/abi.NoEscape", "internal/bytealg.MakeNoZero", "maps.clone"], unfollowed := true, recurses := true, apart := false, narrowed := true }
def PagerOpensUptoSaid : Prop := pagerOpensUptoRow.holds Tryz.pinned (OpenSpec.upto pagerOpensSpec)

/-- 'rhizomelaw19.PagerDoes', WHERE WHAT IT READS IS OF BULK AT MOST 1048576: true; the input reads as it did. -/
def pagerDoesUptoRow : OpenClaim := { program := "ytjkhcfdflcndkaagreat", sum := "9f91022bf5ea881f843a9f4158e221cd240d0802d318ac1837bb40977451e994", func := "rhizome/rhizomelaw19.PagerDoes", spec := "pagerDoes", inPlace := ["internal/abi.NoEscape", "internal/bytealg.MakeNoZero", "maps.clone"], unfollowed := true, recurses := true, apart := false, narrowed := true }
def PagerDoesUptoSaid : Prop := pagerDoesUptoRow.holds Tryz.pinned (OpenSpec.upto pagerDoesSpec)

end Rows
end Go.Proofs.YtjkhcfdflcndkaaGreat
