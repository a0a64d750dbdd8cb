/-
  NARROWER THAN 'FOR EVERY INPUT', by the rows' own cells (each row's printed sentence says how): KeysLays: laid · KeysReads: laid · KeysCmps: laid · KeysOrder: laid · KeysBack: laid · KeysJoin: laid · KeysAfter: laid · KeysLast: laid.
  DERIVED. THE GIVEN ROWS OF THIS SEAT. 8 by the template 'for every input the law returns true; each argument reads behind the call as it read before'; 0 by the template 'total and deterministic' (their statements: YtpimfioeeipnhaaDoorTotals.lean).
  GIVEN WITH THE SEED: the statements are not yours to turn. If you find one false, say at which input.
  Laid BY PROGRAM, IN A SANDBOX (cutbox-rows.mjs): the forced cells as the released guide's own fill.sh prints them over the translation b5e561a359323676… (all of the seat's roots in one cut). By AI agents, Wed Nov 11 2026. No macro, syntax, notation, axiom, sorry.
-/
import Derived.Test.YtpimfioeeipnhaaDoorChecked
import GoSem.PinnedTables
import GoSem.Claim
import GoSem.ClaimJoined
import GoSem.ClaimMapViews
import Derived.JoinedTies
import Derived.KernelRfl
namespace Go.Proofs.YtpimfioeeipnhaaDoor
/- THE CELL 'sum', in the pinned program and in every row, IS THE sha256 OF THE DUMP (.gsa) THAT YtpimfioeeipnhaaDoorProg.lean LOADS. Nothing in Lean hashes anything: it is a label: what it is worth is what the hold of that sum in a sandbox is worth. -/
noncomputable def Tryd.pinned : Pinned := { name := "ytpimfioeeipnhaadoor", sum := "b5e561a359323676e4035170f428e3bd130ff12b6260bfdec9bdb5acbee46eab", checked := Tryd.checked }
namespace Rows
def none {H : Type} : Left H := { results := [], args := [] }

/- WHAT THE LISTED PACKAGE-LEVEL VARIABLES READ AS WHEN THE CALL BEGINS. Each datum BY PROGRAM (the guide's laid-datum.mjs) off the statement by which the dump's own 'gosem.cut.vars' lays the variable. In a bare row this is a premise. The card (YtpimfioeeipnhaaDoorCards.lean) ties it to the program's text. -/
def laid_unicode_utf8_acceptRanges {H : Type} : DataW H := .agg [.agg [.lit (.int .u8 128), .lit (.int .u8 191)], .agg [.lit (.int .u8 160), .lit (.int .u8 191)], .agg [.lit (.int .u8 128), .lit (.int .u8 159)], .agg [.lit (.int .u8 144), .lit (.int .u8 191)], .agg [.lit (.int .u8 128), .lit (.int .u8 143)], .agg [.lit (.int .u8 0), .lit (.int .u8 0)], .agg [.lit (.int .u8 0), .lit (.int .u8 0)], .agg [.lit (.int .u8 0), .lit (.int .u8 0)], .agg [.lit (.int .u8 0), .lit (.int .u8 0)], .agg [.lit (.int .u8 0), .lit (.int .u8 0)], .agg [.lit (.int .u8 0), .lit (.int .u8 0)], .agg [.lit (.int .u8 0), .lit (.int .u8 0)], .agg [.lit (.int .u8 0), .lit (.int .u8 0)], .agg [.lit (.int .u8 0), .lit (.int .u8 0)], .agg [.lit (.int .u8 0), .lit (.int .u8 0)], .agg [.lit (.int .u8 0), .lit (.int .u8 0)]]
/-- One of Go's own tables, pinned by name: the form's constant. -/
def laid_unicode_utf8_first : DataW Unit := Go.Pinned.utf8First

/-- 'rhizomelaw03.KeysLays': WHATEVER THE INPUT: true; the input reads as it did. -/
def keysLaysSpec : ChangeSpec := { name := "keysLays", fn := fun _ => fun
  | [d] => { results := [.lit (.bool true)], args := [d] }
  | _ => none }
def keysLaysRow : OpenClaim := { program := "ytpimfioeeipnhaadoor", sum := "b5e561a359323676e4035170f428e3bd130ff12b6260bfdec9bdb5acbee46eab", func := "rhizome/rhizomelaw03.KeysLays", spec := "keysLays", inPlace := ["internal/bytealg.CountString", "internal/bytealg.IndexByteString", "internal/bytealg.IndexString", "internal/abi.NoEscape", "internal/bytealg.MakeNoZero", "math.Float64frombits", "internal/bytealg.abigen_runtime_cmpstring"], named := ["internal/bytealg.MaxLen", "unicode/utf8.first", "unicode/utf8.acceptRanges"], apart := false, laid := [("unicode/utf8.acceptRanges", laid_unicode_utf8_acceptRanges), ("unicode/utf8.first", laid_unicode_utf8_first)] }
def KeysLaysSaid : Prop := keysLaysRow.holds Tryd.pinned (OpenSpec.ofChange keysLaysSpec)

/-- ITS FALSE NEIGHBOUR: 'it returns false'. Refute it at one input. -/
def keysLaysWrong : ChangeSpec := { name := "keysLays", fn := fun _ => fun
  | [d] => { results := [.lit (.bool false)], args := [d] }
  | _ => none }
def KeysLaysWrongFalsely : Prop := keysLaysRow.holds Tryd.pinned (OpenSpec.ofChange keysLaysWrong)

/-- 'rhizomelaw03.KeysReads': WHATEVER THE INPUT: true; the input reads as it did. -/
def keysReadsSpec : ChangeSpec := { name := "keysReads", fn := fun _ => fun
  | [d] => { results := [.lit (.bool true)], args := [d] }
  | _ => none }
def keysReadsRow : OpenClaim := { program := "ytpimfioeeipnhaadoor", sum := "b5e561a359323676e4035170f428e3bd130ff12b6260bfdec9bdb5acbee46eab", func := "rhizome/rhizomelaw03.KeysReads", spec := "keysReads", inPlace := ["internal/bytealg.IndexByteString", "internal/abi.NoEscape", "internal/bytealg.CountString", "internal/bytealg.IndexString", "internal/bytealg.MakeNoZero", "math.Float64frombits", "internal/bytealg.abigen_runtime_cmpstring"], named := ["internal/bytealg.MaxLen", "unicode/utf8.first", "unicode/utf8.acceptRanges"], apart := false, laid := [("unicode/utf8.acceptRanges", laid_unicode_utf8_acceptRanges), ("unicode/utf8.first", laid_unicode_utf8_first)] }
def KeysReadsSaid : Prop := keysReadsRow.holds Tryd.pinned (OpenSpec.ofChange keysReadsSpec)

/-- ITS FALSE NEIGHBOUR: 'it returns false'. Refute it at one input. -/
def keysReadsWrong : ChangeSpec := { name := "keysReads", fn := fun _ => fun
  | [d] => { results := [.lit (.bool false)], args := [d] }
  | _ => none }
def KeysReadsWrongFalsely : Prop := keysReadsRow.holds Tryd.pinned (OpenSpec.ofChange keysReadsWrong)

/-- 'rhizomelaw03.KeysCmps': WHATEVER THE INPUT: true; the input reads as it did. -/
def keysCmpsSpec : ChangeSpec := { name := "keysCmps", fn := fun _ => fun
  | [d1, d2, d3] => { results := [.lit (.bool true)], args := [d1, d2, d3] }
  | _ => none }
def keysCmpsRow : OpenClaim := { program := "ytpimfioeeipnhaadoor", sum := "b5e561a359323676e4035170f428e3bd130ff12b6260bfdec9bdb5acbee46eab", func := "rhizome/rhizomelaw03.KeysCmps", spec := "keysCmps", inPlace := ["internal/bytealg.CountString", "internal/bytealg.IndexByteString", "internal/bytealg.IndexString", "internal/abi.NoEscape", "internal/bytealg.MakeNoZero", "math.Float64frombits", "internal/bytealg.abigen_runtime_cmpstring"], named := ["internal/bytealg.MaxLen", "unicode/utf8.first", "unicode/utf8.acceptRanges"], apart := false, laid := [("unicode/utf8.acceptRanges", laid_unicode_utf8_acceptRanges), ("unicode/utf8.first", laid_unicode_utf8_first)] }
def KeysCmpsSaid : Prop := keysCmpsRow.holds Tryd.pinned (OpenSpec.ofChange keysCmpsSpec)

/-- ITS FALSE NEIGHBOUR: 'it returns false'. Refute it at one input. -/
def keysCmpsWrong : ChangeSpec := { name := "keysCmps", fn := fun _ => fun
  | [d1, d2, d3] => { results := [.lit (.bool false)], args := [d1, d2, d3] }
  | _ => none }
def KeysCmpsWrongFalsely : Prop := keysCmpsRow.holds Tryd.pinned (OpenSpec.ofChange keysCmpsWrong)

/-- 'rhizomelaw03.KeysOrder': WHATEVER THE INPUT: true; the input reads as it did. -/
def keysOrderSpec : ChangeSpec := { name := "keysOrder", fn := fun _ => fun
  | [d1, d2] => { results := [.lit (.bool true)], args := [d1, d2] }
  | _ => none }
def keysOrderRow : OpenClaim := { program := "ytpimfioeeipnhaadoor", sum := "b5e561a359323676e4035170f428e3bd130ff12b6260bfdec9bdb5acbee46eab", func := "rhizome/rhizomelaw03.KeysOrder", spec := "keysOrder", inPlace := ["internal/bytealg.CountString", "internal/bytealg.IndexByteString", "internal/bytealg.IndexString", "internal/abi.NoEscape", "internal/bytealg.MakeNoZero", "math.Float64frombits", "internal/bytealg.abigen_runtime_cmpstring"], named := ["internal/bytealg.MaxLen", "unicode/utf8.first", "unicode/utf8.acceptRanges"], apart := false, laid := [("unicode/utf8.acceptRanges", laid_unicode_utf8_acceptRanges), ("unicode/utf8.first", laid_unicode_utf8_first)] }
def KeysOrderSaid : Prop := keysOrderRow.holds Tryd.pinned (OpenSpec.ofChange keysOrderSpec)

/-- ITS FALSE NEIGHBOUR: 'it returns false'. Refute it at one input. -/
def keysOrderWrong : ChangeSpec := { name := "keysOrder", fn := fun _ => fun
  | [d1, d2] => { results := [.lit (.bool false)], args := [d1, d2] }
  | _ => none }
def KeysOrderWrongFalsely : Prop := keysOrderRow.holds Tryd.pinned (OpenSpec.ofChange keysOrderWrong)

/-- 'rhizomelaw03.KeysBack': WHATEVER THE INPUT: true; the input reads as it did. -/
def keysBackSpec : ChangeSpec := { name := "keysBack", fn := fun _ => fun
  | [d1, d2] => { results := [.lit (.bool true)], args := [d1, d2] }
  | _ => none }
def keysBackRow : OpenClaim := { program := "ytpimfioeeipnhaadoor", sum := "b5e561a359323676e4035170f428e3bd130ff12b6260bfdec9bdb5acbee46eab", func := "rhizome/rhizomelaw03.KeysBack", spec := "keysBack", inPlace := ["internal/bytealg.CountString", "internal/bytealg.IndexByteString", "internal/bytealg.IndexString", "internal/abi.NoEscape", "internal/bytealg.MakeNoZero", "math.Float64frombits", "internal/bytealg.abigen_runtime_cmpstring"], named := ["internal/bytealg.MaxLen", "unicode/utf8.first", "unicode/utf8.acceptRanges"], apart := false, laid := [("unicode/utf8.acceptRanges", laid_unicode_utf8_acceptRanges), ("unicode/utf8.first", laid_unicode_utf8_first)] }
def KeysBackSaid : Prop := keysBackRow.holds Tryd.pinned (OpenSpec.ofChange keysBackSpec)

/-- ITS FALSE NEIGHBOUR: 'it returns false'. Refute it at one input. -/
def keysBackWrong : ChangeSpec := { name := "keysBack", fn := fun _ => fun
  | [d1, d2] => { results := [.lit (.bool false)], args := [d1, d2] }
  | _ => none }
def KeysBackWrongFalsely : Prop := keysBackRow.holds Tryd.pinned (OpenSpec.ofChange keysBackWrong)

/-- 'rhizomelaw03.KeysJoin': WHATEVER THE INPUT: true; the input reads as it did. -/
def keysJoinSpec : ChangeSpec := { name := "keysJoin", fn := fun _ => fun
  | [d1, d2] => { results := [.lit (.bool true)], args := [d1, d2] }
  | _ => none }
def keysJoinRow : OpenClaim := { program := "ytpimfioeeipnhaadoor", sum := "b5e561a359323676e4035170f428e3bd130ff12b6260bfdec9bdb5acbee46eab", func := "rhizome/rhizomelaw03.KeysJoin", spec := "keysJoin", inPlace := ["internal/bytealg.CountString", "internal/bytealg.IndexByteString", "internal/bytealg.IndexString", "internal/abi.NoEscape", "internal/bytealg.MakeNoZero", "math.Float64frombits", "internal/bytealg.abigen_runtime_cmpstring"], named := ["internal/bytealg.MaxLen", "unicode/utf8.first", "unicode/utf8.acceptRanges"], apart := false, laid := [("unicode/utf8.acceptRanges", laid_unicode_utf8_acceptRanges), ("unicode/utf8.first", laid_unicode_utf8_first)] }
def KeysJoinSaid : Prop := keysJoinRow.holds Tryd.pinned (OpenSpec.ofChange keysJoinSpec)

/-- ITS FALSE NEIGHBOUR: 'it returns false'. Refute it at one input. -/
def keysJoinWrong : ChangeSpec := { name := "keysJoin", fn := fun _ => fun
  | [d1, d2] => { results := [.lit (.bool false)], args := [d1, d2] }
  | _ => none }
def KeysJoinWrongFalsely : Prop := keysJoinRow.holds Tryd.pinned (OpenSpec.ofChange keysJoinWrong)

/-- 'rhizomelaw03.KeysAfter': WHATEVER THE INPUT: true; the input reads as it did. -/
def keysAfterSpec : ChangeSpec := { name := "keysAfter", fn := fun _ => fun
  | [d1, d2] => { results := [.lit (.bool true)], args := [d1, d2] }
  | _ => none }
def keysAfterRow : OpenClaim := { program := "ytpimfioeeipnhaadoor", sum := "b5e561a359323676e4035170f428e3bd130ff12b6260bfdec9bdb5acbee46eab", func := "rhizome/rhizomelaw03.KeysAfter", spec := "keysAfter", inPlace := ["internal/bytealg.CountString", "internal/bytealg.IndexByteString", "internal/bytealg.IndexString", "internal/abi.NoEscape", "internal/bytealg.MakeNoZero", "math.Float64frombits", "internal/bytealg.abigen_runtime_cmpstring"], named := ["internal/bytealg.MaxLen", "unicode/utf8.first", "unicode/utf8.acceptRanges"], apart := false, laid := [("unicode/utf8.acceptRanges", laid_unicode_utf8_acceptRanges), ("unicode/utf8.first", laid_unicode_utf8_first)] }
def KeysAfterSaid : Prop := keysAfterRow.holds Tryd.pinned (OpenSpec.ofChange keysAfterSpec)

/-- ITS FALSE NEIGHBOUR: 'it returns false'. Refute it at one input. -/
def keysAfterWrong : ChangeSpec := { name := "keysAfter", fn := fun _ => fun
  | [d1, d2] => { results := [.lit (.bool false)], args := [d1, d2] }
  | _ => none }
def KeysAfterWrongFalsely : Prop := keysAfterRow.holds Tryd.pinned (OpenSpec.ofChange keysAfterWrong)

/-- 'rhizomelaw03.KeysLast': WHATEVER THE INPUT: true; the input reads as it did. -/
def keysLastSpec : ChangeSpec := { name := "keysLast", fn := fun _ => fun
  | [d1, d2, d3] => { results := [.lit (.bool true)], args := [d1, d2, d3] }
  | _ => none }
def keysLastRow : OpenClaim := { program := "ytpimfioeeipnhaadoor", sum := "b5e561a359323676e4035170f428e3bd130ff12b6260bfdec9bdb5acbee46eab", func := "rhizome/rhizomelaw03.KeysLast", spec := "keysLast", inPlace := ["internal/bytealg.CountString", "internal/bytealg.IndexByteString", "internal/bytealg.IndexString", "internal/abi.NoEscape", "internal/bytealg.MakeNoZero", "math.Float64frombits", "internal/bytealg.abigen_runtime_cmpstring"], named := ["internal/bytealg.MaxLen", "unicode/utf8.first", "unicode/utf8.acceptRanges"], apart := false, laid := [("unicode/utf8.acceptRanges", laid_unicode_utf8_acceptRanges), ("unicode/utf8.first", laid_unicode_utf8_first)] }
def KeysLastSaid : Prop := keysLastRow.holds Tryd.pinned (OpenSpec.ofChange keysLastSpec)

/-- ITS FALSE NEIGHBOUR: 'it returns false'. Refute it at one input. -/
def keysLastWrong : ChangeSpec := { name := "keysLast", fn := fun _ => fun
  | [d1, d2, d3] => { results := [.lit (.bool false)], args := [d1, d2, d3] }
  | _ => none }
def KeysLastWrongFalsely : Prop := keysLastRow.holds Tryd.pinned (OpenSpec.ofChange keysLastWrong)

/- THE SECOND FORM. 'bulk': how many values and letters a reading holds, each counted each time it is reached (what is shared counts as often as it is met; a slice's spare places count too). A statement '..UptoSaid' is the law's where the arguments, and the package variables that the reading takes, are together of bulk at most 1048576: NARROWER than '..Said'. Prove '..Said' where nothing that the law and all that it calls make is longer than what came in: it says more and counts as full. Else prove '..UptoSaid'. A law counts once. -/
mutual
def uptoBulk {H : Type} : DataW H → Nat
  | .lit (.string bytes) => bytes.length + 1
  | .lit _ => 1
  | .nil => 1
  | .ptr d => uptoBulk d + 1
  | .slice elems spare => uptoBulkAll elems + uptoBulkAll spare + 1
  | .agg parts => uptoBulkAll parts + 1
  | .iface _ d => uptoBulk d + 1
  | .map entries => uptoBulkEntries entries + 1
  | .held _ => 1
def uptoBulkAll {H : Type} : List (DataW H) → Nat
  | [] => 0
  | d :: r => uptoBulk d + uptoBulkAll r
def uptoBulkEntries {H : Type} : List (Lit × DataW H) → Nat
  | [] => 0
  | x :: r => uptoBulkEntry x + uptoBulkEntries r
def uptoBulkEntry {H : Type} : Lit × DataW H → Nat
  | (.string bytes, d) => bytes.length + uptoBulk d + 1
  | (_, d) => uptoBulk d + 1
 end
def uptoSmall : (H : Type) → List (DataW H) → Bool := fun _ ds => decide (uptoBulkAll ds ≤ 1048576)
def OpenSpec.upto (s : _root_.Go.ChangeSpec) : _root_.Go.OpenSpec := { _root_.Go.OpenSpec.ofChange s with cond := some uptoSmall }

/-- 'rhizomelaw03.KeysLays', WHERE WHAT IT READS IS OF BULK AT MOST 1048576: true; the input reads as it did. -/
def keysLaysUptoRow : OpenClaim := { program := "ytpimfioeeipnhaadoor", sum := "b5e561a359323676e4035170f428e3bd130ff12b6260bfdec9bdb5acbee46eab", func := "rhizome/rhizomelaw03.KeysLays", spec := "keysLays", inPlace := ["internal/bytealg.CountString", "internal/bytealg.IndexByteString", "internal/bytealg.IndexString", "internal/abi.NoEscape", "internal/bytealg.MakeNoZero", "math.Float64frombits", "internal/bytealg.abigen_runtime_cmpstring"], named := ["internal/bytealg.MaxLen", "unicode/utf8.first", "unicode/utf8.acceptRanges"], apart := false, laid := [("unicode/utf8.acceptRanges", laid_unicode_utf8_acceptRanges), ("unicode/utf8.first", laid_unicode_utf8_first)], narrowed := true }
def KeysLaysUptoSaid : Prop := keysLaysUptoRow.holds Tryd.pinned (OpenSpec.upto keysLaysSpec)

/-- 'rhizomelaw03.KeysReads', WHERE WHAT IT READS IS OF BULK AT MOST 1048576: true; the input reads as it did. -/
def keysReadsUptoRow : OpenClaim := { program := "ytpimfioeeipnhaadoor", sum := "b5e561a359323676e4035170f428e3bd130ff12b6260bfdec9bdb5acbee46eab", func := "rhizome/rhizomelaw03.KeysReads", spec := "keysReads", inPlace := ["internal/bytealg.IndexByteString", "internal/abi.NoEscape", "internal/bytealg.CountString", "internal/bytealg.IndexString", "internal/bytealg.MakeNoZero", "math.Float64frombits", "internal/bytealg.abigen_runtime_cmpstring"], named := ["internal/bytealg.MaxLen", "unicode/utf8.first", "unicode/utf8.acceptRanges"], apart := false, laid := [("unicode/utf8.acceptRanges", laid_unicode_utf8_acceptRanges), ("unicode/utf8.first", laid_unicode_utf8_first)], narrowed := true }
def KeysReadsUptoSaid : Prop := keysReadsUptoRow.holds Tryd.pinned (OpenSpec.upto keysReadsSpec)

/-- 'rhizomelaw03.KeysCmps', WHERE WHAT IT READS IS OF BULK AT MOST 1048576: true; the input reads as it did. -/
def keysCmpsUptoRow : OpenClaim := { program := "ytpimfioeeipnhaadoor", sum := "b5e561a359323676e4035170f428e3bd130ff12b6260bfdec9bdb5acbee46eab", func := "rhizome/rhizomelaw03.KeysCmps", spec := "keysCmps", inPlace := ["internal/bytealg.CountString", "internal/bytealg.IndexByteString", "internal/bytealg.IndexString", "internal/abi.NoEscape", "internal/bytealg.MakeNoZero", "math.Float64frombits", "internal/bytealg.abigen_runtime_cmpstring"], named := ["internal/bytealg.MaxLen", "unicode/utf8.first", "unicode/utf8.acceptRanges"], apart := false, laid := [("unicode/utf8.acceptRanges", laid_unicode_utf8_acceptRanges), ("unicode/utf8.first", laid_unicode_utf8_first)], narrowed := true }
def KeysCmpsUptoSaid : Prop := keysCmpsUptoRow.holds Tryd.pinned (OpenSpec.upto keysCmpsSpec)

/-- 'rhizomelaw03.KeysOrder', WHERE WHAT IT READS IS OF BULK AT MOST 1048576: true; the input reads as it did. -/
def keysOrderUptoRow : OpenClaim := { program := "ytpimfioeeipnhaadoor", sum := "b5e561a359323676e4035170f428e3bd130ff12b6260bfdec9bdb5acbee46eab", func := "rhizome/rhizomelaw03.KeysOrder", spec := "keysOrder", inPlace := ["internal/bytealg.CountString", "internal/bytealg.IndexByteString", "internal/bytealg.IndexString", "internal/abi.NoEscape", "internal/bytealg.MakeNoZero", "math.Float64frombits", "internal/bytealg.abigen_runtime_cmpstring"], named := ["internal/bytealg.MaxLen", "unicode/utf8.first", "unicode/utf8.acceptRanges"], apart := false, laid := [("unicode/utf8.acceptRanges", laid_unicode_utf8_acceptRanges), ("unicode/utf8.first", laid_unicode_utf8_first)], narrowed := true }
def KeysOrderUptoSaid : Prop := keysOrderUptoRow.holds Tryd.pinned (OpenSpec.upto keysOrderSpec)

/-- 'rhizomelaw03.KeysBack', WHERE WHAT IT READS IS OF BULK AT MOST 1048576: true; the input reads as it did. -/
def keysBackUptoRow : OpenClaim := { program := "ytpimfioeeipnhaadoor", sum := "b5e561a359323676e4035170f428e3bd130ff12b6260bfdec9bdb5acbee46eab", func := "rhizome/rhizomelaw03.KeysBack", spec := "keysBack", inPlace := ["internal/bytealg.CountString", "internal/bytealg.IndexByteString", "internal/bytealg.IndexString", "internal/abi.NoEscape", "internal/bytealg.MakeNoZero", "math.Float64frombits", "internal/bytealg.abigen_runtime_cmpstring"], named := ["internal/bytealg.MaxLen", "unicode/utf8.first", "unicode/utf8.acceptRanges"], apart := false, laid := [("unicode/utf8.acceptRanges", laid_unicode_utf8_acceptRanges), ("unicode/utf8.first", laid_unicode_utf8_first)], narrowed := true }
def KeysBackUptoSaid : Prop := keysBackUptoRow.holds Tryd.pinned (OpenSpec.upto keysBackSpec)

/-- 'rhizomelaw03.KeysJoin', WHERE WHAT IT READS IS OF BULK AT MOST 1048576: true; the input reads as it did. -/
def keysJoinUptoRow : OpenClaim := { program := "ytpimfioeeipnhaadoor", sum := "b5e561a359323676e4035170f428e3bd130ff12b6260bfdec9bdb5acbee46eab", func := "rhizome/rhizomelaw03.KeysJoin", spec := "keysJoin", inPlace := ["internal/bytealg.CountString", "internal/bytealg.IndexByteString", "internal/bytealg.IndexString", "internal/abi.NoEscape", "internal/bytealg.MakeNoZero", "math.Float64frombits", "internal/bytealg.abigen_runtime_cmpstring"], named := ["internal/bytealg.MaxLen", "unicode/utf8.first", "unicode/utf8.acceptRanges"], apart := false, laid := [("unicode/utf8.acceptRanges", laid_unicode_utf8_acceptRanges), ("unicode/utf8.first", laid_unicode_utf8_first)], narrowed := true }
def KeysJoinUptoSaid : Prop := keysJoinUptoRow.holds Tryd.pinned (OpenSpec.upto keysJoinSpec)

/-- 'rhizomelaw03.KeysAfter', WHERE WHAT IT READS IS OF BULK AT MOST 1048576: true; the input reads as it did. -/
def keysAfterUptoRow : OpenClaim := { program := "ytpimfioeeipnhaadoor", sum := "b5e561a359323676e4035170f428e3bd130ff12b6260bfdec9bdb5acbee46eab", func := "rhizome/rhizomelaw03.KeysAfter", spec := "keysAfter", inPlace := ["internal/bytealg.CountString", "internal/bytealg.IndexByteString", "internal/bytealg.IndexString", "internal/abi.NoEscape", "internal/bytealg.MakeNoZero", "math.Float64frombits", "internal/bytealg.abigen_runtime_cmpstring"], named := ["internal/bytealg.MaxLen", "unicode/utf8.first", "unicode/utf8.acceptRanges"], apart := false, laid := [("unicode/utf8.acceptRanges", laid_unicode_utf8_acceptRanges), ("unicode/utf8.first", laid_unicode_utf8_first)], narrowed := true }
def KeysAfterUptoSaid : Prop := keysAfterUptoRow.holds Tryd.pinned (OpenSpec.upto keysAfterSpec)

/-- 'rhizomelaw03.KeysLast', WHERE WHAT IT READS IS OF BULK AT MOST 1048576: true; the input reads as it did. -/
def keysLastUptoRow : OpenClaim := { program := "ytpimfioeeipnhaadoor", sum := "b5e561a359323676e4035170f428e3bd130ff12b6260bfdec9bdb5acbee46eab", func := "rhizome/rhizomelaw03.KeysLast", spec := "keysLast", inPlace := ["internal/bytealg.CountString", "internal/bytealg.IndexByteString", "internal/bytealg.IndexString", "internal/abi.NoEscape", "internal/bytealg.MakeNoZero", "math.Float64frombits", "internal/bytealg.abigen_runtime_cmpstring"], named := ["internal/bytealg.MaxLen", "unicode/utf8.first", "unicode/utf8.acceptRanges"], apart := false, laid := [("unicode/utf8.acceptRanges", laid_unicode_utf8_acceptRanges), ("unicode/utf8.first", laid_unicode_utf8_first)], narrowed := true }
def KeysLastUptoSaid : Prop := keysLastUptoRow.holds Tryd.pinned (OpenSpec.upto keysLastSpec)

end Rows
end Go.Proofs.YtpimfioeeipnhaaDoor
