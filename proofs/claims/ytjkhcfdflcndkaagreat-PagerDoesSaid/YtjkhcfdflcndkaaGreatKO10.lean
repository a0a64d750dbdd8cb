/-
  A pager in plain words: its heads, Format, Open, Live, Write, Commit; a pager and its disk in memory. No condition.
-/
import Derived.Test.YtjkhcfdflcndkaaGreatKO08
import Derived.Test.YtjkhcfdflcndkaaGreatKO09
import Derived.Shelf.Strings.Repeat
import Derived.Ground.SlgnProg
import Derived.Ground.SlgmProg
import Derived.Test.YtjkhcfdflcndkaaGreatProg
import Derived.Deep.RegionHeld3
namespace Go.Proofs.YtjkhcfdflcndkaaGreat.D
open Go.RowKit Go.Maps Go.Shelf
set_option linter.unusedVariables false
set_option linter.unusedSimpArgs false

def gOf (s : List UInt8) : Nat := val ((s.drop 4).take 8)
def rOf (s : List UInt8) : Nat := val ((s.drop 12).take 4)
def fOf (s : List UInt8) : Nat := val ((s.drop 16).take 8)
/-- Are these a head's bytes, in this sector? -/
def headOk (pages a : Nat) (s : List UInt8) : Bool :=
  decide (1 ≤ gOf s) && decide (gOf s ≤ 1152921504606846976) && decide (gOf s % 2 = a) && decide (rOf s ≤ pages) && decide (1 ≤ fOf s) && decide (fOf s ≤ 1152921504606846976) && decide (s = headB (gOf s) (rOf s) (fOf s))
/-- What a head's bytes tell; 0: they are none. -/
def parseP (pages a : Nat) (s : List UInt8) : Nat × Int × Nat := if headOk pages a s then (gOf s, (rOf s : Int) - 1, fOf s) else (0, 0, 0)

def none_ : Int → Bool := fun _ => false
def pickP (S : St) (c : Nat) : Nat × Int × Nat :=
  if (parseP c 0 (S.sec 0)).1 < (parseP c 1 (S.sec 1)).1 then parseP c 1 (S.sec 1) else parseP c 0 (S.sec 0)
def PSt.of (f c : Nat) (h : Nat × Int × Nat) : PSt := { first := f, pages := c, root := h.2.1, from_ := h.2.2, gen := h.1, live := none_, taken := none_, dead := false }
def openP (S : St) (f c : Int) : Option PSt × Int :=
  if pchk S f c 1 ≠ 0 then (none, pchk S f c 1) else if (pickP S c.toNat).1 = 0 then (none, 190) else (some (PSt.of f.toNat c.toNat (pickP S c.toNat)), 0)

/-- Format's two writes and its sync. -/
def fmtP (S : St) (n : Nat) : St × Int :=
  if (S.write 1 (List.replicate 64 0)).2 ≠ 0 then ((S.write 1 (List.replicate 64 0)).1, 2)
  else if ((S.write 1 (List.replicate 64 0)).1.write 0 (headB 2 0 n)).2 ≠ 0 then (((S.write 1 (List.replicate 64 0)).1.write 0 (headB 2 0 n)).1, 2)
  else if ((S.write 1 (List.replicate 64 0)).1.write 0 (headB 2 0 n)).1.sync.2 ≠ 0 then (((S.write 1 (List.replicate 64 0)).1.write 0 (headB 2 0 n)).1.sync.1, 2)
  else (((S.write 1 (List.replicate 64 0)).1.write 0 (headB 2 0 n)).1.sync.1, 0)
def formatP (S : St) (f c n : Int) : Option PSt × St × Int :=
  if pchk S f c n ≠ 0 then (none, S, pchk S f c n) else if (fmtP S n.toNat).2 ≠ 0 then (none, (fmtP S n.toNat).1, 2) else (some (PSt.of f.toNat c.toNat (2, -1, n.toNat)), (fmtP S n.toNat).1, 0)

def PSt.setLive (P : PSt) (l : List Int) : PSt × Int := if setOk P.is l then ({ P with live := fun i => l.contains i }, 0) else (P, 191)
def PSt.write (P : PSt) (S : St) (k : Int) (l : List UInt8) : PSt × St × Int :=
  if P.dead then (P, S, 2) else if 512 < l.length then (P, S, 193) else if P.taken k = false then (P, S, 191)
  else (P.told (S.write ((P.first : Int) + 8 * k) (l ++ List.replicate (512 - l.length) 0)).2, (S.write ((P.first : Int) + 8 * k) (l ++ List.replicate (512 - l.length) 0)).1, (S.write ((P.first : Int) + 8 * k) (l ++ List.replicate (512 - l.length) 0)).2)

/-- May these be live, with this root? -/
def PSt.mayCommit (P : PSt) (root : Int) (l : List Int) : Bool := setOk (fun i => P.is i && P.used i) l && (decide (root = -1) || l.contains root)
def PSt.head (P : PSt) (S : St) (root fr : Int) : St × Int := S.write (((P.gen + 1) % 2 : Nat) : Int) (headB (P.gen + 1) (root + 1).toNat fr.toNat)
def PSt.goes (P : PSt) (S : St) (root fr : Int) (l : List Int) : PSt × St × Int :=
  if S.sync.2 ≠ 0 then (P.told S.sync.2, S.sync.1, S.sync.2)
  else if (P.head S.sync.1 root fr).2 ≠ 0 then (P.told (P.head S.sync.1 root fr).2, (P.head S.sync.1 root fr).1, (P.head S.sync.1 root fr).2)
  else if (P.head S.sync.1 root fr).1.sync.2 ≠ 0 then (P.told (P.head S.sync.1 root fr).1.sync.2, (P.head S.sync.1 root fr).1.sync.1, (P.head S.sync.1 root fr).1.sync.2)
  else ({ P with gen := P.gen + 1, root := root, from_ := fr.toNat, live := fun i => l.contains i, taken := fun _ => false }, (P.head S.sync.1 root fr).1.sync.1, 0)
def PSt.commit (P : PSt) (S : St) (root fr : Int) (l : List Int) : PSt × St × Int :=
  if P.dead then (P, S, 2) else if P.mayCommit root l = false then (P, S, 191)
  else if fr < 1 ∨ 1152921504606846976 < fr ∨ 1152921504606846976 ≤ P.gen then (P, S, 190) else P.goes S root fr l

/-! ### a pager and its disk -/
structure PD (w : World) (p g bm ml mt : Nat) (P : PSt) (S : St) : Prop where
  pa : PAt w p g ml mt P
  da : At w g bm S
  n1 : bm ≠ ml
  n2 : bm ≠ mt

def inPD (p g bm ml mt : Nat) : Nat → Prop := fun i => i = p ∨ i = g ∨ i = bm ∨ i = ml ∨ i = mt

section
variable {w w' : World} {p g bm ml mt : Nat} {P P' : PSt} {S S' : St}

theorem SetAt.isMap {b : Nat} {f : Int → Bool} (h : SetAt w b f) : ∃ es c, w.heap[b]? = some (.map es c) := by
  obtain ⟨n, D, ⟨es, clock, hb, _⟩, _⟩ := h
  exact ⟨es, clock, hb⟩
theorem At.isMap (h : At w g bm S) : ∃ es c, w.heap[bm]? = some (.map es c) := by
  obtain ⟨_, m, D, ⟨es, clock, hb, _⟩, _⟩ := h
  exact ⟨es, clock, hb⟩
theorem At.isDisk (h : At w g bm S) : ∃ c, w.heap[g]? = some (.cells c 92) := by
  obtain ⟨⟨kv, h1, _⟩, _⟩ := h
  exact ⟨_, h1⟩

theorem PD.ne (h : PD w p g bm ml mt P S) : p ≠ g ∧ p ≠ bm ∧ p ≠ ml ∧ p ≠ mt ∧ g ≠ bm ∧ g ≠ ml ∧ g ≠ mt ∧ ml ≠ mt := by
  obtain ⟨⟨h1, h2, h3, h4⟩, h5, h6, h7⟩ := h
  obtain ⟨ea, ca, a⟩ := h2.isMap
  obtain ⟨eb, cb, b⟩ := h3.isMap
  obtain ⟨ec, cc, c⟩ := h5.isMap
  obtain ⟨cd, d⟩ := h5.isDisk
  refine ⟨?_, ?_, ?_, ?_, ?_, ?_, ?_, h4⟩
  · rintro rfl
    rw [h1] at d
    injection d with d
    injection d with _ e
    exact absurd e (by decide)
  · rintro rfl; rw [h1] at c; cases c
  · rintro rfl; rw [h1] at a; cases a
  · rintro rfl; rw [h1] at b; cases b
  · rintro rfl; rw [d] at c; cases c
  · rintro rfl; rw [d] at a; cases a
  · rintro rfl; rw [d] at b; cases b

theorem PD.lt (h : PD w p g bm ml mt P S) : p < w.heap.size ∧ g < w.heap.size ∧ bm < w.heap.size ∧ ml < w.heap.size ∧ mt < w.heap.size := by
  obtain ⟨ea, ca, a⟩ := h.pa.2.1.isMap
  obtain ⟨eb, cb, b⟩ := h.pa.2.2.1.isMap
  exact ⟨lt_of_at h.pa.1, h.da.low.1, h.da.low.2, lt_of_at a, lt_of_at b⟩

theorem PD.stay (h : PD w p g bm ml mt P S) (hf : Fr (fun _ => False) w w') : PD w' p g bm ml mt P S := ⟨h.pa.stay hf, h.da.stay hf, h.n1, h.n2⟩

/-- Blocks of cells of another type are none of a pager's. -/
theorem PD.apart (h : PD w p g bm ml mt P S) {b : Nat} {c : Array Value} {T : TypeId} (hb : w.heap[b]? = some (.cells c T)) (h1 : T ≠ 70) (h2 : T ≠ 92) : ¬ inPD p g bm ml mt b := by
  obtain ⟨ea, ca, a⟩ := h.pa.2.1.isMap
  obtain ⟨eb, cb, b'⟩ := h.pa.2.2.1.isMap
  obtain ⟨ec, cc, c'⟩ := h.da.isMap
  obtain ⟨cd, d⟩ := h.da.isDisk
  have hp := h.pa.1
  rintro (e | e | e | e | e) <;> subst e
  · rw [hp] at hb; injection hb with hb; injection hb with _ e; exact h1 e.symm
  · rw [d] at hb; injection hb with hb; injection hb with _ e; exact h2 e.symm
  · rw [c'] at hb; cases hb
  · rw [a] at hb; cases hb
  · rw [b'] at hb; cases hb

/-- The disk turns. -/
theorem PD.dturn (h : PD w p g bm ml mt P S) {bm' : Nat} (hA : At w' g bm' S') (hb : bm' = bm ∨ w.heap.size ≤ bm') (hf : Fr (fun i => i = g ∨ i = bm) w w') : PD w' p g bm' ml mt P S' := by
  have hn := h.ne
  have hl := h.lt
  obtain ⟨⟨h1, h2, h3, h4⟩, h5, h6, h7⟩ := h
  exact ⟨⟨hf.at h1 (by omega), h2.keep hf (by omega), h3.keep hf (by omega), h4⟩, hA, by omega, by omega⟩

/-- The pager turns. -/
theorem PD.pturn (h : PD w p g bm ml mt P S) {ml' : Nat} (hA : PAt w' p g ml' mt P') (hb : ml' = ml ∨ w.heap.size ≤ ml') (hf : Fr (fun i => i = p ∨ i = ml ∨ i = mt) w w') : PD w' p g bm ml' mt P' S := by
  have hn := h.ne
  have hl := h.lt
  obtain ⟨⟨h1, h2, h3, h4⟩, h5, h6, h7⟩ := h
  refine ⟨hA, h5.keep hf (by omega) (by omega) (fun b cur hb' e => ?_), by omega, h7⟩
  obtain ⟨ea, ca, a⟩ := h2.isMap
  obtain ⟨eb, cb, b'⟩ := h3.isMap
  rcases e with e | e | e <;> subst e
  · rw [h1] at hb'; injection hb' with hb'; injection hb' with _ e; exact absurd e (by decide)
  · rw [a] at hb'; cases hb'
  · rw [b'] at hb'; cases hb'
end

/-- A pager and its disk turn; nothing else does. -/
def PTurn (w w' : World) (p g bm ml mt : Nat) (P' : PSt) (S' : St) : Prop :=
  ∃ bm' ml', PD w' p g bm' ml' mt P' S' ∧ (bm' = bm ∨ w.heap.size ≤ bm') ∧ (ml' = ml ∨ w.heap.size ≤ ml') ∧ Fr (inPD p g bm ml mt) w w'

theorem PTurn.self {w w' : World} {p g bm ml mt : Nat} {P : PSt} {S : St} (h : PD w p g bm ml mt P S) (hf : Fr (fun _ => False) w w') : PTurn w w' p g bm ml mt P S :=
  ⟨bm, ml, h.stay hf, Or.inl rfl, Or.inl rfl, fr_no hf⟩

theorem palloc_c (w : World) (p g bm ml mt : Nat) (P : PSt) (S : St) (h : PD w p g bm ml mt P S) (hP : P.Ok S.n) :
    Calls Tryz.prog 19 #[.pointer (some ⟨p, 0, none⟩)] w fun e w' => e = .returned (.tuple #[.int .i64 P.alloc.2.1, .int .i64 P.alloc.2.2]) ∧ PD w' p g bm ml mt P.alloc.1 S ∧ Fr (fun i => i = mt) w w' :=
  (alloc_c w p g ml mt P h.pa hP.p2 hP.tk).mono fun e w' ⟨h1, h2, h3⟩ => ⟨h1, h.pturn h2 (Or.inl rfl) (h3.mono (fun i _ e => Or.inr (Or.inr e))), h3⟩
theorem pdrop_c (w : World) (p g bm ml mt : Nat) (P : PSt) (S : St) (h : PD w p g bm ml mt P S) :
    Calls Tryz.prog 25 #[.pointer (some ⟨p, 0, none⟩)] w fun e w' => e = .returned (.tuple #[]) ∧ PD w' p g bm ml mt P.drop S ∧ Fr (fun i => i = mt) w w' :=
  (drop_c w p g ml mt P h.pa).mono fun e w' ⟨h1, h2, h3⟩ => ⟨h1, h.pturn h2 (Or.inl rfl) (h3.mono (fun i _ e => Or.inr (Or.inr e))), h3⟩
theorem ptold_d (w : World) (p g bm ml mt : Nat) (P : PSt) (S : St) (h : PD w p g bm ml mt P S) (c : Int) :
    Calls Tryz.prog 63 #[.pointer (some ⟨p, 0, none⟩), .int .i64 c] w fun x w' => x = .returned (.int .i64 c) ∧ PD w' p g bm ml mt (P.told c) S ∧ Fr (· = p) w w' :=
  (ptold_c w p g ml mt P h.pa c).mono fun e w' ⟨h1, h2, h3⟩ => ⟨h1, h.pturn h2 (Or.inl rfl) (h3.mono (fun i _ e => Or.inl e)), h3⟩

end Go.Proofs.YtjkhcfdflcndkaaGreat.D

/-
  The contracts of Go's library at this translation, laid by the kit's own commands in plain words. No condition beyond those that each theorem names.
-/
namespace Go.Proofs
open Go.Shelf
def Tryz.lays105_ren : Go.Shelf.Ren := ⟨fun | 105 => 51 | 212 => 86 | 99 => 87 | 165 => 88 | 166 => 81 | 170 => 89 | 169 => 83 | 263 => 100 | 264 => 101 | 206 => 102 | 240 => 99 | 241 => 103 | 276 => 107 | 277 => 108 | n => n, fun | 9 => 9 | 3 => 3 | 4 => 4 | 20 => 20 | 0 => 0 | 46 => 115 | 109 => 116 | 5 => 5 | 72 => 107 | 76 => 110 | 51 => 125 | 146 => 126 | 53 => 112 | 148 => 128 | 70 => 105 | 37 => 60 | 75 => 109 | 127 => 124 | 164 => 133 | 80 => 43 | n => n, fun | n => n⟩
theorem Tryz.lays105 : Go.Proofs.Lays.n105 Tryz.prog Tryz.lays105_ren := {
  mixed := by kernel_rfl
  f99 := Tryz.func87.trans (congrArg some (by kernel_rfl))
  f105 := Tryz.func51.trans (congrArg some (by kernel_rfl))
  f165 := Tryz.func88.trans (congrArg some (by kernel_rfl))
  f166 := Tryz.func81.trans (congrArg some (by kernel_rfl))
  f169 := Tryz.func83.trans (congrArg some (by kernel_rfl))
  f170 := Tryz.func89.trans (congrArg some (by kernel_rfl))
  f206 := Tryz.func102.trans (congrArg some (by kernel_rfl))
  f212 := Tryz.func86.trans (congrArg some (by kernel_rfl))
  f240 := Tryz.func99.trans (congrArg some (by kernel_rfl))
  f241 := Tryz.func103.trans (congrArg some (by kernel_rfl))
  f263 := Tryz.func100.trans (congrArg some (by kernel_rfl))
  f264 := Tryz.func101.trans (congrArg some (by kernel_rfl))
  f276 := Tryz.func107.trans (congrArg some (by kernel_rfl))
  f277 := Tryz.func108.trans (congrArg some (by kernel_rfl))
  t0 := Tryz.underlying0
  a0 := Tryz.isAgg0
  z0 := Tryz.sizeOf0
  v0 := Tryz.zeroValue0
  t3 := Tryz.underlying3
  a3 := Tryz.isAgg3
  z3 := Tryz.sizeOf3
  v3 := Tryz.zeroValue3
  t4 := Tryz.underlying4
  a4 := Tryz.isAgg4
  z4 := Tryz.sizeOf4
  v4 := Tryz.zeroValue4
  t5 := Tryz.underlying5
  a5 := Tryz.isAgg5
  z5 := Tryz.sizeOf5
  v5 := Tryz.zeroValue5
  t9 := Tryz.underlying9
  a9 := Tryz.isAgg9
  z9 := Tryz.sizeOf9
  v9 := Tryz.zeroValue9
  t20 := Tryz.underlying20
  a20 := Tryz.isAgg20
  z20 := Tryz.sizeOf20
  v20 := Tryz.zeroValue20
  t37 := Tryz.underlying60
  a37 := Tryz.isAgg60
  z37 := Tryz.sizeOf60
  v37 := Tryz.zeroValue60
  t46 := Tryz.underlying115
  a46 := Tryz.isAgg115
  z46 := Tryz.sizeOf115
  v46 := Tryz.zeroValue115
  t51 := Tryz.underlying125
  a51 := Tryz.isAgg125
  z51 := Tryz.sizeOf125
  v51 := Tryz.zeroValue125
  t53 := Tryz.underlying112
  a53 := Tryz.isAgg112
  z53 := Tryz.sizeOf112
  v53 := Tryz.zeroValue112
  t70 := Tryz.underlying105
  a70 := Tryz.isAgg105
  z70 := Tryz.sizeOf105
  v70 := Tryz.zeroValue105
  t72 := Tryz.underlying107
  a72 := Tryz.isAgg107
  z72 := Tryz.sizeOf107
  v72 := Tryz.zeroValue107
  t75 := Tryz.underlying109
  a75 := Tryz.isAgg109
  z75 := Tryz.sizeOf109
  v75 := Tryz.zeroValue109
  t76 := Tryz.underlying110
  a76 := Tryz.isAgg110
  z76 := Tryz.sizeOf110
  v76 := Tryz.zeroValue110
  t109 := Tryz.underlying116
  a109 := Tryz.isAgg116
  z109 := Tryz.sizeOf116
  v109 := Tryz.zeroValue116
  t127 := Tryz.underlying124
  a127 := Tryz.isAgg124
  z127 := Tryz.sizeOf124
  v127 := Tryz.zeroValue124
  t146 := Tryz.underlying126
  a146 := Tryz.isAgg126
  z146 := Tryz.sizeOf126
  v146 := Tryz.zeroValue126
  t148 := Tryz.underlying128
  a148 := Tryz.isAgg128
  z148 := Tryz.sizeOf128
  v148 := Tryz.zeroValue128
  t164 := Tryz.underlying133
  a164 := Tryz.isAgg133
  z164 := Tryz.sizeOf133
  v164 := Tryz.zeroValue133 }
theorem Tryz.Builder_Extra_105 : Builder.Extra Tryz.prog Tryz.lays105_ren := {
  sizeBuilder := by kernel_rfl
  liesBuilder := by kernel_rfl
  t5 := Tryz.underlying5
  a5 := Tryz.isAgg5
  z5 := Tryz.sizeOf5
  v5 := Tryz.zeroValue5
  infoByte := by kernel_rfl
  cellsByte := by kernel_rfl
  sizeByte := by kernel_rfl
  neB5 := by decide }
open Go.RowKit Go.Lib in
/-- THE MAIN CASE: at least two copies of a string that is not empty. (LAID: no walk: one application.) -/
theorem Tryz.strings_Repeat_main (s : ByteArray) (c : Nat) (w : World) (hc2 : 2 ≤ c) (hc : c ≤ 9223372036854775807) (hlen : s.size * c ≤ 140737488355328) (h0 : 0 < s.size) :
    Calls Tryz.prog 51 #[.string s, .int .i64 c] w fun e w' => e = .returned (.string ⟨(Lib.repeatL s.data.toList c).toArray⟩) ∧ Below w.heap.size w w' := Any.strings_Repeat_main Tryz.lays105 Tryz.Builder_Extra_105 s c w hc2 hc hlen h0
open Go.RowKit Go.Lib in
/-- **strings.Repeat: count ≥ 0, the result within one allocation: count copies of s.** (LAID: no walk: one application.) -/
theorem Tryz.strings_Repeat (s : ByteArray) (c : Nat) (w : World) (hc : c ≤ 9223372036854775807) (hlen : s.size * c ≤ 140737488355328) :
    Calls Tryz.prog 51 #[.string s, .int .i64 c] w fun e w' => e = .returned (.string ⟨(Lib.repeatL s.data.toList c).toArray⟩) ∧ Below w.heap.size w w' := Any.strings_Repeat Tryz.lays105 Tryz.Builder_Extra_105 s c w hc hlen

end Go.Proofs

/-
  A pager's Write, Live. No condition beyond the sizes that are named.
-/
namespace Go.Proofs.YtjkhcfdflcndkaaGreat.D
open Go.RowKit Go.Maps Go.Shelf
set_option linter.unusedVariables false
set_option linter.unusedSimpArgs false

theorem repeatL_zero : ∀ c : Nat, Lib.repeatL [(0 : UInt8)] c = List.replicate c 0
  | 0 => rfl
  | c + 1 => by
    have ih := repeatL_zero c
    show 0 :: Lib.repeatL [(0 : UInt8)] c = _
    rw [ih, List.replicate_succ]

theorem repeat_c (w : World) (c : Nat) (hc : c ≤ 1000000) :
    Calls Tryz.prog 51 #[.string (bs [0]), .int .i64 c] w fun e w' => e = .returned (.string (bs (List.replicate c 0))) ∧ Fr (fun _ => False) w w' := by
  have hz : (bs [0]).size = 1 := rfl
  refine (Tryz.strings_Repeat (bs [0]) c w (by omega) (by rw [hz]; omega)).mono ?_
  rintro e w' ⟨rfl, hb⟩
  refine ⟨?_, Fr.below hb _⟩
  rw [show (bs [0]).data.toList = [0] from rfl, repeatL_zero]

def PWriteC (w : World) (p g bm ml mt : Nat) (P : PSt) (S : St) (k : Int) (l : List UInt8) : Prop :=
  Calls Tryz.prog 21 #[.pointer (some ⟨p, 0, none⟩), .int .i64 k, .string (bs l)] w fun e w' => e = .returned (.int .i64 (P.write S k l).2.2) ∧ PTurn w w' p g bm ml mt (P.write S k l).1 (P.write S k l).2.1

section
variable (w : World) (p g bm ml mt : Nat) (P : PSt) (S : St) (h : PD w p g bm ml mt P S) (k : Int) (l : List UInt8)
include h
set_option maxRecDepth 100000 in
theorem pwrite_dead (h1 : -9223372036854775808 ≤ k) (h2 : k ≤ 9223372036854775807) (hd : P.dead = true) : PWriteC w p g bm ml mt P S k l := by
  have HD := hid h
  have HE := hid (show P.write S k l = (P, S, 2) by unfold PSt.write; rw [if_pos hd])
  have c7 : w.cell? ⟨p, 7, none⟩ = some (.map (some mt)) := cell_at h.pa.1 7
  have c8 : ∀ W, Fr (fun _ => False) w W → W.cell? ⟨p, 8, none⟩ = some (.bool true) := fun W hf => hd ▸ cell_at ((hf.at h.pa.1 (fun f => f))) 8
  have e1 := h.pa.2.2.1.look k h1 h2
  have hf1 : Fr (fun _ => False) w (w.alloc (.cells #[] 94)) := (Fr.refl _ w).alloc _
  have k8 := c8 _ hf1
  obtain ⟨a, ha⟩ : ∃ a, a = P.taken k := ⟨_, rfl⟩
  rw [← ha] at e1
  have HF := hid hf1
  unfold PWriteC
  rw [HE.out]
  clear h hd c8 hf1 ha
  cases a <;>
  · go_enter Tryz.func21, Tryz.ntmps21
    go_wp2_with fail
    go_ret
    exact ⟨rfl, PTurn.self HD.out HF.out⟩

set_option maxRecDepth 100000 in
theorem pwrite_long (h1 : -9223372036854775808 ≤ k) (h2 : k ≤ 9223372036854775807) (hd : P.dead = false) (hl : 512 < l.length) (hl2 : l.length ≤ 9223372036854775807) : PWriteC w p g bm ml mt P S k l := by
  have HD := hid h
  have HE := hid (show P.write S k l = (P, S, 193) by unfold PSt.write; rw [if_neg (by simp [hd]), if_pos hl])
  have c7 : w.cell? ⟨p, 7, none⟩ = some (.map (some mt)) := cell_at h.pa.1 7
  have c8 : ∀ W, Fr (fun _ => False) w W → W.cell? ⟨p, 8, none⟩ = some (.bool false) := fun W hf => hd ▸ cell_at ((hf.at h.pa.1 (fun f => f))) 8
  have e1 := h.pa.2.2.1.look k h1 h2
  have hf1 : Fr (fun _ => False) w (w.alloc (.cells #[] 94)) := (Fr.refl _ w).alloc _
  have k8 := c8 _ hf1
  obtain ⟨a, ha⟩ : ∃ a, a = P.taken k := ⟨_, rfl⟩
  rw [← ha] at e1
  have HF := hid hf1
  unfold PWriteC
  rw [HE.out]
  clear h hd c8 hf1 ha
  cases a <;>
  · go_enter Tryz.func21, Tryz.ntmps21
    go_wp2_with fail
    go_ret
    exact ⟨rfl, PTurn.self HD.out HF.out⟩

set_option maxRecDepth 100000 in
theorem pwrite_not (h1 : -9223372036854775808 ≤ k) (h2 : k ≤ 9223372036854775807) (hd : P.dead = false) (hl : ¬ 512 < l.length) (ht : P.taken k = false) : PWriteC w p g bm ml mt P S k l := by
  have HD := hid h
  have HE := hid (show P.write S k l = (P, S, 191) by unfold PSt.write; rw [if_neg (by simp [hd]), if_neg hl, if_pos ht])
  have c7 : w.cell? ⟨p, 7, none⟩ = some (.map (some mt)) := cell_at h.pa.1 7
  have c8 : ∀ W, Fr (fun _ => False) w W → W.cell? ⟨p, 8, none⟩ = some (.bool false) := fun W hf => hd ▸ cell_at ((hf.at h.pa.1 (fun f => f))) 8
  have e1 := h.pa.2.2.1.look k h1 h2
  have hf1 : Fr (fun _ => False) w (w.alloc (.cells #[] 94)) := (Fr.refl _ w).alloc _
  have k8 := c8 _ hf1
  rw [ht] at e1
  have HF := hid hf1
  unfold PWriteC
  rw [HE.out]
  clear h hd c8 hf1 ht
  go_enter Tryz.func21, Tryz.ntmps21
  go_wp2_with fail
  go_ret
  exact ⟨rfl, PTurn.self HD.out HF.out⟩

set_option maxHeartbeats 4000000 in
set_option maxRecDepth 100000 in
theorem pwrite_go (hS : S.Ok) (hP : P.Ok S.n) (hd : P.dead = false) (hl : ¬ 512 < l.length) (ht : P.taken k = true) : PWriteC w p g bm ml mt P S k l := by
  have HD := hid h
  obtain ⟨hk0, hk1⟩ := hP.tk k ht
  obtain ⟨R, hR⟩ : ∃ R, R = S.write ((P.first : Int) + 8 * k) (l ++ List.replicate (512 - l.length) 0) := ⟨_, rfl⟩
  have HE := hid (show P.write S k l = (P.told R.2, R.1, R.2) by rw [hR]; unfold PSt.write; rw [if_neg (by simp [hd]), if_neg hl, if_neg (by simp [ht])])
  have hpn : P.pages ≤ 4096 := hP.p2
  have hfn : P.first ≤ 4096 := by have := hP.area; have := hS.n2; omega
  have c7 : w.cell? ⟨p, 7, none⟩ = some (.map (some mt)) := cell_at h.pa.1 7
  have c8 : ∀ W, Fr (fun _ => False) w W → W.cell? ⟨p, 8, none⟩ = some (.bool false) := fun W hf => hd ▸ cell_at ((hf.at h.pa.1 (fun f => f))) 8
  have e1 := h.pa.2.2.1.look k (by omega) (by omega)
  obtain ⟨W1, hW1⟩ : ∃ W1, W1 = w.alloc (.cells #[] 94) := ⟨_, rfl⟩
  have hf1 : Fr (fun _ => False) w W1 := hW1 ▸ (Fr.refl _ w).alloc _
  have k8 := c8 _ hf1
  rw [hW1] at k8
  rw [ht] at e1
  have HF := hid hf1
  have HW := hid hW1
  have x1 : IntKind.i64.wrap (8 * k) = 8 * k := by rw [IntKind.wrap_i64]; omega
  have x2 : IntKind.i64.wrap ((P.first : Int) + 8 * k) = (P.first : Int) + 8 * k := by rw [IntKind.wrap_i64]; omega
  have hlk : ((512 : Int) - l.length) = ((512 - l.length : Nat) : Int) := by omega
  have HREP := hid (fun W : World => repeat_c W (512 - l.length) (by omega))
  rw [← hlk] at HREP
  have x3 : IntKind.i64.wrap ((512 : Int) - l.length) = (512 : Int) - l.length := by rw [IntKind.wrap_i64]; omega
  have HWR := hid (fun (W : World) (hA : At W g bm S) => show Calls Tryz.prog 53 #[.pointer (some ⟨g, 0, none⟩), .int .i64 ((P.first : Int) + 8 * k), .string (bs (l ++ List.replicate (512 - l.length) 0))] W fun e w' => e = .returned (.int .i64 R.2) ∧ (∃ bm', At w' g bm' R.1 ∧ (bm' = bm ∨ W.heap.size ≤ bm')) ∧ Fr (fun i => i = g ∨ i = bm) W w' by
    have := write_c W g bm S hA hS ((P.first : Int) + 8 * k) (by omega) (by omega) (l ++ List.replicate (512 - l.length) 0) (by simp; omega)
    unfold WriteC at this
    rw [← hR] at this
    exact this)
  obtain ⟨Z, hZ⟩ : ∃ Z : List UInt8, Z = List.replicate (512 - l.length) 0 := ⟨_, rfl⟩
  rw [← hZ] at HWR HREP
  have HLZ := hid (show l.length + Z.length ≤ 512 by rw [hZ, List.length_replicate]; omega)
  unfold PWriteC
  rw [HE.out]
  have HP := hid hP
  clear h hd c8 hf1 ht hW1 hR hlk hZ hS hP
  go_enter Tryz.func21, Tryz.ntmps21
  go_wp2_with fail
  rw [← HW.out]
  have HD1 := hid (HD.out.stay HF.out)
  have HD2 := hid (HD1.out.stay ((Fr.refl _ W1).drew))
  have k0 : W1.drew.cell? ⟨p, 0, none⟩ = some (.pointer (some ⟨g, 0, none⟩)) := cell_at HD2.out.pa.1 0
  have k1 : W1.drew.cell? ⟨p, 1, none⟩ = some (.int .i64 P.first) := cell_at HD2.out.pa.1 1
  have cat : ¬ (9223372036854775807 < l.length + Z.length) := by have := HLZ.out; omega
  have cat2 : l.length + Z.length ≤ 9223372036854775807 := by have := HLZ.out; omega
  clear c7 k8 e1
  go_region_held3 (fun w' => w'.cell? ⟨p, 0, none⟩ = some (.pointer (some ⟨g, 0, none⟩)) ∧ w'.cell? ⟨p, 1, none⟩ = some (.int .i64 P.first))
    (first | exact ⟨k0, k1⟩ | exact ⟨cell_at (by assumption) 0, cell_at (by assumption) 1⟩ | go_keep)
    (first
      | (go_at_call 51; refine (HREP.out _).mono ?_; rintro e w2 ⟨rfl, hf2⟩; have hD2 := HD2.out.stay hf2; have hp2 := hD2.pa.1)
      | (go_at_call 53; refine (HWR.out _ hD2.da).mono ?_; rintro e w3 ⟨rfl, ⟨bm3, hA3, hb3⟩, hf3⟩; have hD3 := hD2.dturn hA3 hb3 hf3; have hp3 := hD3.pa.1)
      | (go_at_call 63; refine (ptold_d _ p g bm3 ml mt P R.1 hD3 R.2).mono ?_; rintro e w4 ⟨rfl, hD4, hf4⟩; have hp4 := hD4.pa.1))
  all_goals
    go_wp2_with fail
    go_ret
    refine ⟨rfl, bm3, ml, hD4, ?_, Or.inl rfl, ?_⟩
    · have h1 := HF.out.size
      have h2 := hf2.size
      have h3 : W1.drew.heap.size = W1.heap.size := rfl
      omega
    · exact (((fr_no (HF.out.trans ((Fr.refl (fun _ => False) W1).drew) (fun _ _ f => f))).trans (fr_no hf2) (fun _ _ f => f)).trans hf3 (fun i _ e => by unfold inPD; omega)).trans hf4 (fun i _ e => Or.inl e)

theorem pwrite_c (hS : S.Ok) (hP : P.Ok S.n) (h1 : -9223372036854775808 ≤ k) (h2 : k ≤ 9223372036854775807) (hl2 : l.length ≤ 9223372036854775807) : PWriteC w p g bm ml mt P S k l := by
  cases hd : P.dead with
  | true => exact pwrite_dead w p g bm ml mt P S h k l h1 h2 hd
  | false =>
    by_cases hl : 512 < l.length
    · exact pwrite_long w p g bm ml mt P S h k l h1 h2 hd hl hl2
    · cases ht : P.taken k with
      | false => exact pwrite_not w p g bm ml mt P S h k l h1 h2 hd hl ht
      | true => exact pwrite_go w p g bm ml mt P S h k l hS hP hd hl ht
end

end Go.Proofs.YtjkhcfdflcndkaaGreat.D
