/-
  A pager in plain words: its heads, Format, Open, Live, Write, Commit; a pager and its disk in memory. No condition.
-/
import Derived.Test.YtjkhcfdflcndkaaGH
import Derived.Test.YtjkhcfdflcndkaaG9
namespace Go.Proofs.Ytjkhcfdflcndkaa.D
open Go.RowKit Go.Maps Go.Shelf
set_option linter.unusedVariables false
set_option linter.unusedSimpArgs false

def gOf (s : List UInt8) : Nat := val ((s.drop 4).take 8)
def rOf (s : List UInt8) : Nat := val ((s.drop 12).take 4)
def fOf (s : List UInt8) : Nat := val ((s.drop 16).take 8)
/-- Are these a head's bytes, in this sector? -/
def headOk (pages a : Nat) (s : List UInt8) : Bool :=
  decide (1 ≤ gOf s) && decide (gOf s ≤ 1152921504606846976) && decide (gOf s % 2 = a) && decide (rOf s ≤ pages) && decide (1 ≤ fOf s) && decide (fOf s ≤ 1152921504606846976) && decide (s = headB (gOf s) (rOf s) (fOf s))
/-- What a head's bytes tell; 0: they are none. -/
def parseP (pages a : Nat) (s : List UInt8) : Nat × Int × Nat := if headOk pages a s then (gOf s, (rOf s : Int) - 1, fOf s) else (0, 0, 0)

def none_ : Int → Bool := fun _ => false
def pickP (S : St) (c : Nat) : Nat × Int × Nat :=
  if (parseP c 0 (S.sec 0)).1 < (parseP c 1 (S.sec 1)).1 then parseP c 1 (S.sec 1) else parseP c 0 (S.sec 0)
def PSt.of (f c : Nat) (h : Nat × Int × Nat) : PSt := { first := f, pages := c, root := h.2.1, from_ := h.2.2, gen := h.1, live := none_, taken := none_, dead := false }
def openP (S : St) (f c : Int) : Option PSt × Int :=
  if pchk S f c 1 ≠ 0 then (none, pchk S f c 1) else if (pickP S c.toNat).1 = 0 then (none, 190) else (some (PSt.of f.toNat c.toNat (pickP S c.toNat)), 0)

/-- Format's two writes and its sync. -/
def fmtP (S : St) (n : Nat) : St × Int :=
  if (S.write 1 (List.replicate 64 0)).2 ≠ 0 then ((S.write 1 (List.replicate 64 0)).1, 2)
  else if ((S.write 1 (List.replicate 64 0)).1.write 0 (headB 2 0 n)).2 ≠ 0 then (((S.write 1 (List.replicate 64 0)).1.write 0 (headB 2 0 n)).1, 2)
  else if ((S.write 1 (List.replicate 64 0)).1.write 0 (headB 2 0 n)).1.sync.2 ≠ 0 then (((S.write 1 (List.replicate 64 0)).1.write 0 (headB 2 0 n)).1.sync.1, 2)
  else (((S.write 1 (List.replicate 64 0)).1.write 0 (headB 2 0 n)).1.sync.1, 0)
def formatP (S : St) (f c n : Int) : Option PSt × St × Int :=
  if pchk S f c n ≠ 0 then (none, S, pchk S f c n) else if (fmtP S n.toNat).2 ≠ 0 then (none, (fmtP S n.toNat).1, 2) else (some (PSt.of f.toNat c.toNat (2, -1, n.toNat)), (fmtP S n.toNat).1, 0)

def PSt.setLive (P : PSt) (l : List Int) : PSt × Int := if setOk P.is l then ({ P with live := fun i => l.contains i }, 0) else (P, 191)
def PSt.write (P : PSt) (S : St) (k : Int) (l : List UInt8) : PSt × St × Int :=
  if P.dead then (P, S, 2) else if 512 < l.length then (P, S, 193) else if P.taken k = false then (P, S, 191)
  else (P.told (S.write ((P.first : Int) + 8 * k) (l ++ List.replicate (512 - l.length) 0)).2, (S.write ((P.first : Int) + 8 * k) (l ++ List.replicate (512 - l.length) 0)).1, (S.write ((P.first : Int) + 8 * k) (l ++ List.replicate (512 - l.length) 0)).2)

/-- May these be live, with this root? -/
def PSt.mayCommit (P : PSt) (root : Int) (l : List Int) : Bool := setOk (fun i => P.is i && P.used i) l && (decide (root = -1) || l.contains root)
def PSt.head (P : PSt) (S : St) (root fr : Int) : St × Int := S.write (((P.gen + 1) % 2 : Nat) : Int) (headB (P.gen + 1) (root + 1).toNat fr.toNat)
def PSt.goes (P : PSt) (S : St) (root fr : Int) (l : List Int) : PSt × St × Int :=
  if S.sync.2 ≠ 0 then (P.told S.sync.2, S.sync.1, S.sync.2)
  else if (P.head S.sync.1 root fr).2 ≠ 0 then (P.told (P.head S.sync.1 root fr).2, (P.head S.sync.1 root fr).1, (P.head S.sync.1 root fr).2)
  else if (P.head S.sync.1 root fr).1.sync.2 ≠ 0 then (P.told (P.head S.sync.1 root fr).1.sync.2, (P.head S.sync.1 root fr).1.sync.1, (P.head S.sync.1 root fr).1.sync.2)
  else ({ P with gen := P.gen + 1, root := root, from_ := fr.toNat, live := fun i => l.contains i, taken := fun _ => false }, (P.head S.sync.1 root fr).1.sync.1, 0)
def PSt.commit (P : PSt) (S : St) (root fr : Int) (l : List Int) : PSt × St × Int :=
  if P.dead then (P, S, 2) else if P.mayCommit root l = false then (P, S, 191)
  else if fr < 1 ∨ 1152921504606846976 < fr ∨ 1152921504606846976 ≤ P.gen then (P, S, 190) else P.goes S root fr l

/-! ### a pager and its disk -/
structure PD (w : World) (p g bm ml mt : Nat) (P : PSt) (S : St) : Prop where
  pa : PAt w p g ml mt P
  da : At w g bm S
  n1 : bm ≠ ml
  n2 : bm ≠ mt

def inPD (p g bm ml mt : Nat) : Nat → Prop := fun i => i = p ∨ i = g ∨ i = bm ∨ i = ml ∨ i = mt

section
variable {w w' : World} {p g bm ml mt : Nat} {P P' : PSt} {S S' : St}

theorem SetAt.isMap {b : Nat} {f : Int → Bool} (h : SetAt w b f) : ∃ es c, w.heap[b]? = some (.map es c) := by
  obtain ⟨n, D, ⟨es, clock, hb, _⟩, _⟩ := h
  exact ⟨es, clock, hb⟩
theorem At.isMap (h : At w g bm S) : ∃ es c, w.heap[bm]? = some (.map es c) := by
  obtain ⟨_, m, D, ⟨es, clock, hb, _⟩, _⟩ := h
  exact ⟨es, clock, hb⟩
theorem At.isDisk (h : At w g bm S) : ∃ c, w.heap[g]? = some (.cells c 65) := by
  obtain ⟨⟨kv, h1, _⟩, _⟩ := h
  exact ⟨_, h1⟩

theorem PD.ne (h : PD w p g bm ml mt P S) : p ≠ g ∧ p ≠ bm ∧ p ≠ ml ∧ p ≠ mt ∧ g ≠ bm ∧ g ≠ ml ∧ g ≠ mt ∧ ml ≠ mt := by
  obtain ⟨⟨h1, h2, h3, h4⟩, h5, h6, h7⟩ := h
  obtain ⟨ea, ca, a⟩ := h2.isMap
  obtain ⟨eb, cb, b⟩ := h3.isMap
  obtain ⟨ec, cc, c⟩ := h5.isMap
  obtain ⟨cd, d⟩ := h5.isDisk
  refine ⟨?_, ?_, ?_, ?_, ?_, ?_, ?_, h4⟩
  · rintro rfl
    rw [h1] at d
    injection d with d
    injection d with _ e
    exact absurd e (by decide)
  · rintro rfl; rw [h1] at c; cases c
  · rintro rfl; rw [h1] at a; cases a
  · rintro rfl; rw [h1] at b; cases b
  · rintro rfl; rw [d] at c; cases c
  · rintro rfl; rw [d] at a; cases a
  · rintro rfl; rw [d] at b; cases b

theorem PD.lt (h : PD w p g bm ml mt P S) : p < w.heap.size ∧ g < w.heap.size ∧ bm < w.heap.size ∧ ml < w.heap.size ∧ mt < w.heap.size := by
  obtain ⟨ea, ca, a⟩ := h.pa.2.1.isMap
  obtain ⟨eb, cb, b⟩ := h.pa.2.2.1.isMap
  exact ⟨lt_of_at h.pa.1, h.da.low.1, h.da.low.2, lt_of_at a, lt_of_at b⟩

theorem PD.stay (h : PD w p g bm ml mt P S) (hf : Fr (fun _ => False) w w') : PD w' p g bm ml mt P S := ⟨h.pa.stay hf, h.da.stay hf, h.n1, h.n2⟩

/-- Blocks of cells of another type are none of a pager's. -/
theorem PD.apart (h : PD w p g bm ml mt P S) {b : Nat} {c : Array Value} {T : TypeId} (hb : w.heap[b]? = some (.cells c T)) (h1 : T ≠ 56) (h2 : T ≠ 65) : ¬ inPD p g bm ml mt b := by
  obtain ⟨ea, ca, a⟩ := h.pa.2.1.isMap
  obtain ⟨eb, cb, b'⟩ := h.pa.2.2.1.isMap
  obtain ⟨ec, cc, c'⟩ := h.da.isMap
  obtain ⟨cd, d⟩ := h.da.isDisk
  have hp := h.pa.1
  rintro (e | e | e | e | e) <;> subst e
  · rw [hp] at hb; injection hb with hb; injection hb with _ e; exact h1 e.symm
  · rw [d] at hb; injection hb with hb; injection hb with _ e; exact h2 e.symm
  · rw [c'] at hb; cases hb
  · rw [a] at hb; cases hb
  · rw [b'] at hb; cases hb

/-- The disk turns. -/
theorem PD.dturn (h : PD w p g bm ml mt P S) {bm' : Nat} (hA : At w' g bm' S') (hb : bm' = bm ∨ w.heap.size ≤ bm') (hf : Fr (fun i => i = g ∨ i = bm) w w') : PD w' p g bm' ml mt P S' := by
  have hn := h.ne
  have hl := h.lt
  obtain ⟨⟨h1, h2, h3, h4⟩, h5, h6, h7⟩ := h
  exact ⟨⟨hf.at h1 (by omega), h2.keep hf (by omega), h3.keep hf (by omega), h4⟩, hA, by omega, by omega⟩

/-- The pager turns. -/
theorem PD.pturn (h : PD w p g bm ml mt P S) {ml' : Nat} (hA : PAt w' p g ml' mt P') (hb : ml' = ml ∨ w.heap.size ≤ ml') (hf : Fr (fun i => i = p ∨ i = ml ∨ i = mt) w w') : PD w' p g bm ml' mt P' S := by
  have hn := h.ne
  have hl := h.lt
  obtain ⟨⟨h1, h2, h3, h4⟩, h5, h6, h7⟩ := h
  refine ⟨hA, h5.keep hf (by omega) (by omega) (fun b cur hb' e => ?_), by omega, h7⟩
  obtain ⟨ea, ca, a⟩ := h2.isMap
  obtain ⟨eb, cb, b'⟩ := h3.isMap
  rcases e with e | e | e <;> subst e
  · rw [h1] at hb'; injection hb' with hb'; injection hb' with _ e; exact absurd e (by decide)
  · rw [a] at hb'; cases hb'
  · rw [b'] at hb'; cases hb'
end

/-- A pager and its disk turn; nothing else does. -/
def PTurn (w w' : World) (p g bm ml mt : Nat) (P' : PSt) (S' : St) : Prop :=
  ∃ bm' ml', PD w' p g bm' ml' mt P' S' ∧ (bm' = bm ∨ w.heap.size ≤ bm') ∧ (ml' = ml ∨ w.heap.size ≤ ml') ∧ Fr (inPD p g bm ml mt) w w'

theorem PTurn.self {w w' : World} {p g bm ml mt : Nat} {P : PSt} {S : St} (h : PD w p g bm ml mt P S) (hf : Fr (fun _ => False) w w') : PTurn w w' p g bm ml mt P S :=
  ⟨bm, ml, h.stay hf, Or.inl rfl, Or.inl rfl, fr_no hf⟩

theorem palloc_c (w : World) (p g bm ml mt : Nat) (P : PSt) (S : St) (h : PD w p g bm ml mt P S) (hP : P.Ok S.n) :
    Calls Try.prog 6 #[.pointer (some ⟨p, 0, none⟩)] w fun e w' => e = .returned (.tuple #[.int .i64 P.alloc.2.1, .int .i64 P.alloc.2.2]) ∧ PD w' p g bm ml mt P.alloc.1 S ∧ Fr (fun i => i = mt) w w' :=
  (alloc_c w p g ml mt P h.pa hP.p2 hP.tk).mono fun e w' ⟨h1, h2, h3⟩ => ⟨h1, h.pturn h2 (Or.inl rfl) (h3.mono (fun i _ e => Or.inr (Or.inr e))), h3⟩
theorem pdrop_c (w : World) (p g bm ml mt : Nat) (P : PSt) (S : St) (h : PD w p g bm ml mt P S) :
    Calls Try.prog 8 #[.pointer (some ⟨p, 0, none⟩)] w fun e w' => e = .returned (.tuple #[]) ∧ PD w' p g bm ml mt P.drop S ∧ Fr (fun i => i = mt) w w' :=
  (drop_c w p g ml mt P h.pa).mono fun e w' ⟨h1, h2, h3⟩ => ⟨h1, h.pturn h2 (Or.inl rfl) (h3.mono (fun i _ e => Or.inr (Or.inr e))), h3⟩
theorem ptold_d (w : World) (p g bm ml mt : Nat) (P : PSt) (S : St) (h : PD w p g bm ml mt P S) (c : Int) :
    Calls Try.prog 33 #[.pointer (some ⟨p, 0, none⟩), .int .i64 c] w fun x w' => x = .returned (.int .i64 c) ∧ PD w' p g bm ml mt (P.told c) S ∧ Fr (· = p) w w' :=
  (ptold_c w p g ml mt P h.pa c).mono fun e w' ⟨h1, h2, h3⟩ => ⟨h1, h.pturn h2 (Or.inl rfl) (h3.mono (fun i _ e => Or.inl e)), h3⟩

end Go.Proofs.Ytjkhcfdflcndkaa.D
