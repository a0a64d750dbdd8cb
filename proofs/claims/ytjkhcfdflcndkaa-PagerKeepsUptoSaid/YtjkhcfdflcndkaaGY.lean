/-
  A pager and its disk in blocks that the call made; fixed: it is true. No condition.
-/
import Derived.Test.YtjkhcfdflcndkaaGX
import Derived.Deep.RegionWith
namespace Go.Proofs.Ytjkhcfdflcndkaa.D
open Go.RowKit Go.Maps Go.Shelf
set_option linter.unusedVariables false
set_option linter.unusedSimpArgs false

structure PW (w0 W : World) (p g bm ml mt : Nat) (P : PSt) (S : St) : Prop where
  pd : PD W p g bm ml mt P S
  fr : Fr (fun _ => False) w0 W
  low : w0.heap.size ≤ p ∧ w0.heap.size ≤ g ∧ w0.heap.size ≤ bm ∧ w0.heap.size ≤ ml ∧ w0.heap.size ≤ mt

section
variable {w0 W W' : World} {p g bm ml mt : Nat} {P P' : PSt} {S S' : St}
theorem PW.turn (h : PW w0 W p g bm ml mt P S) (t : PTurn W W' p g bm ml mt P' S') : ∃ bm' ml', PW w0 W' p g bm' ml' mt P' S' := by
  obtain ⟨bm', ml', h1, h2, h3, h4⟩ := t
  have hl := h.low
  have hs := h.fr.size
  refine ⟨bm', ml', h1, h.fr.trans h4 (fun i hi e => ?_), by omega⟩
  unfold inPD at e
  omega
theorem PW.dturn (h : PW w0 W p g bm ml mt P S) {bm' : Nat} (hA : At W' g bm' S') (hb : bm' = bm ∨ W.heap.size ≤ bm') (hf : Fr (fun i => i = g ∨ i = bm) W W') : PW w0 W' p g bm' ml mt P S' := by
  have hl := h.low
  have hs := h.fr.size
  exact ⟨h.pd.dturn hA hb hf, h.fr.trans hf (fun i hi e => by omega), by omega⟩
theorem PW.mturn (h : PW w0 W p g bm ml mt P S) (hD : PD W' p g bm ml mt P' S) (hf : Fr (fun i => i = mt) W W') : PW w0 W' p g bm ml mt P' S := by
  have hl := h.low
  exact ⟨hD, h.fr.trans hf (fun i hi e => by omega), by omega⟩
theorem PW.stay (h : PW w0 W p g bm ml mt P S) (hf : Fr (fun _ => False) W W') : PW w0 W' p g bm ml mt P S := ⟨h.pd.stay hf, h.fr.trans hf (fun _ _ f => f), h.low⟩
/-- Other blocks stay while a pager turns. -/
theorem PD.other (h : PD W p g bm ml mt P S) (t : PTurn W W' p g bm ml mt P' S') {b : Nat} {c : Array Value} {T : TypeId} (hb : W.heap[b]? = some (.cells c T)) (h1 : T ≠ 56) (h2 : T ≠ 65) : W'.heap[b]? = some (.cells c T) := by
  obtain ⟨_, _, _, _, _, h4⟩ := t
  exact h4.at hb (h.apart hb h1 h2)
end

/-! ### the states are ones -/
theorem pick_ok {P : PSt} : ∀ d i, P.pages ≤ i + d → ∀ k, P.pick d i = some k → i ≤ k ∧ k < i + d
  | 0, i, _, k, h => by cases h
  | d + 1, i, hp, k, h => by
    rw [PSt.pick] at h
    split at h
    · have := pick_ok d (i + 1) (by omega) k h
      omega
    · cases h
      omega
theorem alloc_ok {P : PSt} {n : Nat} (h : P.Ok n) : P.alloc.1.Ok n := by
  unfold PSt.alloc
  cases hk : P.pick P.pages 0 with
  | none => exact h
  | some i =>
    have hi := pick_ok P.pages 0 (by omega) i hk
    refine ⟨h.f2, h.p1, h.p2, h.area, h.r1, h.r2, h.fr1, h.fr2, h.g1, h.g2, h.lv, fun j hj => ?_⟩
    have hj : (j == (i : Int) || P.taken j) = true := hj
    show 0 ≤ j ∧ j < (P.pages : Int)
    simp only [Bool.or_eq_true, beq_iff_eq] at hj
    rcases hj with e | e
    · omega
    · exact h.tk j e
theorem drop_ok {P : PSt} {n : Nat} (h : P.Ok n) : P.drop.Ok n := ⟨h.f2, h.p1, h.p2, h.area, h.r1, h.r2, h.fr1, h.fr2, h.g1, h.g2, h.lv, fun j hj => by cases hj⟩
theorem told_ok {P : PSt} {n : Nat} (h : P.Ok n) (e : Int) : (P.told e).Ok n := ⟨h.f2, h.p1, h.p2, h.area, h.r1, h.r2, h.fr1, h.fr2, h.g1, h.g2, h.lv, h.tk⟩
theorem live_ok {P : PSt} {n : Nat} (h : P.Ok n) (l : List Int) : (P.setLive l).1.Ok n := by
  unfold PSt.setLive
  split
  · rename_i hk
    refine ⟨h.f2, h.p1, h.p2, h.area, h.r1, h.r2, h.fr1, h.fr2, h.g1, h.g2, fun j hj => ?_, h.tk⟩
    exact is_true (((setOk_iff _ l).1 hk).1 j (List.contains_iff_mem.1 hj))
  · exact h
theorem pwrite_ok {P : PSt} {S : St} (hS : S.Ok) (h : P.Ok S.n) (k : Int) (l : List UInt8) : (P.write S k l).1.Ok S.n ∧ (P.write S k l).2.1.Ok ∧ (P.write S k l).2.1.n = S.n := by
  have hw := write_ok hS ((P.first : Int) + 8 * k) (l ++ List.replicate (512 - l.length) 0)
  unfold PSt.write
  split
  · exact ⟨h, hS, rfl⟩
  split
  · exact ⟨h, hS, rfl⟩
  split
  · exact ⟨h, hS, rfl⟩
  · exact ⟨told_ok h _, hw.1, hw.2⟩
theorem may_root {P : PSt} {n : Nat} (h : P.Ok n) {root : Int} {l : List Int} (hm : P.mayCommit root l = true) : -1 ≤ root ∧ root < P.pages ∧ (∀ k ∈ l, P.is k = true ∧ P.used k = true) ∧ l.Nodup := by
  unfold PSt.mayCommit at hm
  simp only [Bool.and_eq_true, Bool.or_eq_true, decide_eq_true_eq] at hm
  obtain ⟨h1, h2⟩ := hm
  have h3 : ∀ k ∈ l, P.is k = true ∧ P.used k = true := fun k hk => by
    have := ((setOk_iff _ l).1 h1).1 k hk
    simpa using this
  have h4 : l.Nodup := by
    unfold setOk at h1
    simp only [Bool.and_eq_true, decide_eq_true_eq] at h1
    exact h1.2
  have hp := h.p1
  rcases h2 with h2 | h2
  · exact ⟨by omega, by omega, h3, h4⟩
  · have := is_true (h3 root (List.contains_iff_mem.1 h2)).1
    exact ⟨by omega, this.2, h3, h4⟩
theorem commit_ok {P : PSt} {S : St} (hS : S.Ok) (h : P.Ok S.n) (root fr : Int) (l : List Int) : (P.commit S root fr l).1.Ok S.n ∧ (P.commit S root fr l).2.1.Ok ∧ (P.commit S root fr l).2.1.n = S.n := by
  unfold PSt.commit
  split
  · exact ⟨h, hS, rfl⟩
  split
  · exact ⟨h, hS, rfl⟩
  split
  · exact ⟨h, hS, rfl⟩
  rename_i _ hm hf
  have hm : P.mayCommit root l = true := by simpa using hm
  obtain ⟨m1, m2, m3, _⟩ := may_root h hm
  have a1 := sync_ok hS
  have a2 : (P.head S.sync.1 root fr).1.Ok ∧ (P.head S.sync.1 root fr).1.n = S.sync.1.n := write_ok a1.1 _ _
  have a3 := sync_ok a2.1
  have hp2 := h.p2
  have har := h.area
  unfold PSt.goes
  split
  · exact ⟨told_ok h _, a1.1, a1.2⟩
  split
  · exact ⟨told_ok h _, a2.1, a2.2.trans a1.2⟩
  split
  · exact ⟨told_ok h _, a3.1, a3.2.trans (a2.2.trans a1.2)⟩
  · refine ⟨⟨h.f2, h.p1, h.p2, h.area, m1, m2, ?_, ?_, ?_, ?_, fun i hi => ?_, fun i hi => by cases hi⟩, a3.1, a3.2.trans (a2.2.trans a1.2)⟩
    · show 1 ≤ fr.toNat; omega
    · show fr.toNat ≤ 1152921504606846976; omega
    · show 1 ≤ P.gen + 1; omega
    · show P.gen + 1 ≤ 1152921504606846976; omega
    · exact is_true (m3 i (List.contains_iff_mem.1 hi)).1
theorem fmt_ok {S : St} (hS : S.Ok) (n : Nat) : (fmtP S n).1.Ok ∧ (fmtP S n).1.n = S.n := by
  have a1 := write_ok hS 1 (List.replicate 64 0)
  have a2 := write_ok a1.1 0 (headB 2 0 n)
  have a3 := sync_ok a2.1
  unfold fmtP
  split
  · exact a1
  split
  · exact ⟨a2.1, a2.2.trans a1.2⟩
  split
  · exact ⟨a3.1, a3.2.trans (a2.2.trans a1.2)⟩
  · exact ⟨a3.1, a3.2.trans (a2.2.trans a1.2)⟩
theorem format_ok {S : St} (hS : S.Ok) (f c n : Int) : (formatP S f c n).2.1.Ok ∧ (formatP S f c n).2.1.n = S.n ∧ ∀ P, (formatP S f c n).1 = some P → P.Ok S.n := by
  have a := fmt_ok hS n.toNat
  unfold formatP
  split
  · exact ⟨hS, rfl, fun P h => by cases h⟩
  rename_i he
  split
  · exact ⟨a.1, a.2, fun P h => by cases h⟩
  · refine ⟨a.1, a.2, fun P h => ?_⟩
    cases h
    obtain ⟨b1, b2, b3, b4, b5, b6, _⟩ := pchk_ok (S := S) (f := f) (c := c) (n := n) (by omega)
    exact ⟨by show 2 ≤ f.toNat; omega, by show 1 ≤ c.toNat; omega, by show c.toNat ≤ 4096; omega, by show f.toNat + 8 * c.toNat ≤ S.n; omega, by show (-1 : Int) ≤ -1; omega, by show (-1 : Int) < (c.toNat : Nat); omega,
      by show 1 ≤ n.toNat; omega, by show n.toNat ≤ _; omega, by show 1 ≤ 2; omega, by show 2 ≤ _; omega, (fun i hi => by cases hi), (fun i hi => by cases hi)⟩
theorem pick_cases (S : St) (c : Nat) : pickP S c = parseP c 0 (S.sec 0) ∨ pickP S c = parseP c 1 (S.sec 1) := by
  unfold pickP
  split
  · exact Or.inr rfl
  · exact Or.inl rfl
theorem parse_pos {c a : Nat} {s : List UInt8} (h : (parseP c a s).1 ≠ 0) : headOk c a s = true ∧ parseP c a s = (gOf s, (rOf s : Int) - 1, fOf s) := by
  by_cases h2 : headOk c a s = true
  · exact ⟨h2, by unfold parseP; rw [if_pos h2]⟩
  · rw [parse_bad h2] at h
    exact absurd rfl h
theorem head_ok {c a : Nat} {s : List UInt8} (h : headOk c a s = true) : 1 ≤ gOf s ∧ gOf s ≤ 1152921504606846976 ∧ gOf s % 2 = a ∧ rOf s ≤ c ∧ 1 ≤ fOf s ∧ fOf s ≤ 1152921504606846976 ∧ s = headB (gOf s) (rOf s) (fOf s) := by
  unfold headOk at h
  simp only [Bool.and_eq_true, decide_eq_true_eq] at h
  obtain ⟨⟨⟨⟨⟨⟨h1, h2⟩, h3⟩, h4⟩, h5⟩, h6⟩, h7⟩ := h
  exact ⟨h1, h2, h3, h4, h5, h6, h7⟩
theorem open_ok {S : St} (f c : Int) : ∀ P, (openP S f c).1 = some P → P.Ok S.n := by
  intro P h
  unfold openP at h
  split at h
  · cases h
  rename_i he
  split at h
  · cases h
  rename_i hg
  cases h
  obtain ⟨b1, b2, b3, b4, _, _, _⟩ := pchk_ok (S := S) (f := f) (c := c) (n := 1) (by omega)
  have key : ∀ a s, (parseP c.toNat a s).1 ≠ 0 → -1 ≤ (parseP c.toNat a s).2.1 ∧ (parseP c.toNat a s).2.1 < (c.toNat : Int) ∧ 1 ≤ (parseP c.toNat a s).2.2 ∧ (parseP c.toNat a s).2.2 ≤ 1152921504606846976 ∧ (parseP c.toNat a s).1 ≤ 1152921504606846976 := by
    intro a s hne
    obtain ⟨h1, h2⟩ := parse_pos hne
    obtain ⟨k1, k2, k3, k4, k5, k6, _⟩ := head_ok h1
    rw [h2]
    refine ⟨?_, ?_, k5, k6, k2⟩ <;> simp only <;> omega
  have k : -1 ≤ (pickP S c.toNat).2.1 ∧ (pickP S c.toNat).2.1 < (c.toNat : Int) ∧ 1 ≤ (pickP S c.toNat).2.2 ∧ (pickP S c.toNat).2.2 ≤ 1152921504606846976 ∧ (pickP S c.toNat).1 ≤ 1152921504606846976 := by
    rcases pick_cases S c.toNat with e | e
    · rw [e] at hg ⊢
      exact key _ _ hg
    · rw [e] at hg ⊢
      exact key _ _ hg
  exact ⟨by show 2 ≤ f.toNat; omega, by show 1 ≤ c.toNat; omega, by show c.toNat ≤ 4096; omega, by show f.toNat + 8 * c.toNat ≤ S.n; omega, k.1, k.2.1, k.2.2.1, k.2.2.2.1, by show 1 ≤ (pickP S c.toNat).1; omega, k.2.2.2.2, (fun i hi => by cases hi), (fun i hi => by cases hi)⟩

end Go.Proofs.Ytjkhcfdflcndkaa.D
