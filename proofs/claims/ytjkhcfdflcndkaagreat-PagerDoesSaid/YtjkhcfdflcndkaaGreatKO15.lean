/-
  The pager's calls whose answers the document fixes: they are so. No condition.
-/
import Derived.Test.YtjkhcfdflcndkaaGreatKO14
import Derived.Test.YtjkhcfdflcndkaaGreatKO05
import Derived.KernelRfl
import Derived.Deep.RegionWith
namespace Go.Proofs.YtjkhcfdflcndkaaGreat.D
open Go.RowKit Go.Maps Go.Shelf
set_option linter.unusedVariables false
set_option linter.unusedSimpArgs false

def y0 : St := news (zero 2176)
def p0 : PSt := PSt.of 2 4 (2, -1, 1)
def y1 : St := (formatP y0 2 4 1).2.1
def p1 : PSt := p0.alloc.1
def p2 : PSt := p1.alloc.1
def y2 : St := (p2.write y1 0 [97]).2.1
def p3 : PSt := (p2.commit y2 0 5 [0]).1
def y3 : St := (p2.commit y2 0 5 [0]).2.1
def q0 : PSt := PSt.of 2 4 (3, 0, 5)

theorem y_len : (zero 2176).length = 2176 := List.length_replicate
theorem y_isImage : IsImage (zero 2176) := by
  unfold IsImage
  rw [y_len]
  decide
theorem y0_ok : y0.Ok := news_ok y_isImage
theorem y_n0 : y0.n = 34 := by kernel_rfl
theorem y_f : (formatP y0 2 4 1).1 = some p0 := by kernel_rfl
theorem y_fe : (formatP y0 2 4 1).2.2 = 0 := by kernel_rfl
theorem y_f5 : pchk y1 2 5 1 = 190 := by kernel_rfl
theorem y_a0 : p0.alloc = (p1, 0, 0) := by kernel_rfl
theorem y_a1 : p1.alloc = (p2, 1, 0) := by kernel_rfl
theorem y_free0 : p0.free = 4 := by kernel_rfl
theorem y_w0 : (p2.write y1 0 [97]).2.2 = 0 := by kernel_rfl
theorem y_w0p : (p2.write y1 0 [97]).1 = p2 := by kernel_rfl
theorem y_w2 : (p2.write y2 2 [97]) = (p2, y2, 191) := by kernel_rfl
theorem y_c : (p2.commit y2 0 5 [0]).2.2 = 0 := by kernel_rfl
theorem y_wb : p3.write y3 0 [98] = (p3, y3, 191) := by kernel_rfl
theorem y_r : ∃ L, p3.read y3 0 = (L, 0) ∧ L.length = 512 ∧ L.getD 0 0 = 97 := ⟨(p3.read y3 0).1, by kernel_rfl, by kernel_rfl, by kernel_rfl⟩
theorem y_o : openP y3 2 4 = (some q0, 0) := by kernel_rfl
theorem y_free3 : p3.free = 3 := by kernel_rfl
theorem y_freeq : q0.free = 4 := by kernel_rfl

end Go.Proofs.YtjkhcfdflcndkaaGreat.D

/-
  A pager and its disk in blocks that the call made; fixed: it is true. No condition.
-/
namespace Go.Proofs.YtjkhcfdflcndkaaGreat.D
open Go.RowKit Go.Maps Go.Shelf
set_option linter.unusedVariables false
set_option linter.unusedSimpArgs false

structure PW (w0 W : World) (p g bm ml mt : Nat) (P : PSt) (S : St) : Prop where
  pd : PD W p g bm ml mt P S
  fr : Fr (fun _ => False) w0 W
  low : w0.heap.size ≤ p ∧ w0.heap.size ≤ g ∧ w0.heap.size ≤ bm ∧ w0.heap.size ≤ ml ∧ w0.heap.size ≤ mt

section
variable {w0 W W' : World} {p g bm ml mt : Nat} {P P' : PSt} {S S' : St}
theorem PW.turn (h : PW w0 W p g bm ml mt P S) (t : PTurn W W' p g bm ml mt P' S') : ∃ bm' ml', PW w0 W' p g bm' ml' mt P' S' := by
  obtain ⟨bm', ml', h1, h2, h3, h4⟩ := t
  have hl := h.low
  have hs := h.fr.size
  refine ⟨bm', ml', h1, h.fr.trans h4 (fun i hi e => ?_), by omega⟩
  unfold inPD at e
  omega
theorem PW.dturn (h : PW w0 W p g bm ml mt P S) {bm' : Nat} (hA : At W' g bm' S') (hb : bm' = bm ∨ W.heap.size ≤ bm') (hf : Fr (fun i => i = g ∨ i = bm) W W') : PW w0 W' p g bm' ml mt P S' := by
  have hl := h.low
  have hs := h.fr.size
  exact ⟨h.pd.dturn hA hb hf, h.fr.trans hf (fun i hi e => by omega), by omega⟩
theorem PW.mturn (h : PW w0 W p g bm ml mt P S) (hD : PD W' p g bm ml mt P' S) (hf : Fr (fun i => i = mt) W W') : PW w0 W' p g bm ml mt P' S := by
  have hl := h.low
  exact ⟨hD, h.fr.trans hf (fun i hi e => by omega), by omega⟩
theorem PW.stay (h : PW w0 W p g bm ml mt P S) (hf : Fr (fun _ => False) W W') : PW w0 W' p g bm ml mt P S := ⟨h.pd.stay hf, h.fr.trans hf (fun _ _ f => f), h.low⟩
/-- Other blocks stay while a pager turns. -/
theorem PD.other (h : PD W p g bm ml mt P S) (t : PTurn W W' p g bm ml mt P' S') {b : Nat} {c : Array Value} {T : TypeId} (hb : W.heap[b]? = some (.cells c T)) (h1 : T ≠ 70) (h2 : T ≠ 92) : W'.heap[b]? = some (.cells c T) := by
  obtain ⟨_, _, _, _, _, h4⟩ := t
  exact h4.at hb (h.apart hb h1 h2)
end

/-! ### the states are ones -/
theorem pick_ok {P : PSt} : ∀ d i, P.pages ≤ i + d → ∀ k, P.pick d i = some k → i ≤ k ∧ k < i + d
  | 0, i, _, k, h => by cases h
  | d + 1, i, hp, k, h => by
    rw [PSt.pick] at h
    split at h
    · have := pick_ok d (i + 1) (by omega) k h
      omega
    · cases h
      omega
theorem alloc_ok {P : PSt} {n : Nat} (h : P.Ok n) : P.alloc.1.Ok n := by
  unfold PSt.alloc
  cases hk : P.pick P.pages 0 with
  | none => exact h
  | some i =>
    have hi := pick_ok P.pages 0 (by omega) i hk
    refine ⟨h.f2, h.p1, h.p2, h.area, h.r1, h.r2, h.fr1, h.fr2, h.g1, h.g2, h.lv, fun j hj => ?_⟩
    have hj : (j == (i : Int) || P.taken j) = true := hj
    show 0 ≤ j ∧ j < (P.pages : Int)
    simp only [Bool.or_eq_true, beq_iff_eq] at hj
    rcases hj with e | e
    · omega
    · exact h.tk j e
theorem drop_ok {P : PSt} {n : Nat} (h : P.Ok n) : P.drop.Ok n := ⟨h.f2, h.p1, h.p2, h.area, h.r1, h.r2, h.fr1, h.fr2, h.g1, h.g2, h.lv, fun j hj => by cases hj⟩
theorem told_ok {P : PSt} {n : Nat} (h : P.Ok n) (e : Int) : (P.told e).Ok n := ⟨h.f2, h.p1, h.p2, h.area, h.r1, h.r2, h.fr1, h.fr2, h.g1, h.g2, h.lv, h.tk⟩
theorem live_ok {P : PSt} {n : Nat} (h : P.Ok n) (l : List Int) : (P.setLive l).1.Ok n := by
  unfold PSt.setLive
  split
  · rename_i hk
    refine ⟨h.f2, h.p1, h.p2, h.area, h.r1, h.r2, h.fr1, h.fr2, h.g1, h.g2, fun j hj => ?_, h.tk⟩
    exact is_true (((setOk_iff _ l).1 hk).1 j (List.contains_iff_mem.1 hj))
  · exact h
theorem pwrite_ok {P : PSt} {S : St} (hS : S.Ok) (h : P.Ok S.n) (k : Int) (l : List UInt8) : (P.write S k l).1.Ok S.n ∧ (P.write S k l).2.1.Ok ∧ (P.write S k l).2.1.n = S.n := by
  have hw := write_ok hS ((P.first : Int) + 8 * k) (l ++ List.replicate (512 - l.length) 0)
  unfold PSt.write
  split
  · exact ⟨h, hS, rfl⟩
  split
  · exact ⟨h, hS, rfl⟩
  split
  · exact ⟨h, hS, rfl⟩
  · exact ⟨told_ok h _, hw.1, hw.2⟩
theorem may_root {P : PSt} {n : Nat} (h : P.Ok n) {root : Int} {l : List Int} (hm : P.mayCommit root l = true) : -1 ≤ root ∧ root < P.pages ∧ (∀ k ∈ l, P.is k = true ∧ P.used k = true) ∧ l.Nodup := by
  unfold PSt.mayCommit at hm
  simp only [Bool.and_eq_true, Bool.or_eq_true, decide_eq_true_eq] at hm
  obtain ⟨h1, h2⟩ := hm
  have h3 : ∀ k ∈ l, P.is k = true ∧ P.used k = true := fun k hk => by
    have := ((setOk_iff _ l).1 h1).1 k hk
    simpa using this
  have h4 : l.Nodup := by
    unfold setOk at h1
    simp only [Bool.and_eq_true, decide_eq_true_eq] at h1
    exact h1.2
  have hp := h.p1
  rcases h2 with h2 | h2
  · exact ⟨by omega, by omega, h3, h4⟩
  · have := is_true (h3 root (List.contains_iff_mem.1 h2)).1
    exact ⟨by omega, this.2, h3, h4⟩
theorem commit_ok {P : PSt} {S : St} (hS : S.Ok) (h : P.Ok S.n) (root fr : Int) (l : List Int) : (P.commit S root fr l).1.Ok S.n ∧ (P.commit S root fr l).2.1.Ok ∧ (P.commit S root fr l).2.1.n = S.n := by
  unfold PSt.commit
  split
  · exact ⟨h, hS, rfl⟩
  split
  · exact ⟨h, hS, rfl⟩
  split
  · exact ⟨h, hS, rfl⟩
  rename_i _ hm hf
  have hm : P.mayCommit root l = true := by simpa using hm
  obtain ⟨m1, m2, m3, _⟩ := may_root h hm
  have a1 := sync_ok hS
  have a2 : (P.head S.sync.1 root fr).1.Ok ∧ (P.head S.sync.1 root fr).1.n = S.sync.1.n := write_ok a1.1 _ _
  have a3 := sync_ok a2.1
  have hp2 := h.p2
  have har := h.area
  unfold PSt.goes
  split
  · exact ⟨told_ok h _, a1.1, a1.2⟩
  split
  · exact ⟨told_ok h _, a2.1, a2.2.trans a1.2⟩
  split
  · exact ⟨told_ok h _, a3.1, a3.2.trans (a2.2.trans a1.2)⟩
  · refine ⟨⟨h.f2, h.p1, h.p2, h.area, m1, m2, ?_, ?_, ?_, ?_, fun i hi => ?_, fun i hi => by cases hi⟩, a3.1, a3.2.trans (a2.2.trans a1.2)⟩
    · show 1 ≤ fr.toNat; omega
    · show fr.toNat ≤ 1152921504606846976; omega
    · show 1 ≤ P.gen + 1; omega
    · show P.gen + 1 ≤ 1152921504606846976; omega
    · exact is_true (m3 i (List.contains_iff_mem.1 hi)).1
theorem fmt_ok {S : St} (hS : S.Ok) (n : Nat) : (fmtP S n).1.Ok ∧ (fmtP S n).1.n = S.n := by
  have a1 := write_ok hS 1 (List.replicate 64 0)
  have a2 := write_ok a1.1 0 (headB 2 0 n)
  have a3 := sync_ok a2.1
  unfold fmtP
  split
  · exact a1
  split
  · exact ⟨a2.1, a2.2.trans a1.2⟩
  split
  · exact ⟨a3.1, a3.2.trans (a2.2.trans a1.2)⟩
  · exact ⟨a3.1, a3.2.trans (a2.2.trans a1.2)⟩
theorem format_ok {S : St} (hS : S.Ok) (f c n : Int) : (formatP S f c n).2.1.Ok ∧ (formatP S f c n).2.1.n = S.n ∧ ∀ P, (formatP S f c n).1 = some P → P.Ok S.n := by
  have a := fmt_ok hS n.toNat
  unfold formatP
  split
  · exact ⟨hS, rfl, fun P h => by cases h⟩
  rename_i he
  split
  · exact ⟨a.1, a.2, fun P h => by cases h⟩
  · refine ⟨a.1, a.2, fun P h => ?_⟩
    cases h
    obtain ⟨b1, b2, b3, b4, b5, b6, _⟩ := pchk_ok (S := S) (f := f) (c := c) (n := n) (by omega)
    exact ⟨by show 2 ≤ f.toNat; omega, by show 1 ≤ c.toNat; omega, by show c.toNat ≤ 4096; omega, by show f.toNat + 8 * c.toNat ≤ S.n; omega, by show (-1 : Int) ≤ -1; omega, by show (-1 : Int) < (c.toNat : Nat); omega,
      by show 1 ≤ n.toNat; omega, by show n.toNat ≤ _; omega, by show 1 ≤ 2; omega, by show 2 ≤ _; omega, (fun i hi => by cases hi), (fun i hi => by cases hi)⟩
theorem pick_cases (S : St) (c : Nat) : pickP S c = parseP c 0 (S.sec 0) ∨ pickP S c = parseP c 1 (S.sec 1) := by
  unfold pickP
  split
  · exact Or.inr rfl
  · exact Or.inl rfl
theorem parse_pos {c a : Nat} {s : List UInt8} (h : (parseP c a s).1 ≠ 0) : headOk c a s = true ∧ parseP c a s = (gOf s, (rOf s : Int) - 1, fOf s) := by
  by_cases h2 : headOk c a s = true
  · exact ⟨h2, by unfold parseP; rw [if_pos h2]⟩
  · rw [parse_bad h2] at h
    exact absurd rfl h
theorem head_ok {c a : Nat} {s : List UInt8} (h : headOk c a s = true) : 1 ≤ gOf s ∧ gOf s ≤ 1152921504606846976 ∧ gOf s % 2 = a ∧ rOf s ≤ c ∧ 1 ≤ fOf s ∧ fOf s ≤ 1152921504606846976 ∧ s = headB (gOf s) (rOf s) (fOf s) := by
  unfold headOk at h
  simp only [Bool.and_eq_true, decide_eq_true_eq] at h
  obtain ⟨⟨⟨⟨⟨⟨h1, h2⟩, h3⟩, h4⟩, h5⟩, h6⟩, h7⟩ := h
  exact ⟨h1, h2, h3, h4, h5, h6, h7⟩
theorem open_ok {S : St} (f c : Int) : ∀ P, (openP S f c).1 = some P → P.Ok S.n := by
  intro P h
  unfold openP at h
  split at h
  · cases h
  rename_i he
  split at h
  · cases h
  rename_i hg
  cases h
  obtain ⟨b1, b2, b3, b4, _, _, _⟩ := pchk_ok (S := S) (f := f) (c := c) (n := 1) (by omega)
  have key : ∀ a s, (parseP c.toNat a s).1 ≠ 0 → -1 ≤ (parseP c.toNat a s).2.1 ∧ (parseP c.toNat a s).2.1 < (c.toNat : Int) ∧ 1 ≤ (parseP c.toNat a s).2.2 ∧ (parseP c.toNat a s).2.2 ≤ 1152921504606846976 ∧ (parseP c.toNat a s).1 ≤ 1152921504606846976 := by
    intro a s hne
    obtain ⟨h1, h2⟩ := parse_pos hne
    obtain ⟨k1, k2, k3, k4, k5, k6, _⟩ := head_ok h1
    rw [h2]
    refine ⟨?_, ?_, k5, k6, k2⟩ <;> simp only <;> omega
  have k : -1 ≤ (pickP S c.toNat).2.1 ∧ (pickP S c.toNat).2.1 < (c.toNat : Int) ∧ 1 ≤ (pickP S c.toNat).2.2 ∧ (pickP S c.toNat).2.2 ≤ 1152921504606846976 ∧ (pickP S c.toNat).1 ≤ 1152921504606846976 := by
    rcases pick_cases S c.toNat with e | e
    · rw [e] at hg ⊢
      exact key _ _ hg
    · rw [e] at hg ⊢
      exact key _ _ hg
  exact ⟨by show 2 ≤ f.toNat; omega, by show 1 ≤ c.toNat; omega, by show c.toNat ≤ 4096; omega, by show f.toNat + 8 * c.toNat ≤ S.n; omega, k.1, k.2.1, k.2.2.1, k.2.2.2.1, by show 1 ≤ (pickP S c.toNat).1; omega, k.2.2.2.2, (fun i hi => by cases hi), (fun i hi => by cases hi)⟩

end Go.Proofs.YtjkhcfdflcndkaaGreat.D

/-
  fixed: it is true. No condition.
-/
namespace Go.Proofs.YtjkhcfdflcndkaaGreat.D
open Go.RowKit Go.Maps Go.Shelf
set_option linter.unusedVariables false
set_option linter.unusedSimpArgs false

theorem p0_ok : p0.Ok y0.n := (format_ok y0_ok 2 4 1).2.2 p0 y_f
theorem y1_ok : y1.Ok ∧ y1.n = y0.n := ⟨(format_ok y0_ok 2 4 1).1, (format_ok y0_ok 2 4 1).2.1⟩
theorem p1_ok : p1.Ok y0.n := alloc_ok p0_ok
theorem p2_ok : p2.Ok y0.n := alloc_ok p1_ok
theorem y2_ok : y2.Ok ∧ y2.n = y0.n := by
  have := pwrite_ok y1_ok.1 (P := p2) (by rw [y1_ok.2]; exact p2_ok) 0 [97]
  exact ⟨this.2.1, this.2.2.trans y1_ok.2⟩
theorem p3_ok : p3.Ok y0.n ∧ y3.Ok ∧ y3.n = y0.n := by
  have := commit_ok y2_ok.1 (P := p2) (by rw [y2_ok.2]; exact p2_ok) 0 5 [0]
  exact ⟨by rw [← y2_ok.2]; exact this.1, this.2.1, this.2.2.trans y2_ok.2⟩
theorem q0_ok : q0.Ok y0.n := by
  have := open_ok (S := y3) 2 4 q0 (by rw [y_o])
  rwa [p3_ok.2.2] at this

theorem fr_eq {w0 W W' : World} (h : Fr (fun _ => False) w0 W) (e : W' = W) : Fr (fun _ => False) w0 W' := e ▸ h

set_option maxHeartbeats 8000000 in
set_option maxRecDepth 100000 in
theorem fixed_c (w : World) : Calls Tryz.prog 8 #[] w fun e w' => e = .returned (.bool true) ∧ Fr (fun _ => False) w w' := by
  have hmk : (Instr.makeSlice 60 (.int .i64 2176) (.int .i64 2176)).run Tryz.prog w = .ok (.slice (some ⟨w.heap.size, 0, none⟩) 2176 2176) (w.alloc (.cells (bytesOf (zero 2176)).toArray 5)) := mkz 2176 (by omega) w
  have hms := mks 2176 w
  obtain ⟨Z, hZ⟩ : ∃ Z, Z = zero 2176 := ⟨_, rfl⟩
  have HN1 := hid (new_c (w.alloc (.cells (bytesOf (zero 2176)).toArray 5)) (zero 2176) y_isImage)
  have hf1 := hid (show Fr (fun _ => False) w (w.alloc (.cells (bytesOf (zero 2176)).toArray 5)) from (Fr.refl _ w).alloc _)
  rw [← hZ] at hmk hms HN1 hf1
  have hS := hid (show news Z = y0 by rw [hZ]; rfl)
  clear hZ
  go_enter Tryz.func8, Tryz.ntmps8
  go_wp2_with fail
  refine HN1.out.mono ?_
  rintro e w2 ⟨g, bm, rfl, hA2, hg2, hb2, hf2⟩
  rw [hS.out] at hA2
  have HA2 := hid hA2
  have HF2 := hid (hf1.out.trans hf2 (fun _ _ f => f))
  have HL2 := hid (And.intro (Nat.le_trans hf1.out.size hg2) (Nat.le_trans hf1.out.size hb2))
  clear hA2 hg2 hb2 hf2 hmk hms HN1 hf1
  have HFM := hid (pformat_c w2 g bm y0 HA2.out y0_ok 2 4 1 (by decide) (by decide))
  unfold PFmtC at HFM
  go_wp2_with fail
  refine HFM.out.mono ?_
  rintro e w3 ⟨hf3, h3, _⟩
  obtain ⟨p, ml, mt, bm3, rfl, hP3, l1, l2, l3, l4⟩ := h3 p0 y_f
  have HP3 := hid (show PW w w3 p g bm3 ml mt p0 y1 from by
    have h1 := HL2.out
    have h2 := HF2.out.size
    exact ⟨hP3, HF2.out.trans hf3 (fun i hi e => by omega), by omega⟩)
  clear hf3 h3 hP3 l1 l2 l3 l4
  have HCL := hid (clone_c w3 g bm3 y1 HP3.out.pd.da)
  go_wp2_with fail
  refine HCL.out.mono ?_
  rintro e w4 ⟨g4, bm4, rfl, hA4, l1, l2, hf4⟩
  have HP4 := hid (HP3.out.stay hf4)
  have HA4 := hid hA4
  have HFM4 := hid (pformat_c w4 g4 bm4 y1 hA4 y1_ok.1 2 5 1 (by decide) (by decide))
  unfold PFmtC at HFM4
  clear hA4 hf4
  have hl3 : p < w3.heap.size ∧ g < w3.heap.size ∧ bm3 < w3.heap.size ∧ ml < w3.heap.size ∧ mt < w3.heap.size := HP3.out.pd.lt
  have HL4 := hid (And.intro hl3 (And.intro l1 l2))
  clear hl3 l1 l2
  go_wp2_with fail
  refine HFM4.out.mono ?_
  rintro e w5 ⟨hf5, _, h5⟩
  have e5 : formatP y1 2 5 1 = (none, y1, 190) := by unfold formatP; rw [y_f5, if_pos (by decide)]
  rw [e5] at h5
  obtain ⟨rfl, _⟩ := h5 rfl
  have HP5 := hid (show PW w w5 p g bm3 ml mt p0 y1 from by
    have h1 := HL4.out
    have h2 := HP3.out.fr.size
    have h3 := HP4.out.pd
    refine ⟨⟨⟨hf5.at h3.pa.1 (by omega), h3.pa.2.1.keep hf5 (by omega), h3.pa.2.2.1.keep hf5 (by omega), h3.pa.2.2.2⟩, h3.da.beside HA4.out hf5 (by omega) (by omega), h3.n1, h3.n2⟩, HP4.out.fr.trans hf5 (fun i hi e => by omega), HP4.out.low⟩)
  clear hf5 h5
  have HRT := hid (fun (W : World) (h : PD W p g bm3 ml mt p0 y1) => show Calls Tryz.prog 9 #[.pointer (some ⟨p, 0, none⟩)] W fun e w' => e = .returned (.int .i64 (-1)) ∧ w' = W from root_c W p g ml mt p0 h.pa)
  have HFR := hid (fun (W : World) (h : PD W p g bm3 ml mt p0 y1) => show Calls Tryz.prog 10 #[.pointer (some ⟨p, 0, none⟩)] W fun e w' => e = .returned (.int .i64 1) ∧ w' = W from from_c W p g ml mt p0 h.pa)
  have HGN := hid (fun (W : World) (h : PD W p g bm3 ml mt p0 y1) => show Calls Tryz.prog 11 #[.pointer (some ⟨p, 0, none⟩)] W fun e w' => e = .returned (.int .i64 2) ∧ w' = W from gen_c W p g ml mt p0 h.pa)
  have HFE := hid (fun (W : World) (h : PD W p g bm3 ml mt p0 y1) => show Calls Tryz.prog 14 #[.pointer (some ⟨p, 0, none⟩)] W fun e w' => e = .returned (.int .i64 4) ∧ Fr (fun _ => False) W w' from by
    have := free_c W p g ml mt p0 h.pa (by decide)
    rwa [y_free0] at this)
  go_wp2_with fail
  refine (HRT.out _ HP5.out.pd).mono ?_
  rintro e w5a ⟨rfl, rfl⟩
  go_wp2_with fail
  refine (HFR.out _ HP5.out.pd).mono ?_
  rintro e w5b ⟨rfl, rfl⟩
  go_wp2_with fail
  refine (HGN.out _ HP5.out.pd).mono ?_
  rintro e w5c ⟨rfl, rfl⟩
  go_wp2_with fail
  refine (HFE.out _ HP5.out.pd).mono ?_
  rintro e w6 ⟨rfl, hf6⟩
  have HP6 := hid (HP5.out.stay hf6)
  clear hf6 HRT HFR HGN HFE
  have HAL := hid (show Calls Tryz.prog 19 #[.pointer (some ⟨p, 0, none⟩)] w6 fun e w' => e = .returned (.tuple #[.int .i64 0, .int .i64 0]) ∧ PD w' p g bm3 ml mt p1 y1 ∧ Fr (fun i => i = mt) w6 w' from by
    have := palloc_c w6 p g bm3 ml mt p0 y1 HP6.out.pd (by rw [y1_ok.2]; exact p0_ok)
    rwa [y_a0] at this)
  go_wp2_with fail
  refine HAL.out.mono ?_
  rintro e w7 ⟨rfl, hd7, hf7⟩
  have HP7 := hid (HP6.out.mturn hd7 hf7)
  clear hd7 hf7 HAL
  have HAL := hid (show Calls Tryz.prog 19 #[.pointer (some ⟨p, 0, none⟩)] w7 fun e w' => e = .returned (.tuple #[.int .i64 1, .int .i64 0]) ∧ PD w' p g bm3 ml mt p2 y1 ∧ Fr (fun i => i = mt) w7 w' from by
    have := palloc_c w7 p g bm3 ml mt p1 y1 HP7.out.pd (by rw [y1_ok.2]; exact p1_ok)
    rwa [y_a1] at this)
  go_wp2_with fail
  refine HAL.out.mono ?_
  rintro e w8 ⟨rfl, hd8, hf8⟩
  have HP8 := hid (HP7.out.mturn hd8 hf8)
  clear hd8 hf8 HAL
  have HW := hid (show Calls Tryz.prog 21 #[.pointer (some ⟨p, 0, none⟩), .int .i64 0, .string (bs [97])] w8 fun e w' => e = .returned (.int .i64 0) ∧ PTurn w8 w' p g bm3 ml mt p2 y2 from by
    have := pwrite_c w8 p g bm3 ml mt p2 y1 HP8.out.pd 0 [97] y1_ok.1 (by rw [y1_ok.2]; exact p2_ok) (by decide) (by decide) (by decide)
    unfold PWriteC at this
    rw [y_w0, y_w0p] at this
    exact this)
  go_wp2_with fail
  refine HW.out.mono ?_
  rintro e w9 ⟨rfl, ht9⟩
  obtain ⟨bm9, ml9, hp9⟩ := HP8.out.turn ht9
  have HP9 := hid hp9
  clear ht9 hp9 HW
  have HW := hid (show Calls Tryz.prog 21 #[.pointer (some ⟨p, 0, none⟩), .int .i64 2, .string (bs [97])] w9 fun e w' => e = .returned (.int .i64 191) ∧ PTurn w9 w' p g bm9 ml9 mt p2 y2 from by
    have := pwrite_c w9 p g bm9 ml9 mt p2 y2 HP9.out.pd 2 [97] y2_ok.1 (by rw [y2_ok.2]; exact p2_ok) (by decide) (by decide) (by decide)
    unfold PWriteC at this
    rw [y_w2] at this
    exact this)
  go_wp2_with fail
  refine HW.out.mono ?_
  rintro e w10 ⟨rfl, ht10⟩
  obtain ⟨bm10, ml10, hp10⟩ := HP9.out.turn ht10
  have HP10 := hid hp10
  clear ht10 hp10 HW
  have hf11 := (Fr.refl (fun _ => False) w10).alloc (.cells #[.int .i64 0] 3)
  have HP11 := hid (HP10.out.stay hf11)
  have HCM := hid (show Calls Tryz.prog 27 #[.pointer (some ⟨p, 0, none⟩), .int .i64 0, .int .i64 5, .slice (some ⟨w10.heap.size, 0, none⟩) 1 1] (w10.alloc (.cells #[.int .i64 0] 3)) fun e w' => e = .returned (.int .i64 0) ∧ PTurn (w10.alloc (.cells #[.int .i64 0] 3)) w' p g bm10 ml10 mt p3 y3 from by
    have := pcommit_c _ p g bm10 ml10 mt p2 y2 HP11.out.pd 0 5 (.slice (some ⟨w10.heap.size, 0, none⟩) 1 1) [0] y2_ok.1 (by rw [y2_ok.2]; exact p2_ok) ((ints_new w10 [0] (by decide)).toV) (by decide) (by decide) (by decide)
    unfold PCommitC at this
    rw [y_c] at this
    exact this)
  clear hf11
  go_wp2_with fail
  refine HCM.out.mono ?_
  rintro e w12 ⟨rfl, ht12⟩
  obtain ⟨bm12, ml12, hp12⟩ := HP11.out.turn ht12
  have HP12 := hid hp12
  clear ht12 hp12 HCM
  have HW := hid (show Calls Tryz.prog 21 #[.pointer (some ⟨p, 0, none⟩), .int .i64 0, .string (bs [98])] w12 fun e w' => e = .returned (.int .i64 191) ∧ PTurn w12 w' p g bm12 ml12 mt p3 y3 from by
    have := pwrite_c w12 p g bm12 ml12 mt p3 y3 HP12.out.pd 0 [98] p3_ok.2.1 (by rw [p3_ok.2.2]; exact p3_ok.1) (by decide) (by decide) (by decide)
    unfold PWriteC at this
    rw [y_wb] at this
    exact this)
  go_wp2_with fail
  refine HW.out.mono ?_
  rintro e w13 ⟨rfl, ht13⟩
  obtain ⟨bm13, ml13, hp13⟩ := HP12.out.turn ht13
  have HP13 := hid hp13
  clear ht13 hp13 HW
  obtain ⟨L, hL, hL1, hL2⟩ := y_r
  have HRD := hid (show Calls Tryz.prog 50 #[.pointer (some ⟨p, 0, none⟩), .int .i64 0] w13 fun e w' => e = .returned (.tuple #[.string (bs L), .int .i64 0]) ∧ Fr (fun _ => False) w13 w' from by
    have := pread_c w13 p g ml13 mt bm13 p3 y3 HP13.out.pd.pa HP13.out.pd.da p3_ok.2.1 (by rw [p3_ok.2.2]; exact p3_ok.1) 0
    rwa [hL] at this)
  clear hL
  go_wp2_with fail
  refine HRD.out.mono ?_
  rintro e w14 ⟨rfl, hf14⟩
  have HP14 := hid (HP13.out.stay hf14)
  clear hf14 HRD
  have HOP := hid (popen_c w14 g bm13 y3 HP14.out.pd.da p3_ok.2.1 2 4 (by decide) (by decide))
  unfold POpenC at HOP
  have hz : (bs L).size = 512 := by simp [bs, ByteArray.size, hL1]
  have g0 := at_bs L 0 (by omega)
  rw [hL2] at g0
  go_wp2_with fail
  refine HOP.out.mono ?_
  rintro e w15 ⟨hf15, h15, _⟩
  have e15 : (openP y3 2 4).1 = some q0 := by rw [y_o]
  obtain ⟨pq, mlq, mtq, rfl, hq15, l1, l2, l3⟩ := h15 q0 e15
  have HQ := hid hq15
  have HP15 := hid (HP14.out.stay hf15)
  clear hf15 h15 e15 hq15 l1 l2 l3 HOP
  have HRT := hid (show Calls Tryz.prog 9 #[.pointer (some ⟨pq, 0, none⟩)] w15 fun e w' => e = .returned (.int .i64 0) ∧ w' = w15 from root_c w15 pq g mlq mtq q0 HQ.out.pa)
  have HFR := hid (show Calls Tryz.prog 10 #[.pointer (some ⟨pq, 0, none⟩)] w15 fun e w' => e = .returned (.int .i64 5) ∧ w' = w15 from from_c w15 pq g mlq mtq q0 HQ.out.pa)
  have HGN := hid (show Calls Tryz.prog 11 #[.pointer (some ⟨pq, 0, none⟩)] w15 fun e w' => e = .returned (.int .i64 3) ∧ w' = w15 from gen_c w15 pq g mlq mtq q0 HQ.out.pa)
  have HFE := hid (show Calls Tryz.prog 14 #[.pointer (some ⟨p, 0, none⟩)] w15 fun e w' => e = .returned (.int .i64 3) ∧ Fr (fun _ => False) w15 w' from by
    have := free_c w15 p g ml13 mt p3 HP15.out.pd.pa p3_ok.1.p2
    rwa [y_free3] at this)
  have HFQ := hid (fun (W : World) (hf : Fr (fun _ => False) w15 W) => show Calls Tryz.prog 14 #[.pointer (some ⟨pq, 0, none⟩)] W fun e w' => e = .returned (.int .i64 4) ∧ Fr (fun _ => False) W w' from by
    have := free_c W pq g mlq mtq q0 (HQ.out.stay hf).pa q0_ok.p2
    rwa [y_freeq] at this)
  go_wp2_with fail
  refine HRT.out.mono ?_
  rintro e w15a ⟨rfl, rfl⟩
  go_wp2_with fail
  refine HFR.out.mono ?_
  rintro e w15b ⟨rfl, rfl⟩
  go_wp2_with fail
  refine HGN.out.mono ?_
  rintro e w15c ⟨rfl, rfl⟩
  go_wp2_with fail
  refine HFE.out.mono ?_
  rintro e w16 ⟨rfl, hf16⟩
  have HFQ2 := hid (HFQ.out w16 hf16)
  have HF16 := hid (HP15.out.fr.trans hf16 (fun _ _ f => f))
  clear hf16
  go_wp2_with fail
  refine HFQ2.out.mono ?_
  rintro e w17 ⟨rfl, hf17⟩
  have HF17 := hid (HF16.out.trans hf17 (fun _ _ f => f))
  clear hf17
  go_wp2_with fail
  go_ret
  exact ⟨rfl, HF17.out⟩

end Go.Proofs.YtjkhcfdflcndkaaGreat.D
