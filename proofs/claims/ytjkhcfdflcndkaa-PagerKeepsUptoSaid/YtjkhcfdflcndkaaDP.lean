/-
  The disk's calls, in plain words: what a state becomes; a state stays one.
-/
import Derived.Test.YtjkhcfdflcndkaaD1
namespace Go.Proofs.Ytjkhcfdflcndkaa.D
set_option linter.unusedVariables false
set_option linter.unusedSimpArgs false

theorem putAt_length {b l : List UInt8} {k : Nat} (h : 64 * k + l.length ≤ b.length) : (putAt b k l).length = b.length := by
  simp only [putAt, List.length_append, List.length_take, List.length_drop]; omega

theorem leftGo_length (c : Nat → Bool) (un : Nat → Option (List UInt8)) : ∀ (L : List Nat) (i : Nat) (b : List UInt8), (∀ k ∈ L, ∃ l, un k = some l ∧ 64 * k + l.length ≤ b.length) → (leftGo c un i L b).length = b.length
  | [], _, _, _ => rfl
  | k :: L, i, b, h => by
    obtain ⟨l, hl, h2⟩ := h k (by simp)
    rw [leftGo, hl, Option.getD_some]
    cases c i
    · exact leftGo_length c un L (i + 1) b (fun k hk => h k (by simp [hk]))
    · simp only [if_true]
      rw [leftGo_length c un L (i + 1) _ (fun k hk => by rw [putAt_length h2]; exact h k (by simp [hk])), putAt_length h2]

theorem mem_unl {s : St} {k : Nat} : k ∈ s.unl ↔ k < s.n ∧ ∃ l, s.un k = some l := by
  simp [St.unl, Option.isSome_iff_exists]

theorem left_length {s : St} (hs : s.Ok) (c : Nat → Bool) : (s.left c).length = s.safe.length := by
  refine leftGo_length c s.un s.unl 0 s.safe (fun k hk => ?_)
  obtain ⟨h1, l, h2⟩ := mem_unl.1 hk
  have := (hs.un k l h2).2
  have := hs.safe
  exact ⟨l, h2, by omega⟩

theorem becomes_ok {s : St} (hs : s.Ok) {l : List UInt8} (hl : l.length = s.safe.length) : (s.becomes l).Ok := by
  have e : (s.becomes l).n = s.n := by simp [St.n, St.becomes, hl]
  refine ⟨?_, by rw [e]; exact hs.n1, by rw [e]; exact hs.n2, (fun i l h => by cases h), hs.armed⟩
  rw [e]
  show l.length = _
  rw [hl]
  exact hs.safe

theorem dies_ok {s : St} (hs : s.Ok) (ks : List Int) : (s.dies ks).Ok := by
  have h := becomes_ok hs (left_length hs (comes ks))
  exact ⟨h.safe, h.n1, h.n2, h.un, by show 0 ≤ _; omega⟩
theorem dies_n {s : St} (hs : s.Ok) (ks : List Int) : (s.dies ks).n = s.n := by
  have := left_length hs (comes ks)
  simp [St.n, St.dies, St.becomes, St.after, this]
theorem becomes_n {s : St} {l : List UInt8} (hl : l.length = s.safe.length) : (s.becomes l).n = s.n := by simp [St.n, St.becomes, hl]

theorem step_ok {s : St} (hs : s.Ok) : s.step.1.Ok := by
  unfold St.step
  split
  · exact hs
  · exact ⟨hs.safe, hs.n1, hs.n2, hs.un, by have := hs.armed; show s.armed - 1 ≤ _; omega⟩
theorem step_n (s : St) : s.step.1.n = s.n := by unfold St.step; split <;> rfl
theorem step_kept (s : St) : s.step.1.kept = s.kept := by unfold St.step; split <;> rfl

/-- A sector written. -/
def St.wr1 (s : St) (k : Nat) (l : List UInt8) : St := { s with un := fun j => if j = k then some l else s.un j }
theorem wr1_ok {s : St} (hs : s.Ok) {k : Nat} {l : List UInt8} (hk : k < s.n) (hl : l.length = 64) : (s.wr1 k l).Ok :=
  ⟨hs.safe, hs.n1, hs.n2, (fun i l' h => by
    simp only [St.wr1] at h
    split at h
    · rename_i e; subst e; cases h; exact ⟨hk, hl⟩
    · exact hs.un i l' h), hs.armed⟩

/-- So many sectors written, one behind the other, from 'at' on; true: the power went. -/
def wrs : Nat → Nat → List UInt8 → St → St × Bool
  | 0, _, _, s => (s, false)
  | m + 1, k, l, s =>
    if (s.wr1 k (l.take 64)).step.2 then ((s.wr1 k (l.take 64)).step.1.dies s.kept, true) else wrs m (k + 1) (l.drop 64) (s.wr1 k (l.take 64)).step.1

def errOf (b : Bool) : Int := if b then 2 else 0
def St.write (s : St) (a : Int) (l : List UInt8) : St × Int :=
  if s.dead then (s, 2) else if l.length % 64 ≠ 0 then (s, 172) else if a < 0 ∨ (s.n : Int) < a ∨ (s.n : Int) - a < (l.length / 64 : Nat) then (s, 171)
  else ((wrs (l.length / 64) a.toNat l s).1, errOf (wrs (l.length / 64) a.toNat l s).2)

def St.sync (s : St) : St × Int :=
  if s.dead then (s, 2) else if s.step.2 then (s.step.1.dies s.kept, 2) else (s.step.1.becomes s.step.1.image, 0)
def St.arm (s : St) (a : Int) (ks : List Int) : St × Int :=
  if s.dead then (s, 2) else if a < 0 then (s, 1) else ({ s with armed := a.toNat, kept := ks }, 0)
def St.crash (s : St) (ks : List Int) : St × Int := if s.dead then (s, 2) else (s.dies ks, 0)
def St.revive (s : St) : St := { s with armed := 0, dead := false }
def St.read (s : St) (a c : Int) : List UInt8 × Int :=
  if s.dead then ([], 2) else if a < 0 ∨ c < 0 ∨ (s.n : Int) < a ∨ (s.n : Int) - a < c then ([], 171)
  else ((List.range c.toNat).flatMap (fun i => (s.un (a.toNat + i)).getD ((s.safe.drop (64 * (a.toNat + i))).take 64)), 0)

theorem wrs_ok : ∀ (m k : Nat) (l : List UInt8) (s : St), s.Ok → k + m ≤ s.n → 64 * m ≤ l.length → (wrs m k l s).1.Ok ∧ (wrs m k l s).1.n = s.n
  | 0, _, _, s, hs, _, _ => ⟨hs, rfl⟩
  | m + 1, k, l, s, hs, h1, h2 => by
    have h3 : (s.wr1 k (l.take 64)).Ok := wr1_ok hs (by omega) (by rw [List.length_take]; omega)
    have h4 := step_ok h3
    have hn : (s.wr1 k (l.take 64)).step.1.n = s.n := step_n _
    rw [wrs]
    split
    · exact ⟨dies_ok h4 _, (dies_n h4 _).trans hn⟩
    · obtain ⟨h5, h6⟩ := wrs_ok m (k + 1) (l.drop 64) _ h4 (by omega) (by rw [List.length_drop]; omega)
      exact ⟨h5, h6.trans hn⟩

theorem write_ok {s : St} (hs : s.Ok) (a : Int) (l : List UInt8) : (s.write a l).1.Ok ∧ (s.write a l).1.n = s.n := by
  unfold St.write
  split
  · exact ⟨hs, rfl⟩
  split
  · exact ⟨hs, rfl⟩
  split
  · exact ⟨hs, rfl⟩
  · rename_i h
    exact wrs_ok _ _ _ s hs (by omega) (by omega)
theorem image_length {s : St} (hs : s.Ok) : s.image.length = s.safe.length := left_length hs _
theorem sync_ok {s : St} (hs : s.Ok) : s.sync.1.Ok ∧ s.sync.1.n = s.n := by
  have h4 := step_ok hs
  unfold St.sync
  split
  · exact ⟨hs, rfl⟩
  split
  · exact ⟨dies_ok h4 _, (dies_n h4 _).trans (step_n s)⟩
  · exact ⟨becomes_ok h4 (image_length h4), (becomes_n (image_length h4)).trans (step_n s)⟩
theorem arm_ok {s : St} (hs : s.Ok) {a : Int} (ha : a ≤ 9223372036854775807) (ks : List Int) : (s.arm a ks).1.Ok ∧ (s.arm a ks).1.n = s.n := by
  unfold St.arm
  split
  · exact ⟨hs, rfl⟩
  split
  · exact ⟨hs, rfl⟩
  · exact ⟨⟨hs.safe, hs.n1, hs.n2, hs.un, by show a.toNat ≤ _; omega⟩, rfl⟩
theorem crash_ok {s : St} (hs : s.Ok) (ks : List Int) : (s.crash ks).1.Ok ∧ (s.crash ks).1.n = s.n := by
  unfold St.crash
  split
  · exact ⟨hs, rfl⟩
  · exact ⟨dies_ok hs ks, dies_n hs ks⟩
theorem revive_ok {s : St} (hs : s.Ok) : s.revive.Ok ∧ s.revive.n = s.n := ⟨⟨hs.safe, hs.n1, hs.n2, hs.un, by show 0 ≤ _; omega⟩, rfl⟩

end Go.Proofs.Ytjkhcfdflcndkaa.D
