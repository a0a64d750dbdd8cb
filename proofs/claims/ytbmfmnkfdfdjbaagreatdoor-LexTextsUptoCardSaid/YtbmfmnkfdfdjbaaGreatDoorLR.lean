/-
  A range over a function that has a state of its own in cells, and may end in a panic: the law for a loop whose body never leaves early. No condition.
-/
import Derived.RangeFuncNested
import Derived.RangeFuncBound
import Derived.RangeFuncCalls
import Derived.RangeFuncLeaves
import Derived.WalkKit
import Derived.OwnWalkIn
import Derived.TacticsInMore
import Derived.LoopNIn
import Derived.LoopIn
namespace Go.Proofs.YtbmfmnkfdfdjbaaGreatDoor.D
open Go.RowKit
set_option linter.unusedVariables false

/-- How a round ends: it goes on; what lies from B on and is no cells lies as it lay. -/
def goesOn {α ρ : Type} (B : Nat) (J : List α → ρ → World → Prop) (xs : List α) (r : ρ) (W : World) : Exit → Act → World → Prop
  | .normal, _, W' => KeepsFrom B W W' ∧ J xs r W'
  | _, _, _ => False

/-- The joint invariant minds neither new blocks nor the turn of a block of no cells, from B on. -/
def Minds {α ρ : Type} (B : Nat) (J : List α → ρ → World → Prop) : Prop :=
  ∀ pre r W W' row, J pre r W → W.grownBy W' row → (∀ k, row = some k → B ≤ k ∧ ∃ o : Obj, W.heap[k]? = some o ∧ o.isCells = false) → J pre r W'

theorem range_with {F : Fence} {n : Nat} {P : Program} {α ρ : Type} {g : Operand} {ps : Array Tmp} {assign body : Code} {Q : Exit → Act → World → Prop} {a : Act} {w : World}
    (hro : F.round = none) (h1 : 1 ≤ n) {gf : Nat} {lb : Array Value} (hg : a.eval g = .func (.func gf) #[] lb) (hFg : F.fn gf) (eg : ∀ args w, (callFunc gf args).run P w = .ok (.enter gf args) w)
    {encs : α → Array Value} (hps : ∀ x, (encs x).size = ps.size)
    (J : List α → ρ → World → Prop) (G : List α → ρ → α → Prop) (JD : World → Prop) (JP : List PanicEntry → World → Prop) (r0 : ρ) (hJ : Minds w.heap.size J) (hJD : Minds w.heap.size (fun (_ : List α) (_ : ρ) W => JD W)) (h0 : J [] r0 w) (A : List α → ρ → α → Act → World → Prop) (hA : ∀ x a', Minds w.heap.size (fun pre r W => A pre r x a' W))
    (hassign : ∀ (l : Nat) (pre : List α) (r : ρ) (x : α) (W : World) (K : Act → World → Prop), J pre r W → (∀ a' W', KeepsFrom w.heap.size W W' → A pre r x a' W' → K a' W') →
      assign.wpIn (F.inRound l) (n - 1 - 1) P (Exit.then K (fun _ _ _ => False)) { tmps := (ps.zip (encs x)).foldl (fun t (p, v) => t.setIfInBounds p v) a.tmps, defers := [] } W)
    (hbody : ∀ (l : Nat) (pre : List α) (r : ρ) (x : α) (a' : Act) (W : World), A pre r x a' W → G pre r x → body.wpIn (F.inRound l) (n - 1 - 1) P (goesOn w.heap.size J (pre ++ [x]) r W) a' W)
    (hiter : ∀ (l : Nat) (B : World → Prop) (W : World), (∀ W W', KeepsFrom w.heap.size W W' → B W → B W') →
      (∀ pre r x W1, J pre r W1 → B W1 → G pre r x → YieldAt F (n - 1 - 1) P l (encs x) W1 fun e W' => e = .returned (.bool true) ∧ J (pre ++ [x]) r W' ∧ B W') →
      J [] r0 W → B W → CallsIn F (n - 1) P gf (#[.func (.yield l) #[] #[]] ++ lb) W fun e W' => B W' ∧ (((∃ v, e = .returned v) ∧ JD W') ∨ ∃ ch, e = .panicked ch ∧ JP ch W'))
    (hdone : ∀ (D : Nat) (W : World), w.heap.size ≤ D → JD W → W.heap[D]? = some (.deferred (some [])) → Q .normal { a with defers := { target := .collected D, args := #[] } :: a.defers } W)
    (hpan : ∀ (D : Nat) (ch : List PanicEntry) (W : World), w.heap.size ≤ D → JP ch W → W.heap[D]? = some (.deferred (some [])) → Q (.panic ch) { a with defers := { target := .collected D, args := #[] } :: a.defers } W) :
    (Code.rangeFunc g ps assign body).wpIn F n P Q a w := by
  refine wpIn_rangeFunc ?_
  intro fn hfn
  rw [hro]
  obtain ⟨rec, hrec⟩ : ∃ rec : LoopState → Option Code → Loop, rec = fun st pe => { state := st, pending := pe, fn, tmps := a.tmps, params := ps, assign, body, defers := w.heap.size } := ⟨_, rfl⟩
  obtain ⟨W1, hW1⟩ : ∃ W1, (w.alloc (.deferred (some []))).alloc (.loop (rec .ready none)) = W1 := ⟨_, rfl⟩
  have hL1 : W1.heap[w.heap.size + 1]? = some (.loop (rec .ready none)) := by
    rw [← hW1]; have := World.alloc_heap_new (w.alloc (.deferred (some []))) (.loop (rec .ready none)); rwa [World.size_alloc] at this
  have hK1 : W1.heap[w.heap.size]? = some (.deferred (some [])) := by
    rw [← hW1]; exact (Below.heap_alloc _ _ _ (by simp)).trans (World.alloc_heap_new w _)
  have al : ∀ pre r W (o : Obj), J pre r W → J pre r (W.alloc o) := fun pre r W o h => hJ pre r W _ none h (World.grownBy_alloc W o none) (fun k e => by cases e)
  have pu : ∀ pre r W (l : Nat) (o o' : Obj), J pre r W → w.heap.size ≤ l → W.heap[l]? = some o → o.isCells = false → J pre r (W.putObj l o') := fun pre r W l o o' h hB hl ho =>
    hJ pre r W _ (some l) h (grownBy_putObj' W l o') (fun k e => by cases e; exact ⟨hB, o, hl, ho⟩)
  have hI1 : J [] r0 W1 := by rw [← hW1]; exact al _ _ _ _ (al _ _ _ _ h0)
  refine ⟨w.heap.size + 1, [{ target := .collected w.heap.size, args := #[] }], W1, { target := .fn (.func gf) lb, args := #[.func (.yield (w.heap.size + 1)) #[] #[]] }, W1, gf,
    #[.func (.yield (w.heap.size + 1)) #[] #[]] ++ lb, W1, ?_, ?_, ?_, ?_, fun _ => h1, ?_⟩
  · rw [← hW1, hrec]; exact run_enterLoop_outer _ _ _ _ _
  · simp only [resolve, hg]
    simp [go_sem]
  · intro f' hf'; simp [Target.leads] at hf'; subst hf'; exact hFg
  · simp [invoke, go_sem, eg]
  · refine (hiter (w.heap.size + 1)
      (fun W => W.heap[w.heap.size + 1]? = some (.loop (rec .ready none)) ∧ W.heap[w.heap.size]? = some (.deferred (some [])))
      W1 (fun A B hk hb => ⟨hk.same _ _ (by omega) hb.1 rfl, hk.same _ _ (Nat.le_refl _) hb.2 rfl⟩) ?_ hI1 ⟨hL1, hK1⟩).mono ?_
    · rintro pre r x W hi ⟨hl, hk⟩ hG
      have hlt : w.heap.size + 1 < W.heap.size := (Array.getElem?_eq_some_iff.1 hl).1
      have hy := run_yield (P := P) (args := encs x) hl (by rw [hrec]; exact hps x)
      rw [hrec] at hy
      refine ⟨fn, _, assign, body, hy, roundIn_of_wpIn hfn (hassign _ pre r x W _ hi (fun aa Wa hka hAa => ?_))⟩
      have hla := hka.same _ _ (by omega) hl rfl
      have hlta : w.heap.size + 1 < Wa.heap.size := (Array.getElem?_eq_some_iff.1 hla).1
      have hkda := hka.same _ _ (Nat.le_refl _) hk rfl
      refine ⟨_, run_beginRound hla (by rw [hrec]), ?_⟩
      have hl2 : (Wa.putObj (w.heap.size + 1) (.loop { rec .ready none with state := .busy })).heap[w.heap.size + 1]? = some (.loop { rec .ready none with state := .busy }) := World.putObj_heap_same hlta
      have hk2 : (Wa.putObj (w.heap.size + 1) (.loop { rec .ready none with state := .busy })).heap[w.heap.size]? = some (.deferred (some [])) := (World.putObj_heap_other (by omega)).trans hkda
      refine wpIn_mono (hbody _ pre r x _ _ (hA x aa _ _ _ _ (some (w.heap.size + 1)) hAa (grownBy_putObj' _ _ _) (fun k e => by cases e; exact ⟨by omega, _, hla, rfl⟩)) hG) ?_
      rintro e a3 W3 hp
      cases e with
      | normal =>
        obtain ⟨hk3, hi3⟩ := hp
        have hl3 := hk3.same _ _ (by omega) hl2 rfl
        have hd3 := hk3.same _ _ (Nat.le_refl _) hk2 rfl
        have he := run_endRound (P := P) none hl3
        rw [hrec] at he hl3 ⊢
        refine ⟨_, _, he, rfl, pu _ _ _ _ _ _ hi3 (by omega) hl3 rfl, World.putObj_heap_same (Array.getElem?_eq_some_iff.1 hl3).1, (World.putObj_heap_other (by omega)).trans hd3⟩
      | ret => exact hp.elim
      | exit id => exact hp.elim
      | goto t => exact hp.elim
      | panic ch => exact hp.elim
      | outgrown => exact hp.elim
    · rintro e W2 ⟨⟨hl, hk⟩, ⟨⟨v, rfl⟩, hi⟩ | ⟨ch, rfl, hi⟩⟩
      · exact ⟨none, _, by have := run_endLoop (P := P) hl (by rw [hrec]; simp); rw [hrec] at this; exact this, hdone _ _ (Nat.le_refl _) (hJD [] r0 _ _ (some (w.heap.size + 1)) hi (grownBy_putObj' _ _ _) (fun k e => by cases e; exact ⟨by omega, _, hl, rfl⟩)) ((World.putObj_heap_other (by omega)).trans hk)⟩
      · exact hpan _ _ _ (Nat.le_refl _) hi hk

end Go.Proofs.YtbmfmnkfdfdjbaaGreatDoor.D
