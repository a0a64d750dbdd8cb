/-
  DiskArms returns true, whatever the input. No condition.
-/
import Derived.Test.YtcklnhjjjapfjaaRows
import Derived.WalkKit
import Derived.ProofKit
import Derived.OpenShut
import Derived.Deep.DeepHandedRow
import Derived.SizedLaws
import Derived.Test.YtcklnhjjjapfjaaArg
import Derived.Test.YtcklnhjjjapfjaaDB
namespace Go.Proofs.Ytcklnhjjjapfjaa.diskArms
open Go.ChangeShapes Go.WideShapes Go.ChangeAt Go.RowKit Go.Deep Go.Joins Go.Proofs.Ytcklnhjjjapfjaa.D
set_option linter.unusedVariables false

theorem own : ownKnob Try.prog.godebug = none := by kernel_rfl
theorem laidOut : laidOutB Try.prog = true := by kernel_rfl

set_option maxRecDepth 100000 in
theorem lifted (os : Os) (started : os.Started) (H : Type) (enc : TypeId × Value → H) :
    ReturnsInHanded {} Try.checked os 5 .any (Rows.diskArmsSpec.pre6 enc Try.prog Try.f5 Rows.diskArmsRow.domain false) (Rows.diskArmsSpec.post enc Try.prog Try.f5 false true false false) := by
  refine returnsInHanded_of_change_sized (C := Try.checked) own started (by kernel_rfl) Try.func5
    (ChangeSpec.witness6 (enc := enc) (C := Try.checked) false ⟨#[], #[.agg #[.int .i64 0, .int .i64 0, .int .i64 0, .int .i64 0, .slice none 0 0]], []⟩ 8 (by kernel_rfl) (by kernel_rfl) (by kernel_rfl) (by kernel_rfl)) ?_
  intro W base args ds gs before hval0 hW hcnd hsz _
  have hval : ∀ (j : Nat) t v, Try.f5.params[j]? = some t → args[j]? = some v → Value.okWide Try.prog W .any base t v := hval0
  have hW' := hW
  obtain ⟨p, q, hA0, hV, rfl, hfz, hnd⟩ := hW
  have hA : DataW.TrodAll enc Try.prog W 0 (fun _ => true) true Try.f5.params.toList args.toList ds p := hA0
  rw [Try.params5] at hA hval
  obtain ⟨v0, vs0, d0, ds0, p0, q0, hargs, rfl, rfl, h0, r0⟩ := trodAll_cons hA
  obtain ⟨rfl, rfl, rfl⟩ := trodAll_nil r0
  obtain rfl : args = #[v0] := by cases args; simp_all
  obtain ⟨rfl, rfl⟩ := trodVars_none hV
  simp only [List.append_nil] at hW'
  have k0 := h0
  have lt0 : ∀ x ∈ p0, x.block < W.heap.size := by obtain ⟨m, hm⟩ := k0; exact DataW.trod_lt m _ _ _ hm
  obtain ⟨o0, ks0, rfl, iv0, wf0, dk0, hd0, hdk0⟩ := open_arms (hval 0 43 v0 rfl rfl) h0
  clear hA0 hval0
  obtain ⟨p0', p1', p2', p3', p4'⟩ := o0
  have hkl := arms_sized hsz (by rfl) (congrArg some hd0) hdk0
  obtain ⟨av, cap, hkv, hl1, hl2⟩ := iv0
  simp only at hkv
  subst hkv
  have w1 := wf_lo wf0.2.1
  have w2 := wf_lo wf0.2.2.1
  have w3 := wf_lo wf0.2.2.2
  refine (arms_law p0' p1' p2' p3' av cap ks0 W ⟨av, cap, rfl, hl1, hl2⟩ hkl w1.1 w1.2 w2.2 w3.1 w3.2).mono fun e W' ⟨he, hf⟩ => ?_
  have bel : Below W.heap.size W W' := hf.toBelow (Nat.le_refl _) (fun i f => f.elim)
  subst he
  exact ⟨_, rfl, _, _, _, [], _, [], hW', trodAll_mk1 (shut_bool Try.underlying4 _), (trodAll_cons_mk (Below.trod laidOut (by kernel_rfl) (of_decide_eq_true (by kernel_rfl)) k0 bel lt0) trodAll_mk0), rfl, bel.frame _, fun h => by cases h⟩

theorem over : Rows.diskArmsRow.holds Try.pinned (OpenSpec.ofChange Rows.diskArmsSpec) :=
  OpenClaim.holds_of_wide 5 Try.f5 rfl rfl rfl rfl rfl rfl rfl ⟨rfl, rfl, rfl, rfl, rfl⟩ rfl rfl rfl rfl rfl (by kernel_rfl) Try.func5 (by kernel_rfl)
    (of_decide_eq_true (by kernel_rfl)) (by unfold Func.isWrapper; first | (rw [if_pos (by decide +kernel)]; kernel_rfl) | (rw [if_neg (by decide +kernel)]; exact ⟨rfl, rfl⟩))
    (fun os started H enc _ => lifted os started H enc)

/-- The statement. -/
theorem proved : Rows.DiskArmsSaid :=
  over
#print axioms proved
end Go.Proofs.Ytcklnhjjjapfjaa.diskArms
