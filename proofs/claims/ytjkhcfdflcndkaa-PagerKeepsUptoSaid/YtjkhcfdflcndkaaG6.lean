/-
  Drop. No condition.
-/
import Derived.Test.YtjkhcfdflcndkaaG5
namespace Go.Proofs.Ytjkhcfdflcndkaa.D
open Go.RowKit Go.Maps Go.Shelf
set_option linter.unusedVariables false
set_option linter.unusedSimpArgs false

theorem SetAt.clear {w : World} {b : Nat} {f : Int → Bool} (h : SetAt w b f) (ty : TypeId) :
    ∃ w', (Builtin.clear_ #[54] ty #[.map (some b)]).run Try.prog w = .ok (.tuple #[]) w' ∧ SetAt w' b (fun _ => false) ∧ Fr (· = b) w w' := by
  obtain ⟨n, D, ⟨es, clock, hb, F, hs, hD⟩, _⟩ := h
  have hturn : w.mapTurned (ChangeMaps.setBlock w b (.map #[] clock)) b := ⟨es, clock, #[], clock, hb, rfl⟩
  refine ⟨ChangeMaps.setBlock w b (.map #[] clock), ?_, ⟨0, .map [], ⟨#[], clock, ChangeMaps.heap_setBlock_same hb _, ⟨by simp, MapKept.stamped_empty clock, by simp⟩, Nat.le_refl _, rfl⟩, fun i => by simp [Maps.has], fun k hk => by simp [Maps.has] at hk⟩, (Fr.refl _ w).grown hturn.grown (fun i hi _ => by cases hi; rfl)⟩
  simp [Builtin.clear_, run_underlying Try.underlying54, MapKept.run_getObj_map hb, MapKept.run_setObj_map _ hb, Result.andThen]
  rfl

def PSt.drop (P : PSt) : PSt := { P with taken := fun _ => false }

set_option maxRecDepth 100000 in
theorem drop_c (w : World) (p g ml mt : Nat) (P : PSt) (h : PAt w p g ml mt P) :
    Calls Try.prog 8 #[.pointer (some ⟨p, 0, none⟩)] w fun e w' => e = .returned (.tuple #[]) ∧ PAt w' p g ml mt P.drop ∧ Fr (· = mt) w w' := by
  have k7 : w.cell? ⟨p, 7, none⟩ = some (.map (some mt)) := cell_at h.1 7
  have hcl := fun ty => h.2.2.1.clear ty
  obtain ⟨w3, hrun, hset, hf3⟩ := h.2.2.1.clear 0
  have HP3 := hid (show PAt w3 p g ml mt P.drop from ⟨hf3.at h.1 (set_block h.2.2.1 h.1), h.2.1.keep hf3 h.2.2.2, hset, h.2.2.2⟩)
  have HF3 := hid hf3
  clear h hset hf3 hcl
  go_enter Try.func8, Try.ntmps8
  go_wp2_with fail
  go_end0
  exact ⟨rfl, HP3.out, HF3.out⟩

end Go.Proofs.Ytjkhcfdflcndkaa.D
