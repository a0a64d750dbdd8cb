/-
  A pager's Live. No condition beyond the sizes that are named.
-/
import Derived.Test.YtjkhcfdflcndkaaGW
namespace Go.Proofs.Ytjkhcfdflcndkaa.D
open Go.RowKit Go.Maps Go.Shelf
set_option linter.unusedVariables false
set_option linter.unusedSimpArgs false

theorem is_enter (args : Array Value) (w : World) : (callFunc 36 args).run Try.prog w = .ok (.enter 36 args) w := by kernel_rfl

theorem is_true {P : PSt} {k : Int} (h : P.is k = true) : 0 ≤ k ∧ k < P.pages := by unfold PSt.is at h; simpa using h

theorem may_is {w : World} {p g bm ml mt : Nat} {P : PSt} {S : St} (h : PD w p g bm ml mt P S) : May w 36 #[.pointer (some ⟨p, 0, none⟩)] #[] P.is := by
  refine ⟨is_enter, fun i w' h1 h2 hf => ?_⟩
  have hl := h.lt
  have hP : PAt w' p g ml mt P := ⟨hf.at h.pa.1 (by omega), h.pa.2.1.keep hf (by omega), h.pa.2.2.1.keep hf (by omega), h.pa.2.2.2⟩
  exact (is_c w' p g ml mt P hP i).mono (fun e w'' x => ⟨x.1, x.2 ▸ Fr.refl _ _⟩)

set_option maxRecDepth 100000 in
theorem plive_c (w : World) (p g bm ml mt : Nat) (P : PSt) (S : St) (h : PD w p g bm ml mt P S) (hp : P.pages ≤ 4096) (v : Value) (l : List Int) (hv : IntsV w v l) (hl : ∀ x ∈ l, -9223372036854775808 ≤ x ∧ x ≤ 9223372036854775807) :
    Calls Try.prog 21 #[.pointer (some ⟨p, 0, none⟩), v] w fun e w' => e = .returned (.int .i64 (P.setLive l).2) ∧ PTurn w w' p g bm ml mt (P.setLive l).1 S := by
  have HSET := hid (set_c w v l 36 #[.pointer (some ⟨p, 0, none⟩)] #[] P.is P.pages hv hl (may_is h) (fun i hi => is_true hi) hp)
  have HD := hid h
  have hmf : ∀ (fn : Fn) (first cap : Array Value) (w : World), (Instr.makeFunc fn first cap).run Try.prog w = .ok (.func fn first cap) w := fun _ _ _ _ => rfl
  obtain ⟨a, cap, rfl, _⟩ := hv
  clear h hp hl
  cases hok : setOk P.is l with
  | false =>
    have HE := hid (show P.setLive l = (P, 191) by unfold PSt.setLive; rw [if_neg (by simp [hok])])
    have HOK := hid hok
    rw [HE.out]
    clear hok
    go_enter Try.func21, Try.ntmps21
    go_wp2_with fail
    refine HSET.out.mono ?_
    rintro e w2 ⟨hf, _, h2⟩
    have HF := hid hf
    rcases h2 HOK.out with rfl | ⟨B, rfl, _⟩
    · clear h2 hf
      go_wp2_with fail
      go_ret
      exact ⟨rfl, PTurn.self HD.out HF.out⟩
    · clear h2 hf
      go_wp2_with fail
      go_ret
      exact ⟨rfl, PTurn.self HD.out HF.out⟩
  | true =>
    have HE := hid (show P.setLive l = ({ P with live := fun i => l.contains i }, 0) by unfold PSt.setLive; rw [if_pos hok])
    have HOK := hid hok
    rw [HE.out]
    clear hok
    go_enter Try.func21, Try.ntmps21
    go_wp2_with fail
    refine HSET.out.mono ?_
    rintro e w2 ⟨hf, h1, _⟩
    have HF := hid hf
    obtain ⟨B, rfl, hB, hBs⟩ := h1 HOK.out
    have HB := hid hB
    have HD2 := hid (HD.out.stay hf)
    have c6 : w2.cell? ⟨p, 6, none⟩ = some (.map (some ml)) := cell_at HD2.out.pa.1 6
    have f6 : w2.frozen? ⟨p, 6, none⟩ = false := frozen_at HD2.out.pa.1 6
    clear h1 hf hB
    go_wp2_with fail
    go_ret
    have hd := HD2.out
    have hl := HD.out.lt
    have hf3 := fr_set1 w2 p 6 (.map (some B))
    obtain ⟨es, ck, hm⟩ := HB.out.isMap
    have hpB : B ≠ p := by omega
    have hne := hd.ne
    refine ⟨rfl, bm, B, ?_, Or.inl rfl, Or.inr hBs, (fr_no HF.out).trans hf3 (fun i _ e => Or.inl e)⟩
    have hpt : PAt (w2.setCell ⟨p, 6, none⟩ (.map (some B))) p g B mt { P with live := fun i => l.contains i } := by
      refine ⟨?_, HB.out.keep hf3 hpB, hd.pa.2.2.1.keep hf3 (by omega), by omega⟩
      rw [set_at hd.pa.1 6]
      rfl
    have hd3 : PD (w2.setCell ⟨p, 6, none⟩ (.map (some B))) p g bm ml mt P S → True := fun _ => trivial
    refine ⟨hpt, hd.da.keep hf3 (by omega) (by omega) (fun b cur hb' e => ?_), by omega, hd.n2⟩
    subst e
    rw [hd.pa.1] at hb'
    injection hb' with hb'
    injection hb' with _ e
    exact absurd e (by decide)

end Go.Proofs.Ytjkhcfdflcndkaa.D
