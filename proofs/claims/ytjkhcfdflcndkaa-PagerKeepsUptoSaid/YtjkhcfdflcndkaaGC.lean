/-
  A pager's Commit: the cases that write nothing. No condition beyond the sizes that are named.
-/
import Derived.Test.YtjkhcfdflcndkaaGF
namespace Go.Proofs.Ytjkhcfdflcndkaa.D
open Go.RowKit Go.Maps Go.Shelf
set_option linter.unusedVariables false
set_option linter.unusedSimpArgs false

theorem cl_enter (args : Array Value) (w : World) : (callFunc 35 args).run Try.prog w = .ok (.enter 35 args) w := by kernel_rfl

set_option maxRecDepth 100000 in
theorem cl_c (w : World) (p g bm ml mt x : Nat) (P : PSt) (S : St) (h : PD w p g bm ml mt P S) (hx : w.heap[x]? = some (.cells #[.pointer (some ⟨p, 0, none⟩)] 22)) (i : Int) (h1 : -9223372036854775808 ≤ i) (h2 : i ≤ 9223372036854775807) :
    Calls Try.prog 35 #[.int .i64 i, .pointer (some ⟨x, 0, none⟩)] w fun e w' => e = .returned (.bool (P.is i && P.used i)) ∧ Fr (fun _ => False) w w' := by
  have HI := hid (is_c w p g ml mt P h.pa i)
  have HU := hid (used_c w p g ml mt P h.pa i h1 h2)
  have c0 : w.cell? ⟨x, 0, none⟩ = some (.pointer (some ⟨p, 0, none⟩)) := cell_at hx 0
  clear h hx
  cases hi : P.is i with
  | false =>
    rw [hi] at HI
    clear hi HU
    go_enter Try.func35, Try.ntmps35
    go_wp2_with fail
    refine HI.out.mono ?_
    rintro e w2 ⟨rfl, rfl⟩
    go_wp2_with fail
    go_ret
    exact ⟨rfl, Fr.refl _ _⟩
  | true =>
    rw [hi] at HI
    obtain ⟨u, hu⟩ : ∃ u, u = P.used i := ⟨_, rfl⟩
    rw [← hu] at HU ⊢
    clear hi hu
    go_enter Try.func35, Try.ntmps35
    go_wp2_with fail
    refine HI.out.mono ?_
    rintro e w2 ⟨rfl, rfl⟩
    go_wp2_with fail
    refine HU.out.mono ?_
    rintro e w3 ⟨rfl, hf3⟩
    go_wp2_with fail
    go_ret
    exact ⟨rfl, hf3⟩

theorem may_cl {w : World} {p g bm ml mt x : Nat} {P : PSt} {S : St} (h : PD w p g bm ml mt P S) (hx : w.heap[x]? = some (.cells #[.pointer (some ⟨p, 0, none⟩)] 22)) : May w 35 #[] #[.pointer (some ⟨x, 0, none⟩)] (fun i => P.is i && P.used i) := by
  refine ⟨cl_enter, fun i w' h1 h2 hf => ?_⟩
  have hl := h.lt
  have hxl := lt_of_at hx
  have hP : PD w' p g bm ml mt P S := ⟨⟨hf.at h.pa.1 (by omega), h.pa.2.1.keep hf (by omega), h.pa.2.2.1.keep hf (by omega), h.pa.2.2.2⟩, h.da.keep hf (by omega) (by omega) (fun b cur hb e => by have := lt_of_at hb; omega), h.n1, h.n2⟩
  exact cl_c w' p g bm ml mt x P S hP (hf.at hx (by omega)) i h1 h2

def PCommitC (w : World) (p g bm ml mt : Nat) (P : PSt) (S : St) (root fr : Int) (v : Value) (l : List Int) : Prop :=
  Calls Try.prog 14 #[.pointer (some ⟨p, 0, none⟩), .int .i64 root, .int .i64 fr, v] w fun e w' => e = .returned (.int .i64 (P.commit S root fr l).2.2) ∧ PTurn w w' p g bm ml mt (P.commit S root fr l).1 (P.commit S root fr l).2.1

theorem set_look {w : World} {b : Nat} {f : Int → Bool} (h : SetAt w b f) (k : Int) (h1 : -9223372036854775808 ≤ k) (h2 : k ≤ 9223372036854775807) :
    (Instr.lookup 54 (.map (some b)) (.int .i64 k) true).run Try.prog w = .ok (.tuple #[.agg #[], .bool (f k)]) w := h.look k h1 h2

section
variable (w : World) (p g bm ml mt : Nat) (P : PSt) (S : St) (h : PD w p g bm ml mt P S) (root fr : Int) (v : Value) (l : List Int)
include h

set_option maxRecDepth 100000 in
theorem pcommit_dead (hd : P.dead = true) : PCommitC w p g bm ml mt P S root fr v l := by
  have HD := hid h
  have HE := hid (show P.commit S root fr l = (P, S, 2) by unfold PSt.commit; rw [if_pos hd])
  have hf1 : Fr (fun _ => False) w (w.alloc (.cells #[.pointer (some ⟨p, 0, none⟩)] 22)) := (Fr.refl _ w).alloc _
  have k8 : (w.alloc (.cells #[.pointer (some ⟨p, 0, none⟩)] 22)).cell? ⟨p, 8, none⟩ = some (.bool true) := hd ▸ cell_at (hf1.at h.pa.1 (fun f => f)) 8
  have HF := hid hf1
  unfold PCommitC
  rw [HE.out]
  clear h hd hf1
  go_enter Try.func14, Try.ntmps14
  go_wp2_with fail
  go_ret
  exact ⟨rfl, PTurn.self HD.out HF.out⟩

set_option maxHeartbeats 4000000 in
set_option maxRecDepth 100000 in
theorem pcommit_not (hp : P.pages ≤ 4096) (hv : IntsV w v l) (hl : ∀ x ∈ l, -9223372036854775808 ≤ x ∧ x ≤ 9223372036854775807) (r1 : -9223372036854775808 ≤ root) (r2 : root ≤ 9223372036854775807) (hd : P.dead = false) (hm : P.mayCommit root l = false) : PCommitC w p g bm ml mt P S root fr v l := by
  have HD := hid h
  have HE := hid (show P.commit S root fr l = (P, S, 191) by unfold PSt.commit; rw [if_neg (by simp [hd]), if_pos hm])
  have hf1 : Fr (fun _ => False) w (w.alloc (.cells #[.pointer (some ⟨p, 0, none⟩)] 22)) := (Fr.refl _ w).alloc _
  have hnew := (MapKept.heap_alloc w (.cells #[.pointer (some ⟨p, 0, none⟩)] 22)).1
  obtain ⟨w1, hw1⟩ : ∃ w1, w1 = w.alloc (.cells #[.pointer (some ⟨p, 0, none⟩)] 22) := ⟨_, rfl⟩
  rw [← hw1] at hf1 hnew
  obtain ⟨x, hx⟩ : ∃ x, x = w.heap.size := ⟨_, rfl⟩
  rw [← hx] at hnew
  have HD1 := hid (h.stay hf1)
  have k8 : w1.cell? ⟨p, 8, none⟩ = some (.bool false) := hd ▸ cell_at HD1.out.pa.1 8
  have HSET := hid (set_c w1 v l 35 #[] #[.pointer (some ⟨x, 0, none⟩)] (fun i => P.is i && P.used i) P.pages (hv.stay hf1) hl (may_cl HD1.out hnew) (fun i hi => is_true (by simp at hi; exact hi.1)) hp)
  have HF1 := hid hf1
  have HX := hid hnew
  have hmf : ∀ (fn : Fn) (first cap : Array Value) (w : World), (Instr.makeFunc fn first cap).run Try.prog w = .ok (.func fn first cap) w := fun _ _ _ _ => rfl
  have hnil : ∀ W : World, (Instr.lookup 54 (.map none) (.int .i64 root) true).run Try.prog W = .ok (.tuple #[.agg #[], .bool false]) W := fun W => by kernel_rfl
  have HLK := hid (fun (W : World) (b : Nat) (f : Int → Bool) (hs : SetAt W b f) => hs.look root r1 r2)
  obtain ⟨a, cap, rfl, _⟩ := hv
  have HM := hid hm
  unfold PCommitC
  rw [HE.out]
  rw [hw1] at k8
  have HW1 := hid hw1
  have HXE := hid hx
  clear h hd hf1 hnew hm hw1 hx hl
  go_enter Try.func14, Try.ntmps14
  go_wp2_with fail
  rw [← HW1.out, ← HXE.out]
  refine HSET.out.mono ?_
  rintro e w2 ⟨hf, h1, h2⟩
  have HF := hid (HF1.out.trans hf (fun _ _ f => f))
  have H1 := hid h1
  have H2 := hid h2
  clear hf h1 h2 k8
  cases hok : setOk (fun i => P.is i && P.used i) l with
  | false =>
    have HOK := hid hok
    clear hok
    rcases H2.out HOK.out with rfl | ⟨B, rfl, hB⟩
    · go_wp2_with fail
      go_ret
      exact ⟨rfl, PTurn.self HD.out (HF.out.alloc _)⟩
    · have hlk := HLK.out _ _ _ hB
      obtain ⟨u, hu⟩ : ∃ u, u = l.contains root := ⟨_, rfl⟩
      rw [← hu] at hlk
      clear hB hu
      go_wp2_with fail
      go_ret
      exact ⟨rfl, PTurn.self HD.out (HF.out.alloc _)⟩
  | true =>
    have hmm : (decide (root = -1) || l.contains root) = false := by
      have := HM.out
      unfold PSt.mayCommit at this
      rw [hok] at this
      simpa using this
    obtain ⟨B, rfl, hB, _⟩ := H1.out hok
    have hlk := HLK.out _ _ _ hB
    simp only [Bool.or_eq_false_iff] at hmm
    rw [hmm.2] at hlk
    have q : (root == -1) = false := by have := hmm.1; simpa using this
    have q2 : (root != -1) = true := by have := hmm.1; simpa using this
    clear hB hmm hok
    go_wp2_with fail
    go_ret
    exact ⟨rfl, PTurn.self HD.out (HF.out.alloc _)⟩
end

end Go.Proofs.Ytjkhcfdflcndkaa.D
