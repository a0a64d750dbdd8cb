/-
  Both pagers opened anew. No condition.
-/
import Derived.Test.YtjkhcfdflcndkaaGreatS2
import Derived.Test.YtjkhcfdflcndkaaGreatKO12
import Derived.Test.YtjkhcfdflcndkaaGreatKO30
namespace Go.Proofs.YtjkhcfdflcndkaaGreat.D
open Go.RowKit Go.Maps Go.Shelf
set_option linter.unusedVariables false
set_option linter.unusedSimpArgs false

theorem open_two {S : St} {f c : Int} : ((openP S f c).1 = none ∧ (openP S f c).2 ≠ 0) ∨ ∃ P, openP S f c = (some P, 0) := by
  unfold openP
  split
  · rename_i h; exact Or.inl ⟨rfl, h⟩
  · split
    · exact Or.inl ⟨rfl, by simp⟩
    · exact Or.inr ⟨_, rfl⟩
theorem format_two {S : St} {f c n : Int} : ((formatP S f c n).1 = none ∧ (formatP S f c n).2.2 ≠ 0) ∨ ∃ P, (formatP S f c n).1 = some P := by
  unfold formatP
  split
  · rename_i h; exact Or.inl ⟨rfl, h⟩
  · split
    · exact Or.inl ⟨rfl, by simp⟩
    · exact Or.inr ⟨_, rfl⟩

def OpenedPost (w : World) (g bm m b1 b2 : Nat) (S : St) (f c : Int) (e : Ending) (w' : World) : Prop :=
  Fr (fun _ => False) w w' ∧ (e = .returned (.tuple #[.pointer none, .pointer none, .bool true]) ∨
    ∃ P p ml mt q ub, e = .returned (.tuple #[.pointer (some ⟨p, 0, none⟩), .pointer (some ⟨q, 0, none⟩), .bool true]) ∧ (openP S f c).1 = some P ∧ PD w' p g bm ml mt P S ∧ RPD w' q m ub b1 b2 P S ∧ w.heap.size ≤ p ∧ w.heap.size ≤ ml ∧ w.heap.size ≤ mt ∧ w.heap.size ≤ q)

set_option maxHeartbeats 8000000 in
set_option maxRecDepth 100000 in
theorem opened_c (w : World) (g bm m b1 b2 : Nat) (S : St) (hA : At w g bm S) (hR : RA w m b1 b2 S) (hs : S.Ok) (im : List UInt8) (f c n0 : Int) (u : Value) (f1 : -9223372036854775808 ≤ f) (f2 : f ≤ 9223372036854775807) :
    Calls Tryz.prog 35 #[.pointer (some ⟨g, 0, none⟩), .pointer (some ⟨m, 0, none⟩), .agg #[.string (bs im), .int .i64 f, .int .i64 c, .int .i64 n0, u]] w (OpenedPost w g bm m b1 b2 S f c) := by
  obtain ⟨w1, hw1⟩ : ∃ w1, w1 = w.alloc (.cells #[.string (bs im), .int .i64 f, .int .i64 c, .int .i64 n0, u] 24) := ⟨_, rfl⟩
  obtain ⟨x, hx⟩ : ∃ x, x = w.heap.size := ⟨_, rfl⟩
  have hf1 : Fr (fun _ => False) w w1 := hw1 ▸ (Fr.refl _ w).alloc _
  have hb : w1.heap[x]? = some (.cells #[.string (bs im), .int .i64 f, .int .i64 c, .int .i64 n0, u] 24) := by rw [hw1, hx]; exact (MapKept.heap_alloc w _).1
  have k1 : w1.cell? ⟨x, 1, none⟩ = some (.int .i64 f) := cell_at hb 1
  have k2 : w1.cell? ⟨x, 2, none⟩ = some (.int .i64 c) := cell_at hb 2
  have HF1 := hid hf1
  have HB := hid hb
  have HA1 := hid (hA.stay hf1)
  have HR1 := hid (RC.stay hR hf1 : RA w1 m b1 b2 S)
  have HS := hid hs
  have HW1 := hid hw1
  have HX := hid hx
  have HO := hid (popen_c w1 g bm S HA1.out hs f c f1 f2)
  have HRO := hid (fun W (h : RA W m b1 b2 S) => rpopen_c W m b1 b2 S h hs f c f1 f2)
  unfold POpenC at HO
  unfold ROpenC at HRO
  clear hA hR hs hf1 hb
  rw [hw1, hx] at k1 k2
  clear hw1 hx
  go_enter Tryz.func35, Tryz.ntmps35
  go_wp2_with fail
  rw [← HW1.out, ← HX.out]
  refine HO.out.mono ?_
  intro e w2 hp2
  have HP2 := hid hp2
  have HF2 := hid (HF1.out.trans hp2.1 (fun _ _ f => f))
  have HA2 := hid (HA1.out.stay hp2.1)
  have HR2 := hid (RC.stay HR1.out hp2.1 : RA w2 m b1 b2 S)
  have hb2 := hp2.1.at HB.out (fun f => f)
  have j1 : w2.cell? ⟨x, 1, none⟩ = some (.int .i64 f) := cell_at hb2 1
  have j2 : w2.cell? ⟨x, 2, none⟩ = some (.int .i64 c) := cell_at hb2 2
  clear hp2 hb2 k1 k2 HO
  rcases open_two (S := S) (f := f) (c := c) with ⟨h0, hc⟩ | ⟨P, h0⟩
  · have h2 := HP2.out.2.2 h0
    obtain ⟨C, hC⟩ : ∃ C, C = (openP S f c).2 := ⟨_, rfl⟩
    rw [← hC] at h2 hc
    subst h2
    have HC := hid hC
    have H0 := hid h0
    have q0 : (C == C) = true := by simp
    clear hC h0
    go_wp2_with fail
    refine (HRO.out _ HR2.out).mono ?_
    intro e w3 hp3
    have h3 := hp3.2.2 H0.out
    rw [← HC.out] at h3
    subst h3
    have HF3 := hid (HF2.out.trans hp3.1 (fun _ _ f => f))
    clear hp3 HRO
    go_wp2_with fail
    go_ret3
    exact ⟨HF3.out, Or.inl rfl⟩
  · obtain ⟨p, ml, mt, rfl, hpd, l1, l2, l3⟩ := HP2.out.2.1 P (by rw [h0])
    have HPD := hid hpd
    have HL := hid (And.intro l1 (And.intro l2 l3))
    have H0 := hid h0
    clear h0 hpd l1 l2 l3
    go_wp2_with fail
    refine (HRO.out _ HR2.out).mono ?_
    intro e w3 hp3
    obtain ⟨q, ub, rfl, hrd, l4, l5⟩ := hp3.2.1 P (by rw [H0.out])
    have HF3 := hid (HF2.out.trans hp3.1 (fun _ _ f => f))
    have HP3 := hid (HPD.out.stay hp3.1)
    have HRD := hid hrd
    have HL4 := hid l4
    clear hp3 HRO hrd l4 l5
    go_wp2_with fail
    go_ret3
    have s1 := HF1.out.size
    have s2 := HF2.out.size
    have s3 := HL.out
    have s4 := HL4.out
    exact ⟨HF3.out, Or.inr ⟨P, p, ml, mt, q, ub, rfl, by rw [H0.out], HP3.out, HRD.out, by omega, by omega, by omega, by omega⟩⟩

end Go.Proofs.YtjkhcfdflcndkaaGreat.D
