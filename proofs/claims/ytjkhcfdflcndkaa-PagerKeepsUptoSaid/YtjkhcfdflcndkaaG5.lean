/-
  Alloc. No condition beyond the sizes that are named.
-/
import Derived.Test.YtjkhcfdflcndkaaG4
namespace Go.Proofs.Ytjkhcfdflcndkaa.D
open Go.RowKit Go.Maps Go.Shelf
set_option linter.unusedVariables false
set_option linter.unusedSimpArgs false

def PSt.pick (P : PSt) : Nat → Nat → Option Nat
  | 0, _ => none
  | d + 1, i => if P.used i then P.pick d (i + 1) else some i
def PSt.take (P : PSt) (i : Int) : PSt := { P with taken := fun j => j == i || P.taken j }
def PSt.alloc (P : PSt) : PSt × Int × Int := match P.pick P.pages 0 with
  | some i => (P.take i, i, 0)
  | none => (P, 0, 192)

theorem set_block {w : World} {b : Nat} {f : Int → Bool} (h : SetAt w b f) {p : Nat} {c : Array Value} {T : TypeId} (hp : w.heap[p]? = some (.cells c T)) : p ≠ b := by
  obtain ⟨n, D, ⟨es, clock, hb, _⟩, _⟩ := h
  rintro rfl
  rw [hp] at hb
  cases hb

set_option maxHeartbeats 4000000 in
theorem alloc_c (w : World) (p g ml mt : Nat) (P : PSt) (h : PAt w p g ml mt P) (hp : P.pages ≤ 4096) (ht : ∀ i, P.taken i = true → 0 ≤ i ∧ i < (P.pages : Int)) :
    Calls Try.prog 6 #[.pointer (some ⟨p, 0, none⟩)] w fun e w' => e = .returned (.tuple #[.int .i64 P.alloc.2.1, .int .i64 P.alloc.2.2]) ∧ PAt w' p g ml mt P.alloc.1 ∧ Fr (fun i => i = mt) w w' := by
  have HP := hid h
  have k2 : w.cell? ⟨p, 2, none⟩ = some (.int .i64 P.pages) := cell_at h.1 2
  have HT := hid ht
  obtain ⟨n, hn⟩ : ∃ n, n = P.pages := ⟨_, rfl⟩
  have HN := hid hn
  have HA := hid (show P.alloc = match P.pick n 0 with | some i => (P.take i, (i : Int), 0) | none => (P, 0, 192) by rw [hn]; rfl)
  rw [← hn] at k2 hp
  clear h hn ht
  go_enter Try.func6, Try.ntmps6
  go_wp2_with fail
  go_loopw [9] (fun v9 wr => ∃ i : Nat, v9 = .int .i64 i ∧ i ≤ n ∧ Hid (P.pick n 0 = P.pick (n - i) i) ∧ Hid (Fr (fun _ => False) w wr)) (fun v _ => n - (intOf v).toNat)
  case atStart => exact ⟨0, rfl, by omega, hid rfl, hid (Fr.refl _ _)⟩
  case round =>
    obtain ⟨i, rfl, hi, HK, HF⟩ := hrel
    by_cases hend : i = n
    · have HZ := hid (show P.alloc = (P, 0, 192) by rw [HA.out, HK.out, hend, Nat.sub_self]; rfl)
      subst hend
      go_wp2_with fail
      go_ret2
      rw [HZ.out]
      exact ⟨rfl, HP.out.stay HF.out, fr_no HF.out⟩
    · have HU := hid (used_c wr p g ml mt P (HP.out.stay HF.out) i (by omega) (by omega))
      have hne : n - i = (n - (i + 1)) + 1 := by omega
      have HST := hid (show P.pick (n - i) i = if P.used i then P.pick (n - (i + 1)) (i + 1) else some i by rw [hne]; rfl)
      cases hu : P.used i with
      | true =>
        have HS := hid (show P.pick n 0 = P.pick (n - (i + 1)) (i + 1) by rw [HK.out, HST.out, if_pos hu])
        rw [hu] at HU
        clear hu hne
        go_wp2_with fail
        refine HU.out.mono ?_
        rintro e w2 ⟨rfl, hf2⟩
        have HF2 := hid (HF.out.trans hf2 (fun _ _ f => f))
        clear hf2
        go_wp2_with fail
        exact ⟨⟨i + 1, by go_num, by omega, HS, HF2⟩, by simp [intOf]; omega⟩
      | false =>
        have HZ := hid (show P.alloc = (P.take i, (i : Int), 0) by rw [HA.out, HK.out, HST.out, if_neg (by simp [hu])])
        rw [hu] at HU
        clear hu hne
        go_wp2_with fail
        refine HU.out.mono ?_
        rintro e w2 ⟨rfl, hf2⟩
        have HF2 := hid (HF.out.trans hf2 (fun _ _ f => f))
        have HP2 := hid (HP.out.stay HF2.out)
        have k7 : w2.cell? ⟨p, 7, none⟩ = some (.map (some mt)) := cell_at HP2.out.1 7
        obtain ⟨w3, hrun, hset, hf3⟩ := HP2.out.2.2.1.put HT.out (by have := HN.out; omega) (i : Int) (by omega) (by omega)
        have HP3 := hid (show PAt w3 p g ml mt (P.take i) from ⟨hf3.at HP2.out.1 (set_block HP2.out.2.2.1 HP2.out.1), HP2.out.2.1.keep hf3 HP2.out.2.2.2, hset, HP2.out.2.2.2⟩)
        have HF3 := hid ((fr_no HF2.out).trans hf3 (fun _ _ e => e) : Fr (fun i => i = mt) w w3)
        clear hf2 hset hf3
        go_wp2_with fail
        go_ret2
        rw [HZ.out]
        exact ⟨rfl, HP3.out, HF3.out⟩

end Go.Proofs.Ytjkhcfdflcndkaa.D
