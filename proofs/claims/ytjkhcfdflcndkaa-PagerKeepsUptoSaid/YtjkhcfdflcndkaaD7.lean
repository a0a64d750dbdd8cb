/-
  Write. No condition beyond the disk's own.
-/
import Derived.Test.YtjkhcfdflcndkaaDP
import Derived.Test.YtjkhcfdflcndkaaD6
namespace Go.Proofs.Ytjkhcfdflcndkaa.D
open Go.RowKit Go.Maps Go.Shelf
set_option linter.unusedVariables false
set_option linter.unusedSimpArgs false

theorem At.drew {w : World} {g bm : Nat} {s : St} (h : At w g bm s) : At w.drew g bm s := h.keep (S := fun _ => False) (Fr.refl _ _).drew (fun f => f) (fun f => f) (fun _ _ _ f => f)

theorem own_few {w : World} {g bm : Nat} {s : St} (h : At w g bm s) (hs : s.Ok) : ∃ D, w.ownsMap Try.prog 3 (plainElem (H := Unit) Try.prog 9) bm 4096 D ∧ Says D s.un ∧ ∀ k, Maps.has D k = true → ∃ i : Nat, k = .int .i64 i := by
  obtain ⟨_, m, D, hown, hsays, hk⟩ := h
  have hperm := keys_perm (g := g) hs hown hsays hk
  refine ⟨D, ?_, hsays, hk⟩
  obtain ⟨es, clock, hb, F, hm, hD⟩ := hown
  refine ⟨es, clock, hb, F, ?_, hD⟩
  have h1 := hperm.length_eq
  have h2 : (intKeys D).length = es.size := by rw [hD]; simp [intKeys, length_sorted]
  rw [← h2, ← h1, List.length_map]
  have := List.length_filter_le (fun i => (s.un i).isSome) (List.range s.n)
  have h3 := hs.n2
  simp [St.unl] at *
  omega

theorem upd_un {w : World} {g bm : Nat} {s : St} (h : At w g bm s) (hs : s.Ok) (k : Nat) (hk : k ≤ 9223372036854775807) (l : List UInt8) (hl : l.length = 64) :
    ∃ w', (Instr.mapUpdate 63 (.map (some bm)) (.int .i64 k) (.string (bs l))).run Try.prog w = .ok () w' ∧ At w' g bm (s.wr1 k l) ∧ Fr (· = bm) w w' := by
  have K : Keyed Try.prog 3 := int_keyed Try.underlying3
  have hkey := keyOf_int_mk (P := Try.prog) (k := 3) Try.underlying3 (wf_nat k hk)
  obtain ⟨D, hown, hsays, hks⟩ := own_few h hs
  have hval : plainElem (H := Unit) Try.prog 9 (.string (bs l)) = some (.lit (.string l), []) := by
    have hz : (bs l).size = l.length := by simp [bs, ByteArray.size]
    have := plainElem_string (H := Unit) (P := Try.prog) (e := 9) Try.underlying9 (s := bs l) (by rw [hz, hl]; decide)
    simpa using this
  obtain ⟨w', hrun, hown', hgr⟩ := hown.update K Try.underlying63 (by decide) hkey hval
  have hf : Fr (· = bm) w w' := (Fr.refl _ w).grown hgr (fun i hi _ => by cases hi; rfl)
  have hM := hown.isMap
  have hne := h.ne
  obtain ⟨⟨kv, h1, h2⟩, _⟩ := h
  refine ⟨w', hrun, ⟨⟨kv, hf.at h1 hne, h2.keep hf (fun b cur hb e => ?_)⟩, _, _, hown', ⟨fun i => ?_, fun i z => ?_⟩, fun kl hkl => ?_⟩, hf⟩
  · obtain ⟨es, clock, hb2, _⟩ := hown
    subst e
    rw [hb] at hb2
    cases hb2
  · by_cases e : i = k
    · subst e
      rw [has_put_same hM (by trivial)]
      simp [St.wr1]
    · rw [has_put_other (by intro e2; injection e2 with _ e2; omega), hsays.has i]
      simp [St.wr1, e]
  · by_cases e : i = k
    · subst e
      rw [atKey_put_same hM (by trivial)]
      simp [St.wr1, un0]
    · rw [atKey_put_other (by intro e2; injection e2 with _ e2; omega), hsays.val i z]
      simp [St.wr1, e]
  · by_cases e : kl = .int .i64 k
    · exact ⟨k, e⟩
    · rw [has_put_other e] at hkl
      exact hks kl hkl

def WriteC (w : World) (g bm : Nat) (s : St) (a : Int) (l : List UInt8) : Prop :=
  Calls Try.prog 31 #[.pointer (some ⟨g, 0, none⟩), .int .i64 a, .string (bs l)] w fun e w' =>
      e = .returned (.int .i64 (s.write a l).2) ∧ (∃ bm', At w' g bm' (s.write a l).1 ∧ (bm' = bm ∨ w.heap.size ≤ bm')) ∧ Fr (fun i => i = g ∨ i = bm) w w'

theorem write_dead (w : World) (g bm : Nat) (s : St) (h : At w g bm s) (hs : s.Ok) (a : Int) (l : List UInt8) (hl : l.length ≤ 9223372036854775807) (hd : s.dead = true) : WriteC w g bm s a l := by
  have HE := hid (show s.write a l = (s, 2) by rw [St.write, if_pos hd])
  have HA := hid h
  obtain ⟨⟨kv, h1, h2⟩, _⟩ := h
  have c4 : w.cell? ⟨g, 4, none⟩ = some (.bool true) := hd ▸ cell_at h1 4
  clear h1 h2 hs hd
  unfold WriteC
  go_enter Try.func31, Try.ntmps31
  go_wp2
  go_ret
  rw [HE.out]
  exact ⟨rfl, ⟨bm, HA.out, Or.inl rfl⟩, Fr.refl _ _⟩

theorem write_long (w : World) (g bm : Nat) (s : St) (h : At w g bm s) (hs : s.Ok) (a : Int) (l : List UInt8) (hl : l.length ≤ 9223372036854775807) (hd : s.dead = false) (hm : l.length % 64 ≠ 0) : WriteC w g bm s a l := by
  have HE := hid (show s.write a l = (s, 172) by rw [St.write, if_neg (by simp [hd]), if_pos hm])
  have HA := hid h
  obtain ⟨⟨kv, h1, h2⟩, _⟩ := h
  have c4 : w.cell? ⟨g, 4, none⟩ = some (.bool false) := hd ▸ cell_at h1 4
  have n2 : ((l.length : Int) % 64 != 0) = true := by simp; omega
  clear h1 h2 hs hd hm
  unfold WriteC
  go_enter Try.func31, Try.ntmps31
  go_wp2
  go_ret
  rw [HE.out]
  exact ⟨rfl, ⟨bm, HA.out, Or.inl rfl⟩, Fr.refl _ _⟩

theorem write_at (w : World) (g bm : Nat) (s : St) (h : At w g bm s) (hs : s.Ok) (a : Int) (ha : -9223372036854775808 ≤ a) (ha2 : a ≤ 9223372036854775807) (l : List UInt8) (hl : l.length ≤ 9223372036854775807) (hd : s.dead = false) (hm : l.length % 64 = 0)
    (hat : a < 0 ∨ (s.n : Int) < a ∨ (s.n : Int) - a < (l.length / 64 : Nat)) : WriteC w g bm s a l := by
  have HE := hid (show s.write a l = (s, 171) by rw [St.write, if_neg (by simp [hd]), if_neg (by simp [hm]), if_pos hat])
  have HA := hid h
  have HCNT := hid (count_c w g bm s h hs)
  obtain ⟨⟨kv, h1, h2⟩, _⟩ := h
  have c4 : w.cell? ⟨g, 4, none⟩ = some (.bool false) := hd ▸ cell_at h1 4
  have n2 : (l.length : Int) % 64 = 0 := by omega
  have hn : s.n ≤ 4096 := hs.n2
  have hn0 : 0 < s.n := hs.n1
  have HAT := hid hat
  clear h1 h2 hs hd hm
  unfold WriteC
  rw [HE.out]
  by_cases a0 : a < 0
  · clear hat
    go_enter Try.func31, Try.ntmps31
    go_wp2_with (go_at_call 42; refine HCNT.out.mono ?_; rintro e w' ⟨rfl, rfl⟩)
    go_ret
    exact ⟨rfl, ⟨bm, HA.out, Or.inl rfl⟩, Fr.refl _ _⟩
  · by_cases a1 : (s.n : Int) < a
    · clear hat
      go_enter Try.func31, Try.ntmps31
      go_wp2_with (go_at_call 42; refine HCNT.out.mono ?_; rintro e w' ⟨rfl, rfl⟩)
      go_ret
      exact ⟨rfl, ⟨bm, HA.out, Or.inl rfl⟩, Fr.refl _ _⟩
    · have a2 : (s.n : Int) - a < (l.length : Int) / 64 := by omega
      clear hat
      go_enter Try.func31, Try.ntmps31
      go_wp2_with (go_at_call 42; refine HCNT.out.mono ?_; rintro e w' ⟨rfl, rfl⟩)
      go_ret
      exact ⟨rfl, ⟨bm, HA.out, Or.inl rfl⟩, Fr.refl _ _⟩

end Go.Proofs.Ytjkhcfdflcndkaa.D
