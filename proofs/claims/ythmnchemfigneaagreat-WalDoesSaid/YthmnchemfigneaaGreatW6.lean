/-
  Append. No condition beyond the log's own.
-/
import Derived.Test.YthmnchemfigneaaGreatW3
import Derived.BigRegion
namespace Go.Proofs.YthmnchemfigneaaGreat.D
open Go.RowKit Go.Maps Go.Shelf
set_option linter.unusedVariables false
set_option linter.unusedSimpArgs false

/-- Append, in plain words. -/
def LSt.append (L : LSt) (s : St) (r : List UInt8) : LSt × St × Int :=
  if L.dead then (L, s, 2) else if 16384 < r.length then (L, s, 181) else if L.count - L.at_ < many r.length ∨ 1152921504606846976 ≤ L.next then (L, s, 182)
  else if (s.write (L.first + L.at_ : Nat) (secsOf L.next r)).2 ≠ 0 then (L.told (s.write (L.first + L.at_ : Nat) (secsOf L.next r)).2, (s.write (L.first + L.at_ : Nat) (secsOf L.next r)).1, (s.write (L.first + L.at_ : Nat) (secsOf L.next r)).2)
  else ({ L with at_ := L.at_ + many r.length, next := L.next + 1 }, (s.write (L.first + L.at_ : Nat) (secsOf L.next r)).1, 0)

theorem logCells {w : World} {k g : Nat} {L : LSt} {d : Bool} (h : LogAt w k g { L with dead := d }) :
    w.cell? ⟨k, 0, none⟩ = some (.pointer (some ⟨g, 0, none⟩)) ∧ w.cell? ⟨k, 1, none⟩ = some (.int .i64 L.first) ∧ w.cell? ⟨k, 3, none⟩ = some (.int .i64 L.at_) ∧ w.cell? ⟨k, 4, none⟩ = some (.int .i64 L.next) :=
  ⟨cell_at h 0, cell_at h 1, cell_at h 3, cell_at h 4⟩
theorem LogAt.drew {w : World} {k g : Nat} {L : LSt} (h : LogAt w k g L) : LogAt w.drew k g L := h
theorem LogAt.drewN {w : World} {k g n : Nat} {L : LSt} (h : LogAt w k g L) : LogAt (w.drewN n) k g L := h
theorem At.drewN {w : World} {g bm n : Nat} {s : St} (h : At w g bm s) : At (w.drewN n) g bm s := h.stay fr_drewN
theorem At.log {w w' : World} {k g g' bm : Nat} {L : LSt} {s : St} (h : At w g bm s) (hl : LogAt w k g' L) (hf : Fr (· = k) w w') : At w' g bm s := by
  obtain ⟨n1, n2⟩ := hl.ne h
  refine h.keep hf (fun e => n1 e.symm) (fun e => n2 e.symm) (fun b cur hb e => ?_)
  subst e
  unfold LogAt at hl
  rw [hl] at hb
  injection hb with hb
  injection hb with _ e2
  exact absurd e2 (by decide)

def AppendC (w : World) (k g bm : Nat) (L : LSt) (s : St) (r : List UInt8) : Prop :=
  Calls Tryz.prog 8 #[.pointer (some ⟨k, 0, none⟩), .string (bs r)] w fun e w' => e = .returned (.int .i64 (L.append s r).2.2) ∧ LogAt w' k g (L.append s r).1 ∧
    (∃ bm', At w' g bm' (L.append s r).2.1 ∧ (bm' = bm ∨ w.heap.size ≤ bm')) ∧ Fr (fun i => i = k ∨ i = g ∨ i = bm) w w'

theorem append_dead (w : World) (k g bm : Nat) (L : LSt) (s : St) (r : List UInt8) (h : LogAt w k g L) (hd : At w g bm s) (hr : r.length ≤ 4611686018427387904) (hdd : L.dead = true) : AppendC w k g bm L s r := by
  have HL := hid h
  have HA := hid hd
  have c5 : w.cell? ⟨k, 5, none⟩ = some (.bool true) := hdd ▸ cell_at h 5
  have HE := hid (show L.append s r = (L, s, 2) by unfold LSt.append; rw [if_pos hdd])
  have HM := hid (many_c w r.length (by omega))
  unfold AppendC
  rw [HE.out]
  clear h hd hdd
  go_enter Tryz.func8, Tryz.ntmps8
  go_wp2_with (go_at_call 35; refine HM.out.mono ?_; rintro e w' ⟨rfl, rfl⟩)
  go_ret
  exact ⟨rfl, HL.out, ⟨bm, HA.out, Or.inl rfl⟩, Fr.refl _ _⟩

theorem append_long (w : World) (k g bm : Nat) (L : LSt) (s : St) (r : List UInt8) (h : LogAt w k g L) (hd : At w g bm s) (hr : r.length ≤ 4611686018427387904) (hdd : L.dead = false) (hl : 16384 < r.length) : AppendC w k g bm L s r := by
  have HL := hid h
  have HA := hid hd
  have c5 : w.cell? ⟨k, 5, none⟩ = some (.bool false) := hdd ▸ cell_at h 5
  have HE := hid (show L.append s r = (L, s, 181) by unfold LSt.append; rw [if_neg (by simp [hdd]), if_pos hl])
  have HM := hid (many_c w r.length (by omega))
  unfold AppendC
  rw [HE.out]
  clear h hd hdd
  go_enter Tryz.func8, Tryz.ntmps8
  go_wp2_with (go_at_call 35; refine HM.out.mono ?_; rintro e w' ⟨rfl, rfl⟩)
  go_ret
  exact ⟨rfl, HL.out, ⟨bm, HA.out, Or.inl rfl⟩, Fr.refl _ _⟩

set_option maxRecDepth 100000 in
theorem append_full (w : World) (k g bm : Nat) (L : LSt) (s : St) (r : List UInt8) (h : LogAt w k g L) (hd : At w g bm s) (hL : L.Ok s.n) (hn : s.n ≤ 4096) (hdd : L.dead = false) (hl : ¬ 16384 < r.length) (hf : L.count - L.at_ < many r.length ∨ 1152921504606846976 ≤ L.next) : AppendC w k g bm L s r := by
  have HL := hid h
  have HA := hid hd
  have c5 : w.cell? ⟨k, 5, none⟩ = some (.bool false) := hdd ▸ cell_at h 5
  have c2 : w.cell? ⟨k, 2, none⟩ = some (.int .i64 L.count) := cell_at h 2
  have c3 : w.cell? ⟨k, 3, none⟩ = some (.int .i64 L.at_) := cell_at h 3
  have c4 : w.cell? ⟨k, 4, none⟩ = some (.int .i64 L.next) := cell_at h 4
  have HE := hid (show L.append s r = (L, s, 182) by unfold LSt.append; rw [if_neg (by simp [hdd]), if_neg hl, if_pos hf])
  obtain ⟨m, hm⟩ : ∃ m, m = many r.length := ⟨_, rfl⟩
  have hm2 : m ≤ 342 := by rw [hm]; unfold many; omega
  have HM := hid (many_c w r.length (by omega))
  rw [← hm] at HM hf
  unfold AppendC
  rw [HE.out]
  have b1 := hL.at_
  have b2 : L.count ≤ 4096 := by have := hL.area; omega
  have x1 : IntKind.i64.wrap ((L.count : Int) - L.at_) = (L.count : Int) - L.at_ := by rw [IntKind.wrap_i64]; omega
  clear h hd hdd hL hm
  by_cases h1 : (L.count : Int) - L.at_ < m
  · have d1 : decide ((L.count : Int) - L.at_ < m) = true := by simpa using h1
    clear hf
    go_enter Tryz.func8, Tryz.ntmps8
    go_wp2_with (go_at_call 35; refine HM.out.mono ?_; rintro e w' ⟨rfl, rfl⟩)
    go_quiet (fail)
    go_wp2_with fail
    go_ret
    exact ⟨rfl, HL.out.drewN, ⟨bm, HA.out.drewN, Or.inl rfl⟩, fr_drewN⟩
  · have d1 : decide ((L.count : Int) - L.at_ < m) = false := by simpa using h1
    obtain ⟨N, hN⟩ : ∃ N : Int, N = (L.next : Int) := ⟨_, rfl⟩
    have h2 : (1152921504606846976 : Int) ≤ N := by omega
    have d2 : decide ((1152921504606846976 : Int) ≤ N) = true := by simpa using h2
    rw [← hN] at c4
    clear hf hN
    go_enter Tryz.func8, Tryz.ntmps8
    go_wp2_with (go_at_call 35; refine HM.out.mono ?_; rintro e w' ⟨rfl, rfl⟩)
    go_quiet (fail)
    go_wp2_with fail
    go_ret
    exact ⟨rfl, HL.out.drewN, ⟨bm, HA.out.drewN, Or.inl rfl⟩, fr_drewN⟩

set_option maxHeartbeats 4000000 in
set_option maxRecDepth 100000 in
theorem append_go (w : World) (k g bm : Nat) (L : LSt) (s : St) (r : List UInt8) (h : LogAt w k g L) (hd : At w g bm s) (hs : s.Ok) (hL : L.Ok s.n) (hn : s.n ≤ 4096) (hdd : L.dead = false) (hl : ¬ 16384 < r.length) (hf : ¬ (L.count - L.at_ < many r.length ∨ 1152921504606846976 ≤ L.next)) : AppendC w k g bm L s r := by
  have HL := hid h
  have HA := hid hd
  have HS := hid hs
  have c5 : w.cell? ⟨k, 5, none⟩ = some (.bool false) := hdd ▸ cell_at h 5
  have c2 : w.cell? ⟨k, 2, none⟩ = some (.int .i64 L.count) := cell_at h 2
  have c3 : w.cell? ⟨k, 3, none⟩ = some (.int .i64 L.at_) := cell_at h 3
  have c4 : w.cell? ⟨k, 4, none⟩ = some (.int .i64 L.next) := cell_at h 4
  obtain ⟨res, hres⟩ : ∃ res, res = s.write (L.first + L.at_ : Nat) (secsOf L.next r) := ⟨_, rfl⟩
  have HE := hid (show L.append s r = if res.2 ≠ 0 then (L.told res.2, res.1, res.2) else ({ L with at_ := L.at_ + many r.length, next := L.next + 1 }, res.1, 0) by
    unfold LSt.append; rw [if_neg (by simp [hdd]), if_neg hl, if_neg hf, ← hres])
  obtain ⟨m, hm⟩ : ∃ m, m = many r.length := ⟨_, rfl⟩
  have hm2 : m ≤ 342 := by rw [hm]; unfold many; omega
  have HM := hid (many_c w r.length (by omega))
  rw [← hm] at HM hf HE
  have b1 := hL.at_
  have b2 : L.count ≤ 4096 := by have := hL.area; omega
  have b3 : L.first ≤ 4096 := by have := hL.area; omega
  have x1 : IntKind.i64.wrap ((L.count : Int) - L.at_) = (L.count : Int) - L.at_ := by rw [IntKind.wrap_i64]; omega
  have h1 : ¬ (L.count : Int) - L.at_ < m := by omega
  have d1 : decide ((L.count : Int) - L.at_ < m) = false := by simpa using h1
  obtain ⟨N, hN⟩ : ∃ N : Int, N = (L.next : Int) := ⟨_, rfl⟩
  have h2 : N < 1152921504606846976 := by omega
  have d2 : decide ((1152921504606846976 : Int) ≤ N) = false := by simpa using h2
  have HNX := hid (show L.next < 1152921504606846976 by omega)
  rw [← hN] at c4
  clear hN
  have hlen : (secsOf L.next r).length ≤ 9223372036854775807 := by rw [secsOf_len, ← hm]; omega
  have HLEN := hid hlen
  have HRES := hid hres
  have HLL := hid hL
  have HN := hid (h.ne hd)
  unfold AppendC
  clear h hd hs hL hm hf hlen hres
  go_enter Tryz.func8, Tryz.ntmps8
  go_wp2_with (go_at_call 35; refine HM.out.mono ?_; rintro e w' ⟨rfl, rfl⟩)
  go_quiet (fail)
  go_wp2_with fail
  obtain ⟨W0, eW0⟩ : ∃ W0, W0 = w'.drewN nq := ⟨_, rfl⟩
  rw [← eW0]
  have HL0 := hid (show LogAt W0 k g L from eW0 ▸ HL.out.drewN)
  have HA0 := hid (show At W0 g bm s from eW0 ▸ HA.out.drewN)
  have HF0 := hid (show Fr (fun _ => False) w' W0 from eW0 ▸ fr_drewN)
  clear eW0 c2 c3 c4 c5
  have hl0 := HL0.out.drew
  have hA0 := HA0.out.drew
  obtain ⟨k0, k1, k3, k4⟩ := logCells (d := L.dead) HL0.out.drew
  have x2 : IntKind.i64.wrap ((L.first : Int) + L.at_) = ((L.first + L.at_ : Nat) : Int) := by rw [IntKind.wrap_i64]; omega
  have HSEC := hid (fun W : World => sectors_c W L.next r (by have := HNX.out; omega) (by omega))
  have HWR := hid (fun (W : World) (hA : At W g bm s) => show Calls _ _ _ W fun e w' => e = .returned (.int .i64 res.2) ∧ (∃ bm', At w' g bm' res.1 ∧ (bm' = bm ∨ W.heap.size ≤ bm')) ∧ Fr (fun i => i = g ∨ i = bm) W w' by
    have := write_c W g bm s hA HS.out ((L.first + L.at_ : Nat) : Int) (by omega) (by omega) (secsOf L.next r) HLEN.out
    unfold WriteC at this
    rw [← HRES.out] at this
    exact this)
  go_region_held3 (fun w' => w'.cell? ⟨k, 0, none⟩ = some (.pointer (some ⟨g, 0, none⟩)) ∧ w'.cell? ⟨k, 1, none⟩ = some (.int .i64 L.first) ∧ w'.cell? ⟨k, 3, none⟩ = some (.int .i64 L.at_) ∧ w'.cell? ⟨k, 4, none⟩ = some (.int .i64 L.next))
    (first | exact ⟨k0, k1, k3, k4⟩ | exact logCells (d := _) (by assumption) | go_keep)
    (first
      | (go_at_call 38; refine (HSEC.out _).mono ?_; rintro e w1 ⟨rfl, hf1⟩; have hl1 : LogAt w1 k g { L with dead := L.dead } := hl0.stay hf1; have hA1 := hA0.stay hf1)
      | (go_at_call 37; refine (HWR.out _ hA1).mono ?_; rintro e w2 ⟨rfl, hA2, hf2⟩; have hl2 : LogAt w2 k g { L with dead := L.dead } := hl1.keep hf2 (by have := HN.out; omega))
      | (go_at_call 36; refine (told_c _ k g L res.2 hl2).mono ?_; rintro e w3 ⟨rfl, hl3, hf3⟩; have hl3' : LogAt w3 k g { L with dead := L.dead || res.2 == 2 } := hl3))
  have hf03 : Fr (fun i => i = k ∨ i = g ∨ i = bm) w' w3 := ((((fr_no HF0.out).trans (fr_no ((Fr.refl (fun _ => False) W0).drew)) (fun _ _ f => f)).trans (fr_no hf1) (fun _ _ f => f)).trans hf2 (fun i _ e => Or.inr e)).trans hf3 (fun i _ e => Or.inl e)
  have HF3 := hid hf03
  have hA3 : ∃ bm', At w3 g bm' res.1 ∧ (bm' = bm ∨ w'.heap.size ≤ bm') := by
    obtain ⟨bm', hA2, hb⟩ := hA2
    refine ⟨bm', hA2.log (L := L) hl2 hf3, ?_⟩
    have h5 := HF0.out.size
    have h6 : W0.heap.size ≤ w1.heap.size := hf1.size
    rcases hb with hb | hb
    · exact Or.inl hb
    · exact Or.inr (by omega)
  have HA3 := hid hA3
  have HL3 := hid hl3
  clear hf03 hA3 hA2 hl3 hl3' hf1 hf2 hf3 hl1 hl2 hA1 hl0 hA0 HSEC HWR k0 k1 k3 k4 x1 x2
  rename_i hHeld
  obtain ⟨k0, k1, k3, k4⟩ := hHeld
  obtain ⟨C, hC⟩ : ∃ C, C = res.2 := ⟨_, rfl⟩
  rw [← hC] at HL3 HE ⊢
  clear hC
  by_cases hz : C = 0
  · have HZ := hid (show L.append s r = ({ L with at_ := L.at_ + m, next := L.next + 1 }, res.1, 0) by rw [HE.out, if_neg (by simp [hz])])
    have hlz := HL3.out
    rw [hz] at hlz ⊢
    have f3 : w3.frozen? ⟨k, 3, none⟩ = false := frozen_at hlz 3
    have f4 : w3.frozen? ⟨k, 4, none⟩ = false := frozen_at hlz 4
    have HLZ := hid hlz
    have x3 : IntKind.i64.wrap ((L.at_ : Int) + (m : Int)) = (L.at_ : Int) + (m : Int) := by rw [IntKind.wrap_i64]; omega
    have x4 : IntKind.i64.wrap ((L.next : Int) + 1) = (L.next : Int) + 1 := by have := HNX.out; rw [IntKind.wrap_i64]; omega
    clear hlz HL3 HE hz
    go_wp2_with fail
    go_region
    all_goals
      go_wp2_with fail
      go_ret
      rw [HZ.out]
      have hf := fr_set2 w3 k 3 4 (.int .i64 ((L.at_ : Int) + m)) (.int .i64 ((L.next : Int) + 1))
      refine ⟨rfl, ?_, ?_, (HF3.out.trans hf (fun i _ e => Or.inl e)).drew⟩
      · refine LogAt.drew ?_
        unfold LogAt
        rw [set_at (set_at HLZ.out 3 _) 4 _]
        have e0 : (L.told 0).dead = L.dead := by simp [LSt.told]
        simp only [lcells, e0]
        congr 2
      · obtain ⟨bm', hA, hb⟩ := HA3.out
        exact ⟨bm', (hA.log HLZ.out hf).drew, hb⟩
  · have HZ := hid (show L.append s r = (L.told C, res.1, C) by rw [HE.out, if_pos hz])
    have q : (C == 0) = false := by simpa using hz
    have q2 : (C != 0) = true := by simpa using hz
    clear hz HE
    go_wp2_with fail
    go_ret
    rw [HZ.out]
    exact ⟨rfl, HL3.out, HA3.out, HF3.out⟩

theorem append_c (w : World) (k g bm : Nat) (L : LSt) (s : St) (r : List UInt8) (h : LogAt w k g L) (hd : At w g bm s) (hs : s.Ok) (hL : L.Ok s.n) (hr : r.length ≤ 4611686018427387904) : AppendC w k g bm L s r := by
  cases hdd : L.dead with
  | true => exact append_dead w k g bm L s r h hd hr hdd
  | false =>
    by_cases hl : 16384 < r.length
    · exact append_long w k g bm L s r h hd hr hdd hl
    · by_cases hf : L.count - L.at_ < many r.length ∨ 1152921504606846976 ≤ L.next
      · exact append_full w k g bm L s r h hd hL hs.n2 hdd hl hf
      · exact append_go w k g bm L s r h hd hs hL hs.n2 hdd hl hf

end Go.Proofs.YthmnchemfigneaaGreat.D
