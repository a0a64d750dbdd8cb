/-
  Sync, Arm, Crash. No condition beyond the disk's own; what Arm keeps is of at most 2^44 numbers.
-/
import Derived.Test.YtjkhcfdflcndkaaGreatKO03
import Derived.Shelf.Strings.BuilderK
import Derived.Test.YtjkhcfdflcndkaaGreatProg
import Derived.Test.YtjkhcfdflcndkaaGreatKO01
import Derived.Deep.OwnRows
namespace Go.Proofs.YtjkhcfdflcndkaaGreat.D
open Go.RowKit Go.Maps Go.Shelf
set_option linter.unusedVariables false
set_option linter.unusedSimpArgs false

theorem crash_c (w : World) (g bm : Nat) (s : St) (h : At w g bm s) (hs : s.Ok) (kv : Value) (ks : List Int) (hk : IntsV w kv ks) :
    Calls Tryz.prog 31 #[.pointer (some ⟨g, 0, none⟩), kv] w fun e w' => e = .returned (.int .i64 (s.crash ks).2) ∧ (∃ bm', At w' g bm' (s.crash ks).1 ∧ (bm' = bm ∨ w.heap.size ≤ bm')) ∧ Fr (fun i => i = g ∨ i = bm) w w' := by
  have HA := hid h
  have HD := hid (dies_c w g bm s h hs kv ks hk)
  obtain ⟨a, cap, rfl, _⟩ := hk
  obtain ⟨⟨kv', h1, h2⟩, _⟩ := h
  cases hd : s.dead with
  | true =>
    have HE := hid (show s.crash ks = (s, 2) by rw [St.crash, if_pos hd])
    have c4 : w.cell? ⟨g, 4, none⟩ = some (.bool true) := hd ▸ cell_at h1 4
    clear h1 h2 hs hd
    rw [HE.out]
    go_enter Tryz.func31, Tryz.ntmps31
    go_wp2
    go_ret
    exact ⟨rfl, ⟨bm, HA.out, Or.inl rfl⟩, Fr.refl _ _⟩
  | false =>
    have HE := hid (show s.crash ks = (s.dies ks, 0) by rw [St.crash, if_neg (by simp [hd])])
    have c4 : w.cell? ⟨g, 4, none⟩ = some (.bool false) := hd ▸ cell_at h1 4
    clear h1 h2 hs hd
    rw [HE.out]
    go_enter Tryz.func31, Tryz.ntmps31
    go_wp2_with fail
    refine HD.out.mono ?_
    rintro e w2 ⟨rfl, hA2, hf2⟩
    have HA2 := hid hA2
    have HF2 := hid hf2
    clear hA2 hf2
    go_wp2_with fail
    go_ret
    obtain ⟨bm', h41, h42⟩ := HA2.out
    exact ⟨rfl, ⟨bm', h41, Or.inr h42⟩, HF2.out.mono (fun i _ e => Or.inl e)⟩

theorem sync_c (w : World) (g bm : Nat) (s : St) (h : At w g bm s) (hs : s.Ok) :
    Calls Tryz.prog 54 #[.pointer (some ⟨g, 0, none⟩)] w fun e w' => e = .returned (.int .i64 s.sync.2) ∧ (∃ bm', At w' g bm' s.sync.1 ∧ (bm' = bm ∨ w.heap.size ≤ bm')) ∧ Fr (fun i => i = g ∨ i = bm) w w' := by
  have HA := hid h
  have HST := hid (step_c w g bm s h hs)
  have HS := hid hs
  obtain ⟨⟨kv', h1, h2⟩, _⟩ := h
  cases hd : s.dead with
  | true =>
    have HE := hid (show s.sync = (s, 2) by rw [St.sync, if_pos hd])
    have c4 : w.cell? ⟨g, 4, none⟩ = some (.bool true) := hd ▸ cell_at h1 4
    clear h1 h2 hs hd
    rw [HE.out]
    go_enter Tryz.func54, Tryz.ntmps54
    go_wp2
    go_ret
    exact ⟨rfl, ⟨bm, HA.out, Or.inl rfl⟩, Fr.refl _ _⟩
  | false =>
    have HD := hid hd
    have c4 : w.cell? ⟨g, 4, none⟩ = some (.bool false) := hd ▸ cell_at h1 4
    clear h1 h2 hs hd
    go_enter Tryz.func54, Tryz.ntmps54
    go_wp2_with fail
    refine HST.out.mono ?_
    rintro e w3 ⟨rfl, hA3, hf3⟩
    have HF3 := hid hf3
    have HA3 := hid hA3
    have HO3 := hid (step_ok HS.out)
    obtain ⟨⟨kv3, d3, i3⟩, _⟩ := hA3
    have c3 : w3.cell? ⟨g, 3, none⟩ = some kv3 := cell_at d3 3
    cases hgo : s.step.2 with
    | true =>
      have HE := hid (show s.sync = (s.step.1.dies s.kept, 2) by rw [St.sync, if_neg (by simp [HD.out]), if_pos hgo])
      have HDIE := hid (dies_c w3 g bm _ HA3.out HO3.out kv3 s.kept (by rw [step_kept] at i3; exact i3.toV))
      obtain ⟨ka, kc, rfl, _⟩ := i3
      clear hgo d3 hf3
      go_wp2_with fail
      refine HDIE.out.mono ?_
      rintro e w4 ⟨rfl, hA4, hf4⟩
      have HA4 := hid hA4
      have HF4 := hid hf4
      clear hA4 hf4
      go_wp2_with fail
      go_ret
      obtain ⟨bm', h41, h42⟩ := HA4.out
      rw [HE.out]
      exact ⟨rfl, ⟨bm', h41, Or.inr (Nat.le_trans HF3.out.size h42)⟩, (HF3.out.trans HF4.out (fun i _ e => e)).mono (fun i _ e => Or.inl e)⟩
    | false =>
      have HE := hid (show s.sync = (s.step.1.becomes s.step.1.image, 0) by rw [St.sync, if_neg (by simp [HD.out]), if_neg (by simp [hgo])])
      have HI := hid (image_c w3 g bm _ HA3.out HO3.out)
      clear hgo d3 hf3 i3 c3
      go_wp2_with fail
      refine HI.out.mono ?_
      rintro e w4 ⟨rfl, hf4⟩
      have HB := hid (becomes_c w4 g bm _ s.step.1.image (HA3.out.stay hf4))
      have HF4 := hid hf4
      clear hf4
      go_wp2_with fail
      refine HB.out.mono ?_
      rintro e w5 ⟨rfl, hA5, hf5⟩
      have HA5 := hid hA5
      have HF5 := hid hf5
      clear hA5 hf5
      go_wp2_with fail
      go_ret
      rw [HE.out]
      refine ⟨rfl, ⟨w4.heap.size, HA5.out, Or.inr (Nat.le_trans HF3.out.size HF4.out.size)⟩, ?_⟩
      exact ((HF3.out.trans (fr_no HF4.out) (fun i _ e => e)).trans HF5.out (fun i _ e => e)).mono (fun i _ e => Or.inl e)

/-- slices.Clone of an empty slice. -/
theorem clone_empty (a : Addr) (c : Nat) (w : World) : Calls Tryz.prog 69 #[.slice (some a) 0 c] w fun e w' => ∃ v, e = .returned v ∧ IntsAt w' v [] ∧ Fr (fun _ => False) w w' := by
  obtain ⟨i0, hi, hz0, hz1, hz2⟩ := info_parts (show (Tryz.prog.info? 3).map (fun i => (i.zero, i.size, i.bytes)) = some (some (.int .i64 0), 1, 8) by kernel_rfl)
  have q22 : ∀ (w : World) (a : Option Addr) (n c n' c' : Nat), (binOp .eql 38 (.slice a n c) (.slice none n' c')).run Tryz.prog w = .ok (.bool a.isNone) w := fun w a n c n' c' => Lib.run_eql_slice_nil w _ _ a n c n' c' Tryz.underlying38
  go_enter Tryz.func69, Tryz.ntmps69
  go_wp2_with (at_builtin; refine wpList_append_own _ rfl _ _ 38 rfl w.heap.size 3 i0 (.int .i64 0) 1 8 Tryz.underlying38 hi hz0 hz1 hz2 rfl (by decide) _ _ _ rfl (World.ownsRow_made w #[] 0 (Nat.le_refl _) (Nat.zero_le _) (by simp)) a 0 c [] rfl rfl (fun j u h => by simp at h) (fun u h => by simp at h) (by decide) (by decide) (by simp) ?_)
  intro v' w1 hown hgrow hnil
  go_wp2
  go_ret
  have hF : Fr (fun _ => False) w w1 := ((Fr.refl _ w).alloc _).grown hgrow (by intro k hk hl; simp [Value.ownBlock] at hk; omega)
  rcases hown.2 with ⟨rfl, _⟩ | ⟨g, cap, cur, rfl, _⟩
  · exact ⟨_, rfl, ⟨none, 0, rfl, by simp, Or.inl rfl, fun x hx => by cases hx⟩, hF⟩
  · exact ⟨.slice (some ⟨g, 0, none⟩) (0 + 0) cap, rfl, ⟨some ⟨g, 0, none⟩, cap, by simp, by simp, Or.inl rfl, fun x hx => by cases hx; rfl⟩, hF⟩

theorem arm_c (w : World) (g bm : Nat) (s : St) (h : At w g bm s) (hs : s.Ok) (n : Int) (hn1 : -9223372036854775808 ≤ n) (hn : n ≤ 9223372036854775807) (kv : Value) (ks : List Int) (hk : IntsV w kv ks) (hkl : ks.length * 8 ≤ 140737488355328) :
    Calls Tryz.prog 29 #[.pointer (some ⟨g, 0, none⟩), .int .i64 n, kv] w fun e w' => e = .returned (.int .i64 (s.arm n ks).2) ∧ At w' g bm (s.arm n ks).1 ∧ Fr (fun i => i = g ∨ i = bm) w w' := by
  have HA := hid h
  obtain ⟨⟨kv', h1, h2⟩, h3⟩ := h
  have H1 := hid h1
  have HK := hid hk
  cases hd : s.dead with
  | true =>
    have HE := hid (show s.arm n ks = (s, 2) by rw [St.arm, if_pos hd])
    have c4 : w.cell? ⟨g, 4, none⟩ = some (.bool true) := hd ▸ cell_at h1 4
    obtain ⟨a, cap, rfl, _⟩ := hk
    clear h1 h2 hs hd
    rw [HE.out]
    go_enter Tryz.func29, Tryz.ntmps29
    go_wp2
    go_ret
    exact ⟨rfl, HA.out, Fr.refl _ _⟩
  | false =>
    have c4 : w.cell? ⟨g, 4, none⟩ = some (.bool false) := hd ▸ cell_at h1 4
    by_cases n0 : n < 0
    · have HE := hid (show s.arm n ks = (s, 1) by rw [St.arm, if_neg (by simp [hd]), if_pos n0])
      obtain ⟨a, cap, rfl, _⟩ := hk
      clear h1 h2 hs hd
      rw [HE.out]
      go_enter Tryz.func29, Tryz.ntmps29
      go_wp2
      go_ret
      exact ⟨rfl, HA.out, Fr.refl _ _⟩
    · have HE := hid (show s.arm n ks = ({ s with armed := n.toNat, kept := ks }, 0) by rw [St.arm, if_neg (by simp [hd]), if_neg n0])
      have HC : Hid (Calls Tryz.prog 69 #[kv] w fun e w' => ∃ v, e = .returned v ∧ IntsAt w' v ks ∧ (∃ a n c, v = .slice a n c) ∧ Fr (fun _ => False) w w') := by
        obtain ⟨a, cap, rfl, hlen, hr⟩ := hk
        obtain ⟨i0, hi, hz0, hz1, hz2⟩ := info_parts (show (Tryz.prog.info? 3).map (fun i => (i.zero, i.size, i.bytes)) = some (some (.int .i64 0), 1, 8) by kernel_rfl)
        cases a with
        | none =>
          refine (AnyE.slices_Clone_nil Tryz.cloneS ks.length cap w).mono ?_
          rintro e w' ⟨rfl, rfl⟩
          have hk0 : ks = [] := by
            rcases hr with hr | ⟨b, o, e, _⟩
            · exact hr
            · cases e
          subst hk0
          exact ⟨_, rfl, ⟨none, 0, rfl, by simp, Or.inl rfl, fun x hx => by cases hx⟩, ⟨_, _, _, rfl⟩, Fr.refl _ _⟩
        | some a =>
          by_cases hk0 : ks = []
          · subst hk0
            refine (clone_empty a cap w).mono ?_
            rintro e w' ⟨v, rfl, hv, hf⟩
            exact ⟨v, rfl, hv, by obtain ⟨a, c, rfl, _⟩ := hv; exact ⟨_, _, _, rfl⟩, hf⟩
          obtain ⟨b, o, e0, h5⟩ : ∃ b o, some a = some ⟨b, o, none⟩ ∧ ∀ j, j < ks.length → w.cell? ⟨b, o + j, none⟩ = some (.int .i64 (ks.getD j 0)) := by
            rcases hr with hr | hr
            · exact absurd hr hk0
            · exact hr
          cases e0
          have hcell : ∀ j u, (ks.map (Value.int .i64))[j]? = some u → w.cell? ⟨b, o + j, none⟩ = some u := by
            intro j u hj
            have hj' : j < ks.length := by have := (List.getElem?_eq_some_iff.1 hj).1; simpa using this
            rw [h5 j hj']
            simp [hj'] at hj
            rw [← hj]
            simp [List.getD_eq_getElem?_getD, hj']
          have hc := AnyE.slices_Clone Tryz.cloneS i0 (.int .i64 0) 1 8 hi hz0 hz1 hz2 rfl (by decide) (fun w => by kernel_rfl) b o ks.length cap (ks.map (Value.int .i64)) w (by simp) (by unfold maxLen; omega) hkl hcell (by
            intro u hu
            obtain ⟨x, _, rfl⟩ := List.mem_map.1 hu
            rfl)
          refine hc.mono ?_
          rintro e w' ⟨v, rfl, ⟨_, hrow⟩, hne, hbl⟩
          rcases hrow with ⟨h0, _⟩ | ⟨b2, cap2, cur, rfl, hb1, hb2, hb3, hb4, hb5, hb6⟩
          · exact absurd h0 hne
          · refine ⟨_, rfl, ⟨some ⟨b2, 0, none⟩, cap2, rfl, hlen, Or.inr ⟨b2, 0, cur, rfl, hb2, fun j hj => ?_⟩, fun x hx => by cases hx; rfl⟩, ⟨_, _, _, rfl⟩, Fr.below hbl _⟩
            have h5 : (cur.toList.take (ks.length * 1))[j]? = (ks.map (Value.int .i64))[j]? := by rw [hb6]
            rw [List.getElem?_take_of_lt (by omega)] at h5
            rw [Nat.zero_add]
            have h6 : cur[j]? = cur.toList[j]? := by simp
            rw [h6, h5]
            simp [hj, List.getD_eq_getElem?_getD]
      obtain ⟨a, cap, rfl, _⟩ := hk
      clear h1 h2 hs hd
      rw [HE.out]
      go_enter Tryz.func29, Tryz.ntmps29
      go_wp2_with fail
      refine HC.out.mono ?_
      rintro e w2 ⟨v, rfl, hv, ⟨va, vn, vc, rfl⟩, hf2⟩
      have h12 := hf2.at H1.out (fun f => f)
      have f2 : w2.frozen? ⟨g, 2, none⟩ = false := frozen_at h12 2
      have f3 : w2.frozen? ⟨g, 3, none⟩ = false := frozen_at h12 3
      have c2 : w2.cell? ⟨g, 2, none⟩ = some (.int .i64 s.armed) := cell_at h12 2
      have c3 : w2.cell? ⟨g, 3, none⟩ = some kv' := cell_at h12 3
      have HV := hid hv
      have HF2 := hid hf2
      have HA2 := hid (HA.out.stay hf2)
      have H12 := hid h12
      clear hv hf2 h12
      go_wp2_with fail
      go_ret
      have en : (n : Int) = (n.toNat : Int) := by omega
      have hf : Fr (· = g) w2 ((w2.setCell ⟨g, 2, none⟩ (.int .i64 n)).setCell ⟨g, 3, none⟩ (.slice va vn vc)) := fr_set2 _ _ _ _ _ _
      have hlw := HA2.out.ne
      obtain ⟨_, m, D, ho, hsy⟩ := HA2.out
      refine ⟨rfl, ⟨⟨.slice va vn vc, ?_, HV.out.keep hf (fun b cur hb e => ?_)⟩, m, D, owns_keep ho hf (fun e => hlw e.symm), hsy⟩, ((fr_no HF2.out).trans hf (fun i _ e => e)).mono (fun i _ e => Or.inl e)⟩
      · rw [set_at (set_at H12.out 2 _) 3 _, en]
        rfl
      · subst e
        rw [H12.out] at hb
        cases hb

end Go.Proofs.YtjkhcfdflcndkaaGreat.D

/-
  Three of strings.Builder's methods over one numbering at this translation, in plain words; what each does. No condition beyond those that each theorem names.
-/
namespace Go.Proofs
open Go.Shelf
def Tryz.bl_ren : Go.Shelf.Ren := ⟨fun | 166 => 81 | 169 => 83 | 240 => 99 | 276 => 107 | n => n, fun | 70 => 105 | 9 => 9 | 0 => 0 | 72 => 107 | 37 => 60 | 127 => 124 | 3 => 3 | 5 => 5 | 4 => 4 | 20 => 20 | 75 => 109 | 80 => 43 | 164 => 133 | n => n, fun | n => n⟩
theorem Tryz.bl166 : Go.Proofs.Lays.n166 Tryz.prog Tryz.bl_ren := {
  mixed := by kernel_rfl
  f166 := Tryz.func81.trans (congrArg some (by kernel_rfl))
  f240 := Tryz.func99.trans (congrArg some (by kernel_rfl))
  f276 := Tryz.func107.trans (congrArg some (by kernel_rfl))
  t0 := Tryz.underlying0
  a0 := Tryz.isAgg0
  z0 := Tryz.sizeOf0
  v0 := Tryz.zeroValue0
  t3 := Tryz.underlying3
  a3 := Tryz.isAgg3
  z3 := Tryz.sizeOf3
  v3 := Tryz.zeroValue3
  t4 := Tryz.underlying4
  a4 := Tryz.isAgg4
  z4 := Tryz.sizeOf4
  v4 := Tryz.zeroValue4
  t9 := Tryz.underlying9
  a9 := Tryz.isAgg9
  z9 := Tryz.sizeOf9
  v9 := Tryz.zeroValue9
  t20 := Tryz.underlying20
  a20 := Tryz.isAgg20
  z20 := Tryz.sizeOf20
  v20 := Tryz.zeroValue20
  t37 := Tryz.underlying60
  a37 := Tryz.isAgg60
  z37 := Tryz.sizeOf60
  v37 := Tryz.zeroValue60
  t70 := Tryz.underlying105
  a70 := Tryz.isAgg105
  z70 := Tryz.sizeOf105
  v70 := Tryz.zeroValue105
  t72 := Tryz.underlying107
  a72 := Tryz.isAgg107
  z72 := Tryz.sizeOf107
  v72 := Tryz.zeroValue107
  t75 := Tryz.underlying109
  a75 := Tryz.isAgg109
  z75 := Tryz.sizeOf109
  v75 := Tryz.zeroValue109
  t164 := Tryz.underlying133
  a164 := Tryz.isAgg133
  z164 := Tryz.sizeOf133
  v164 := Tryz.zeroValue133 }
theorem Tryz.bl169 : Go.Proofs.Lays.n169 Tryz.prog Tryz.bl_ren := {
  mixed := by kernel_rfl
  f169 := Tryz.func83.trans (congrArg some (by kernel_rfl))
  t0 := Tryz.underlying0
  a0 := Tryz.isAgg0
  z0 := Tryz.sizeOf0
  v0 := Tryz.zeroValue0
  t3 := Tryz.underlying3
  a3 := Tryz.isAgg3
  z3 := Tryz.sizeOf3
  v3 := Tryz.zeroValue3
  t9 := Tryz.underlying9
  a9 := Tryz.isAgg9
  z9 := Tryz.sizeOf9
  v9 := Tryz.zeroValue9
  t37 := Tryz.underlying60
  a37 := Tryz.isAgg60
  z37 := Tryz.sizeOf60
  v37 := Tryz.zeroValue60
  t70 := Tryz.underlying105
  a70 := Tryz.isAgg105
  z70 := Tryz.sizeOf105
  v70 := Tryz.zeroValue105
  t72 := Tryz.underlying107
  a72 := Tryz.isAgg107
  z72 := Tryz.sizeOf107
  v72 := Tryz.zeroValue107
  t127 := Tryz.underlying124
  a127 := Tryz.isAgg124
  z127 := Tryz.sizeOf124
  v127 := Tryz.zeroValue124 }
theorem Tryz.blX : Builder.Extra Tryz.prog Tryz.bl_ren := {
  sizeBuilder := by kernel_rfl
  liesBuilder := by kernel_rfl
  t5 := Tryz.underlying5
  a5 := Tryz.isAgg5
  z5 := Tryz.sizeOf5
  v5 := Tryz.zeroValue5
  infoByte := by kernel_rfl
  cellsByte := by kernel_rfl
  sizeByte := by kernel_rfl
  neB5 := by decide }
end Go.Proofs

/-
  Read. No condition beyond the disk's own.
-/
namespace Go.Proofs.YtjkhcfdflcndkaaGreat.D
open Go.RowKit Go.Maps Go.Shelf
set_option linter.unusedVariables false
set_option linter.unusedSimpArgs false

theorem builder_stay {T e : TypeId} {B b : Nat} {bs : List Value} {w w' : World} (h : Lib.IsBuilder T e B b bs w) (hf : Fr (fun _ => False) w w') : Lib.IsBuilder T e B b bs w' := by
  have hg : w.grownBy w' none := ⟨hf.os, hf.tape, hf.output, hf.size, fun k hk _ => hf.block k hk (fun f => f)⟩
  unfold Lib.IsBuilder Lib.BuilderAt at *
  rcases h with ⟨hB, v, hb, ho, hn⟩ | ⟨hB, v, hb, ho, hn⟩
  · exact Or.inl ⟨hB, v, hf.at hb (fun f => f), ho.kept hg (by cases hv : v.ownBlock <;> simp), hn⟩
  · exact Or.inr ⟨hB, v, hf.at hb (fun f => f), ho.kept hg (by cases hv : v.ownBlock <;> simp), hn⟩

def secs (s : St) (a c : Nat) : List UInt8 := (List.range c).flatMap (fun i => s.sec (a + i))
theorem secs_succ (s : St) (a c : Nat) : secs s a (c + 1) = secs s a c ++ s.sec (a + c) := by simp [secs, List.range_succ]
theorem sec_length {s : St} (hs : s.Ok) {i : Nat} (hi : i < s.n) : (s.sec i).length = 64 := by
  unfold St.sec
  cases hu : s.un i with
  | some l => exact (hs.un i l hu).2
  | none =>
    have := hs.safe
    simp only [Option.getD_none, List.length_take, List.length_drop]; omega
theorem secs_length {s : St} (hs : s.Ok) {a : Nat} : ∀ {c : Nat}, a + c ≤ s.n → (secs s a c).length = 64 * c
  | 0, _ => rfl
  | c + 1, h => by
    rw [secs_succ, List.length_append, secs_length hs (by omega), sec_length hs (by omega)]; omega

def ReadC (w : World) (g : Nat) (s : St) (a c : Int) : Prop :=
  Calls Tryz.prog 44 #[.pointer (some ⟨g, 0, none⟩), .int .i64 a, .int .i64 c] w fun e w' =>
      e = .returned (.tuple #[.string (bs (s.read a c).1), .int .i64 (s.read a c).2]) ∧ Fr (fun _ => False) w w'

theorem read_dead (w : World) (g bm : Nat) (s : St) (h : At w g bm s) (a c : Int) (hd : s.dead = true) : ReadC w g s a c := by
  have HE := hid (show s.read a c = ([], 2) by rw [St.read, if_pos hd])
  obtain ⟨⟨kv, h1, h2⟩, _⟩ := h
  have c4 : w.cell? ⟨g, 4, none⟩ = some (.bool true) := hd ▸ cell_at h1 4
  clear h1 h2 hd
  unfold ReadC
  rw [HE.out]
  go_enter Tryz.func44, Tryz.ntmps44
  go_wp2
  go_ret2
  exact ⟨rfl, Fr.refl _ _⟩

theorem read_at (w : World) (g bm : Nat) (s : St) (h : At w g bm s) (hs : s.Ok) (a c : Int) (ha : -9223372036854775808 ≤ a) (ha2 : a ≤ 9223372036854775807) (hd : s.dead = false)
    (hat : a < 0 ∨ c < 0 ∨ (s.n : Int) < a ∨ (s.n : Int) - a < c) : ReadC w g s a c := by
  have HE := hid (show s.read a c = ([], 171) by rw [St.read, if_neg (by simp [hd]), if_pos hat])
  have HCNT := hid (count_c w g bm s h hs)
  obtain ⟨⟨kv, h1, h2⟩, _⟩ := h
  have c4 : w.cell? ⟨g, 4, none⟩ = some (.bool false) := hd ▸ cell_at h1 4
  have hn : s.n ≤ 4096 := hs.n2
  have hn0 : 0 < s.n := hs.n1
  clear h1 h2 hs hd
  unfold ReadC
  rw [HE.out]
  by_cases a0 : a < 0
  · clear hat
    go_enter Tryz.func44, Tryz.ntmps44
    go_wp2_with (go_at_call 79; refine HCNT.out.mono ?_; rintro e w' ⟨rfl, rfl⟩)
    go_ret2
    exact ⟨rfl, Fr.refl _ _⟩
  by_cases c0 : c < 0
  · clear hat
    go_enter Tryz.func44, Tryz.ntmps44
    go_wp2_with (go_at_call 79; refine HCNT.out.mono ?_; rintro e w' ⟨rfl, rfl⟩)
    go_ret2
    exact ⟨rfl, Fr.refl _ _⟩
  by_cases a1 : (s.n : Int) < a
  · clear hat
    go_enter Tryz.func44, Tryz.ntmps44
    go_wp2_with (go_at_call 79; refine HCNT.out.mono ?_; rintro e w' ⟨rfl, rfl⟩)
    go_ret2
    exact ⟨rfl, Fr.refl _ _⟩
  · have a2 : (s.n : Int) - a < c := by omega
    clear hat
    go_enter Tryz.func44, Tryz.ntmps44
    go_wp2_with (go_at_call 79; refine HCNT.out.mono ?_; rintro e w' ⟨rfl, rfl⟩)
    go_ret2
    exact ⟨rfl, Fr.refl _ _⟩

set_option maxHeartbeats 4000000 in
set_option maxRecDepth 100000 in
theorem read_go (w : World) (g bm : Nat) (s : St) (h : At w g bm s) (hs : s.Ok) (A C : Nat) (hd : s.dead = false) (hat : A + C ≤ s.n) : ReadC w g s A C := by
  have HE := hid (show s.read A C = (secs s A C, 0) by rw [St.read, if_neg (by simp [hd]), if_neg (by omega)]; rfl)
  have HA := hid h
  have HCNT := hid (count_c w g bm s h hs)
  obtain ⟨⟨kv, h1, h2⟩, _⟩ := h
  have c4 : w.cell? ⟨g, 4, none⟩ = some (.bool false) := hd ▸ cell_at h1 4
  have hn : s.n ≤ 4096 := hs.n2
  have hn0 : 0 < s.n := hs.n1
  have HS := hid hs
  have d1 : decide ((A : Int) < 0) = false := decide_eq_false (by omega)
  have d2 : decide (s.n < A) = false := decide_eq_false (by omega)
  have d3 : decide ((s.n : Int) - A < C) = false := decide_eq_false (by omega)
  have d4 : decide ((C : Int) < 0) = false := decide_eq_false (by omega)
  have b2 : (C : Int) ≤ (s.n : Int) - A := by omega
  have HB0 := hid (((Below.refl w.heap.size w).alloc (Nat.le_refl _) (.cells #[.pointer none, .slice none 0 0] 107)))
  have HLW := hid HA.out.low
  clear h1 h2 hs hd
  unfold ReadC
  rw [HE.out]
  go_enter Tryz.func44, Tryz.ntmps44
  go_wp2_with (first | fail | (go_at_call 79; refine HCNT.out.mono ?_; rintro e w' ⟨rfl, rfl⟩))
  go_loopw [35] (fun v wr => ∃ k : Nat, v = .int .i64 k ∧ k ≤ C ∧ Hid (Lib.IsBuilder 107 5 w'.heap.size w'.heap.size (Lib.byteCells (secs s A k)) wr) ∧ Hid (Below w'.heap.size w' wr)) (fun i _ => C - (intOf i).toNat)
  case atStart => exact ⟨0, rfl, by omega, hid (Lib.fresh_isBuilder _ _ _), HB0⟩
  case round =>
    obtain ⟨k, rfl, hk, HBd, HW⟩ := hrel
    have hBw : w'.heap.size ≤ wr.heap.size := HW.out.size
    by_cases hend : k = C
    · subst hend
      go_wp2_with fail
      refine (Any.Builder_String_any Tryz.bl169 Tryz.blX w'.heap.size w'.heap.size _ wr HBd.out hBw).mono ?_
      rintro e w3 ⟨rfl, hb3⟩
      have HB3 := hid (HW.out.trans hb3)
      clear hb3
      go_wp2_with fail
      go_ret2
      exact ⟨rfl, Fr.below HB3.out _⟩
    · have hk' : k < C := by omega
      have hAr : At wr g bm s := HA.out.keep (S := fun i => w'.heap.size ≤ i) ⟨HW.out.os, HW.out.tape, HW.out.output, HW.out.size, fun i hi _ => HW.out.block i hi⟩ (by have := HLW.out.1; omega) (by have := HLW.out.2; omega) (fun b cur hb => by have := lt_of_at hb; omega)
      have HSEC := hid (sector_c wr g bm s hAr HS.out (A + k) (by omega))
      have e3 : (((A + k : Nat)) : Int) = (A : Int) + k := by omega
      rw [e3] at HSEC
      have HLEN := hid (secs_length HS.out (a := A) (c := k) (by omega))
      have HLS := hid (sec_length HS.out (i := A + k) (by omega))
      clear hAr e3 hend
      go_wp2_with fail
      refine HSEC.out.mono ?_
      rintro e w3 ⟨rfl, hf3⟩
      have HBd3 := hid (builder_stay HBd.out hf3)
      have hW3 := HW.out.trans (Fr.toBelow (B := w'.heap.size) hf3 hBw (fun i f => f.elim))
      have HW3 := hid hW3
      have hBw3 : w'.heap.size ≤ w3.heap.size := hW3.size
      have hz : (bs (s.sec (A + k))).size = 64 := by have := HLS.out; simp [bs, ByteArray.size, this]
      clear hf3 hW3
      have HWS := hid (Any.Builder_WriteString Tryz.bl166 Tryz.blX w'.heap.size w'.heap.size _ (bs (s.sec (A + k))) w3 HBd3.out (by rw [Lib.byteCells_length, HLEN.out, hz]; omega) hBw3)
      clear hz
      go_wp2_with fail
      refine HWS.out.mono ?_
      rintro e w4 ⟨rfl, h4, hb4⟩
      have H4 := hid (Or.inr h4 : Lib.IsBuilder 107 5 w'.heap.size w'.heap.size _ w4)
      have HW4 := hid (HW3.out.trans hb4)
      clear h4 hb4
      go_wp2_with fail
      go_roundw
      case rel =>
        refine ⟨k + 1, rfl, by omega, hid ?_, HW4⟩
        have h5 := H4.out
        rw [secs_succ]
        unfold Lib.IsBuilder at h5 ⊢
        simpa [Lib.byteCells, Lib.strCells] using h5
      case measure => simp [intOf]; omega

end Go.Proofs.YtjkhcfdflcndkaaGreat.D

/-
  make([]byte, n), string of it; fill. No condition beyond the sizes that are named.
-/
namespace Go.Proofs.YtjkhcfdflcndkaaGreat.D
open Go.RowKit Go.Maps Go.Deep
set_option linter.unusedVariables false
set_option linter.unusedSimpArgs false

theorem mk_row (n : Nat) (hn : n ≤ 281474976710656) (w : World) :
    (Instr.makeSlice 60 (.int .i64 (n : Int)) (.int .i64 (n : Int))).run Tryz.prog w = .ok (.slice (some ⟨w.heap.size, 0, none⟩) n n) (w.alloc (.cells (bytesOf (List.replicate n 0)).toArray 5)) := by
  have h := run_make_row' (P := Tryz.prog) 60 5 (.int .u8 0) 1 Tryz.underlying60 (by kernel_rfl) rfl .i64 .i64 n (by omega) (by omega) w
  rw [h]
  have e : madeCells #[Value.int .u8 0] n = (bytesOf (List.replicate n 0)).toArray := by
    apply Array.ext
    · simp [madeCells, bytesOf]
    · intro i h1 h2
      have e0 : i % 1 = 0 := by omega
      simp [madeCells, bytesOf, e0]
  rw [e]

theorem row_str (b : List UInt8) (cap g : Nat) (fz : Nat × Nat) (w : World) (h : w.heap[g]? = some (.cells (bytesOf b).toArray 5 fz)) :
    (convert 60 9 (.slice (some ⟨g, 0, none⟩) b.length cap)).run Tryz.prog w = .ok (.string (bs b)) w := by
  refine run_convert_bytes_back w 60 9 5 ⟨g, 0, none⟩ cap b Tryz.underlying60 Tryz.underlying5 Tryz.underlying9 (fun j hj => ?_)
  have e1 : (⟨g, 0, none⟩ : Addr).add j = ⟨g, j, none⟩ := by unfold Addr.add; split <;> simp_all
  rw [e1, World.cell?, h]
  simp [bytesOf, hj]

theorem made_str (n : Nat) (w : World) :
    (convert 60 9 (.slice (some ⟨w.heap.size, 0, none⟩) n n)).run Tryz.prog (w.alloc (.cells (bytesOf (List.replicate n 0)).toArray 5)) = .ok (.string (bs (List.replicate n 0))) (w.alloc (.cells (bytesOf (List.replicate n 0)).toArray 5)) := by
  have := row_str (List.replicate n 0) n w.heap.size (0, 0) (w.alloc (.cells (bytesOf (List.replicate n 0)).toArray 5)) (MapKept.heap_alloc w _).1
  rwa [List.length_replicate] at this

def fillN (n : Int) : Nat := (min n 4480).toNat
def fillB (c : UInt8) (i : Nat) : UInt8 := c + UInt8.ofNat (i / 64)
def fillL (n : Int) (c : UInt8) : List UInt8 := (List.range (fillN n)).map (fillB c)
theorem fillL_length (n : Int) (c : UInt8) : (fillL n c).length = fillN n := by simp [fillL]
def fillAt (N : Nat) (c : UInt8) (k : Nat) : List UInt8 := (List.range k).map (fillB c) ++ List.replicate (N - k) 0

theorem fillB_val (c : UInt8) (k : Nat) : Value.int .u8 (((c.toNat : Int) + (k : Int) / 64) % 256) = .int .u8 ((fillB c k).toNat : Int) := by
  congr 1
  simp only [fillB, UInt8.toNat_add, UInt8.toNat_ofNat']
  omega

theorem fillAt_set (N : Nat) (c : UInt8) (k : Nat) (hk : k < N) : (bytesOf (fillAt N c k)).toArray.setIfInBounds k (.int .u8 (((c.toNat : Int) + (k : Int) / 64) % 256)) = (bytesOf (fillAt N c (k + 1))).toArray := by
  rw [fillB_val]
  apply Array.ext'
  obtain ⟨m, hm⟩ : ∃ m, N - k = m + 1 := ⟨N - k - 1, by omega⟩
  have hm2 : N - (k + 1) = m := by omega
  simp only [List.setIfInBounds_toArray, fillAt, hm, hm2, List.replicate_succ, List.range_succ, bytesOf, List.map_append, List.map_cons, List.map_nil, List.append_assoc]
  rw [List.set_append_right _ _ (by simp)]
  simp

end Go.Proofs.YtjkhcfdflcndkaaGreat.D
