/-
  Alloc. No condition beyond the sizes that are named.
-/
import Derived.Test.YtjkhcfdflcndkaaGreatKO08
namespace Go.Proofs.YtjkhcfdflcndkaaGreat.D
open Go.RowKit Go.Maps Go.Shelf
set_option linter.unusedVariables false
set_option linter.unusedSimpArgs false

def PSt.pick (P : PSt) : Nat → Nat → Option Nat
  | 0, _ => none
  | d + 1, i => if P.used i then P.pick d (i + 1) else some i
def PSt.take (P : PSt) (i : Int) : PSt := { P with taken := fun j => j == i || P.taken j }
def PSt.alloc (P : PSt) : PSt × Int × Int := match P.pick P.pages 0 with
  | some i => (P.take i, i, 0)
  | none => (P, 0, 192)

theorem set_block {w : World} {b : Nat} {f : Int → Bool} (h : SetAt w b f) {p : Nat} {c : Array Value} {T : TypeId} (hp : w.heap[p]? = some (.cells c T)) : p ≠ b := by
  obtain ⟨n, D, ⟨es, clock, hb, _⟩, _⟩ := h
  rintro rfl
  rw [hp] at hb
  cases hb

set_option maxHeartbeats 4000000 in
theorem alloc_c (w : World) (p g ml mt : Nat) (P : PSt) (h : PAt w p g ml mt P) (hp : P.pages ≤ 4096) (ht : ∀ i, P.taken i = true → 0 ≤ i ∧ i < (P.pages : Int)) :
    Calls Tryz.prog 19 #[.pointer (some ⟨p, 0, none⟩)] w fun e w' => e = .returned (.tuple #[.int .i64 P.alloc.2.1, .int .i64 P.alloc.2.2]) ∧ PAt w' p g ml mt P.alloc.1 ∧ Fr (fun i => i = mt) w w' := by
  have HP := hid h
  have k2 : w.cell? ⟨p, 2, none⟩ = some (.int .i64 P.pages) := cell_at h.1 2
  have HT := hid ht
  obtain ⟨n, hn⟩ : ∃ n, n = P.pages := ⟨_, rfl⟩
  have HN := hid hn
  have HA := hid (show P.alloc = match P.pick n 0 with | some i => (P.take i, (i : Int), 0) | none => (P, 0, 192) by rw [hn]; rfl)
  rw [← hn] at k2 hp
  clear h hn ht
  go_enter Tryz.func19, Tryz.ntmps19
  go_wp2_with fail
  go_loopw [9] (fun v9 wr => ∃ i : Nat, v9 = .int .i64 i ∧ i ≤ n ∧ Hid (P.pick n 0 = P.pick (n - i) i) ∧ Hid (Fr (fun _ => False) w wr)) (fun v _ => n - (intOf v).toNat)
  case atStart => exact ⟨0, rfl, by omega, hid rfl, hid (Fr.refl _ _)⟩
  case round =>
    obtain ⟨i, rfl, hi, HK, HF⟩ := hrel
    by_cases hend : i = n
    · have HZ := hid (show P.alloc = (P, 0, 192) by rw [HA.out, HK.out, hend, Nat.sub_self]; rfl)
      subst hend
      go_wp2_with fail
      go_ret2
      rw [HZ.out]
      exact ⟨rfl, HP.out.stay HF.out, fr_no HF.out⟩
    · have HU := hid (used_c wr p g ml mt P (HP.out.stay HF.out) i (by omega) (by omega))
      have hne : n - i = (n - (i + 1)) + 1 := by omega
      have HST := hid (show P.pick (n - i) i = if P.used i then P.pick (n - (i + 1)) (i + 1) else some i by rw [hne]; rfl)
      cases hu : P.used i with
      | true =>
        have HS := hid (show P.pick n 0 = P.pick (n - (i + 1)) (i + 1) by rw [HK.out, HST.out, if_pos hu])
        rw [hu] at HU
        clear hu hne
        go_wp2_with fail
        refine HU.out.mono ?_
        rintro e w2 ⟨rfl, hf2⟩
        have HF2 := hid (HF.out.trans hf2 (fun _ _ f => f))
        clear hf2
        go_wp2_with fail
        exact ⟨⟨i + 1, by go_num, by omega, HS, HF2⟩, by simp [intOf]; omega⟩
      | false =>
        have HZ := hid (show P.alloc = (P.take i, (i : Int), 0) by rw [HA.out, HK.out, HST.out, if_neg (by simp [hu])])
        rw [hu] at HU
        clear hu hne
        go_wp2_with fail
        refine HU.out.mono ?_
        rintro e w2 ⟨rfl, hf2⟩
        have HF2 := hid (HF.out.trans hf2 (fun _ _ f => f))
        have HP2 := hid (HP.out.stay HF2.out)
        have k7 : w2.cell? ⟨p, 7, none⟩ = some (.map (some mt)) := cell_at HP2.out.1 7
        obtain ⟨w3, hrun, hset, hf3⟩ := HP2.out.2.2.1.put HT.out (by have := HN.out; omega) (i : Int) (by omega) (by omega)
        have HP3 := hid (show PAt w3 p g ml mt (P.take i) from ⟨hf3.at HP2.out.1 (set_block HP2.out.2.2.1 HP2.out.1), HP2.out.2.1.keep hf3 HP2.out.2.2.2, hset, HP2.out.2.2.2⟩)
        have HF3 := hid ((fr_no HF2.out).trans hf3 (fun _ _ e => e) : Fr (fun i => i = mt) w w3)
        clear hf2 hset hf3
        go_wp2_with fail
        go_ret2
        rw [HZ.out]
        exact ⟨rfl, HP3.out, HF3.out⟩

end Go.Proofs.YtjkhcfdflcndkaaGreat.D

/-
  Drop. No condition.
-/
namespace Go.Proofs.YtjkhcfdflcndkaaGreat.D
open Go.RowKit Go.Maps Go.Shelf
set_option linter.unusedVariables false
set_option linter.unusedSimpArgs false

theorem SetAt.clear {w : World} {b : Nat} {f : Int → Bool} (h : SetAt w b f) (ty : TypeId) :
    ∃ w', (Builtin.clear_ #[68] ty #[.map (some b)]).run Tryz.prog w = .ok (.tuple #[]) w' ∧ SetAt w' b (fun _ => false) ∧ Fr (· = b) w w' := by
  obtain ⟨n, D, ⟨es, clock, hb, F, hs, hD⟩, _⟩ := h
  have hturn : w.mapTurned (ChangeMaps.setBlock w b (.map #[] clock)) b := ⟨es, clock, #[], clock, hb, rfl⟩
  refine ⟨ChangeMaps.setBlock w b (.map #[] clock), ?_, ⟨0, .map [], ⟨#[], clock, ChangeMaps.heap_setBlock_same hb _, ⟨by simp, MapKept.stamped_empty clock, by simp⟩, Nat.le_refl _, rfl⟩, fun i => by simp [Maps.has], fun k hk => by simp [Maps.has] at hk⟩, (Fr.refl _ w).grown hturn.grown (fun i hi _ => by cases hi; rfl)⟩
  simp [Builtin.clear_, run_underlying Tryz.underlying68, MapKept.run_getObj_map hb, MapKept.run_setObj_map _ hb, Result.andThen]
  rfl

def PSt.drop (P : PSt) : PSt := { P with taken := fun _ => false }

set_option maxRecDepth 100000 in
theorem drop_c (w : World) (p g ml mt : Nat) (P : PSt) (h : PAt w p g ml mt P) :
    Calls Tryz.prog 25 #[.pointer (some ⟨p, 0, none⟩)] w fun e w' => e = .returned (.tuple #[]) ∧ PAt w' p g ml mt P.drop ∧ Fr (· = mt) w w' := by
  have k7 : w.cell? ⟨p, 7, none⟩ = some (.map (some mt)) := cell_at h.1 7
  have hcl := fun ty => h.2.2.1.clear ty
  obtain ⟨w3, hrun, hset, hf3⟩ := h.2.2.1.clear 0
  have HP3 := hid (show PAt w3 p g ml mt P.drop from ⟨hf3.at h.1 (set_block h.2.2.1 h.1), h.2.1.keep hf3 h.2.2.2, hset, h.2.2.2⟩)
  have HF3 := hid hf3
  clear h hset hf3 hcl
  go_enter Tryz.func25, Tryz.ntmps25
  go_wp2_with fail
  go_end0
  exact ⟨rfl, HP3.out, HF3.out⟩

end Go.Proofs.YtjkhcfdflcndkaaGreat.D

/-
  A set of pages, told by a function value. No condition beyond the sizes that are named.
-/
namespace Go.Proofs.YtjkhcfdflcndkaaGreat.D
open Go.RowKit Go.Maps Go.Shelf
set_option linter.unusedVariables false
set_option linter.unusedSimpArgs false

/-- A function value, its captures ahead and behind, that tells c of a number. -/
def May (w : World) (F : FuncId) (pre post : Array Value) (c : Int → Bool) : Prop :=
  (∀ args w', (callFunc F args).run Tryz.prog w' = .ok (.enter F args) w') ∧
  ∀ (i : Int) (w' : World), -9223372036854775808 ≤ i → i ≤ 9223372036854775807 → Fr (fun i => w.heap.size ≤ i) w w' → Calls Tryz.prog F (pre.push (.int .i64 i) ++ post) w' fun e w'' => e = .returned (.bool (c i)) ∧ Fr (fun _ => False) w' w''

/-- Are all of them such, and no two alike? -/
def setOk (c : Int → Bool) (l : List Int) : Bool := l.all c && decide l.Nodup

/-- How many different ones there are among the first k. -/
def dist (l : List Int) : Nat → Nat
  | 0 => 0
  | k + 1 => if (l.take k).contains (l.getD k 0) then dist l k else dist l k + 1
theorem dist_le (l : List Int) : ∀ k, dist l k ≤ k
  | 0 => Nat.le_refl _
  | k + 1 => by
    have := dist_le l k
    rw [dist]
    split <;> omega
theorem take_snoc (l : List Int) (k : Nat) (h : k < l.length) : l.take (k + 1) = l.take k ++ [l.getD k 0] := by
  rw [List.take_add_one]
  simp [List.getD_eq_getElem?_getD, h]
theorem dist_nodup (l : List Int) : ∀ k, k ≤ l.length → (dist l k = k ↔ (l.take k).Nodup)
  | 0, _ => by simp [dist]
  | k + 1, h => by
    have ih := dist_nodup l k (by omega)
    have hle := dist_le l k
    rw [take_snoc l k (by omega), List.nodup_append, dist]
    by_cases hc : (l.take k).contains (l.getD k 0) = true
    · rw [if_pos hc]
      refine ⟨fun e => by omega, fun e => absurd rfl (e.2.2 _ (List.contains_iff_mem.1 hc) (l.getD k 0) (by simp))⟩
    · rw [if_neg hc]
      constructor
      · intro e
        refine ⟨ih.1 (by omega), by simp, fun a ha b hb hab => ?_⟩
        simp only [List.mem_singleton] at hb
        subst hab
        rw [hb] at ha
        exact hc (List.contains_iff_mem.2 ha)
      · intro e
        have := ih.2 e.1
        omega

end Go.Proofs.YtjkhcfdflcndkaaGreat.D

/-
  pager.set. No condition beyond the sizes that are named.
-/
namespace Go.Proofs.YtjkhcfdflcndkaaGreat.D
open Go.RowKit Go.Maps Go.Shelf
set_option linter.unusedVariables false
set_option linter.unusedSimpArgs false

/-- The map in block b is this set of so many numbers. -/
def SetOf (w : World) (b : Nat) (f : Int → Bool) (z : Nat) : Prop :=
  ∃ n D, w.ownsMap Tryz.prog 3 (unitElem (H := Unit)) b n D ∧ (∀ i : Int, Maps.has D (.int .i64 i) = f i) ∧ (∀ k, Maps.has D k = true → ∃ i, k = .int .i64 i) ∧ Maps.size D = z

theorem SetOf.at {w : World} {b z : Nat} {f : Int → Bool} (h : SetOf w b f z) : SetAt w b f := by
  obtain ⟨n, D, h1, h2, h3, _⟩ := h
  exact ⟨n, D, h1, h2, h3⟩
theorem SetOf.keep {S : Nat → Prop} {w w' : World} {b z : Nat} {f : Int → Bool} (h : SetOf w b f z) (hf : Fr S w w') (hn : ¬ S b) : SetOf w' b f z := by
  obtain ⟨n, D, h1, h2, h3, h4⟩ := h
  exact ⟨n, D, owns_keep h1 hf hn, h2, h3, h4⟩

theorem SetOf.put {w : World} {b N z : Nat} {f : Int → Bool} (h : SetOf w b f z) (hb : ∀ i, f i = true → 0 ≤ i ∧ i < (N : Int)) (hN : N ≤ 1000000) (k : Int) (h1 : -9223372036854775808 ≤ k) (h2 : k ≤ 9223372036854775807) :
    ∃ w', (Instr.mapUpdate 68 (.map (some b)) (.int .i64 k) (.agg #[])).run Tryz.prog w = .ok () w' ∧ SetOf w' b (fun i => i == k || f i) (if f k then z else z + 1) ∧ Fr (· = b) w w' := by
  have K : Keyed Tryz.prog 3 := int_keyed Tryz.underlying3
  have hkey := keyOf_int_mk (P := Tryz.prog) (k := 3) Tryz.underlying3 (a := k) (WalkArith.wf_i64 (by omega))
  have hz : ∃ D, w.ownsMap Tryz.prog 3 (unitElem (H := Unit)) b N D ∧ (∀ i : Int, Maps.has D (.int .i64 i) = f i) ∧ (∀ k, Maps.has D k = true → ∃ i, k = .int .i64 i) ∧ Maps.size D = z := by
    obtain ⟨n, D, hown, hh, hk, hsz⟩ := h
    have hperm := set_few hown hh hk hb
    refine ⟨D, ?_, hh, hk, hsz⟩
    obtain ⟨es, clock, hb', F, hm, hD⟩ := hown
    refine ⟨es, clock, hb', F, ?_, hD⟩
    have h1 := hperm.length_eq
    have h2 : (intKeys D).length = es.size := by rw [hD]; simp [intKeys, length_sorted]
    rw [← h2, ← h1, List.length_map]
    have := List.length_filter_le (fun i => f (i : Nat)) (List.range N)
    simp at *
    omega
  obtain ⟨D, hown, hh, hks, hsz⟩ := hz
  obtain ⟨w', hrun, hown', hgr⟩ := hown.update K Tryz.underlying68 (by unfold maxLen; omega) hkey (unitElem_mk (H := Unit))
  have hM := hown.isMap
  refine ⟨w', hrun, ⟨_, _, hown', fun i => ?_, fun kl hkl => ?_, ?_⟩, (Fr.refl _ w).grown hgr (fun i hi _ => by cases hi; rfl)⟩
  · by_cases e : i = k
    · subst e
      rw [has_put_same hM (by trivial)]
      simp
    · rw [has_put_other (by intro e2; injection e2 with _ e2; omega), hh i]
      simp [e]
  · by_cases e : kl = .int .i64 k
    · exact ⟨k, e⟩
    · rw [has_put_other e] at hkl
      exact hks kl hkl
  · rw [size_put (hown.tidy K), hh k, hsz]

end Go.Proofs.YtjkhcfdflcndkaaGreat.D

/-
  pager.set. No condition beyond the sizes that are named.
-/
namespace Go.Proofs.YtjkhcfdflcndkaaGreat.D
open Go.RowKit Go.Maps Go.Shelf
set_option linter.unusedVariables false
set_option linter.unusedSimpArgs false

def SetPost (w : World) (c : Int → Bool) (l : List Int) (e : Ending) (w' : World) : Prop :=
  Fr (fun _ => False) w w' ∧ (setOk c l = true → ∃ B, e = .returned (.tuple #[.map (some B), .bool true]) ∧ SetAt w' B (fun x => l.contains x) ∧ w.heap.size ≤ B) ∧ (setOk c l = false → e = .returned (.tuple #[.map none, .bool false]) ∨ ∃ B, e = .returned (.tuple #[.map (some B), .bool false]) ∧ SetAt w' B (fun x => l.contains x))

theorem mem_snoc (l : List Int) (k : Nat) (h : k < l.length) (x : Int) : ((l.take (k + 1)).contains x) = (x == l.getD k 0 || (l.take k).contains x) := by
  rw [take_snoc l k h, Bool.eq_iff_iff]
  simp [or_comm]

theorem SetOf.len {w : World} {b z : Nat} {f : Int → Bool} (h : SetOf w b f z) (ty : TypeId) : (Builtin.len_ #[68] ty #[.map (some b)]).run Tryz.prog w = .ok (.int .i64 z) w := by
  obtain ⟨n, D, h1, _, _, h4⟩ := h
  rw [h1.len Tryz.underlying68, h4]

theorem setOk_iff (c : Int → Bool) (l : List Int) : setOk c l = true ↔ (∀ x ∈ l, c x = true) ∧ dist l l.length = l.length := by
  unfold setOk
  rw [Bool.and_eq_true, List.all_eq_true, decide_eq_true_eq, dist_nodup l l.length (Nat.le_refl _), List.take_length]

set_option maxHeartbeats 4000000 in
set_option maxRecDepth 100000 in
theorem set_c (w : World) (v : Value) (l : List Int) (F : FuncId) (pre post : Array Value) (c : Int → Bool) (N : Nat) (hv : IntsV w v l) (hl : ∀ x ∈ l, -9223372036854775808 ≤ x ∧ x ≤ 9223372036854775807) (hm : May w F pre post c) (hc : ∀ i, c i = true → 0 ≤ i ∧ i < (N : Int)) (hN : N ≤ 4096) :
    Calls Tryz.prog 65 #[v, .func (.func F) pre post] w (SetPost w c l) := by
  have HV := hid hv
  obtain ⟨a, cap, rfl, h0, h1⟩ := hv
  have hmm := @run_makeMap Tryz.prog
  have HM := hid hm
  have HC := hid hc
  have HL := hid hl
  have ENT := hm.1
  clear hm hc hl h1
  go_enter Tryz.func65, Tryz.ntmps65
  go_wp2_with fail
  have HS0 := hid (show SetOf (w.alloc (.map #[] 0)) w.heap.size (fun x => ([] : List Int).contains x) 0 from
    ⟨0, .map [], World.ownsMap_made _ _ _ _, fun i => by simp [Maps.has], fun k hk => by simp [Maps.has] at hk, by simp [Maps.size]⟩)
  obtain ⟨B, hB⟩ : ∃ B, B = w.heap.size := ⟨_, rfl⟩
  rw [← hB] at HS0 ⊢
  have HB := hid hB
  clear hB
  go_loopw [12] (fun v12 wr => ∃ i : Nat, v12 = .int .i64 i ∧ i ≤ l.length ∧ Hid (∀ x ∈ l.take i, c x = true) ∧ Hid (SetOf wr B (fun x => (l.take i).contains x) (dist l i)) ∧ Hid (Fr (fun _ => False) w wr)) (fun v _ => l.length - (intOf v).toNat)
  case atStart => exact ⟨0, rfl, by omega, hid (by simp), HS0, hid ((Fr.refl _ w).alloc _)⟩
  case round =>
    obtain ⟨i, rfl, hi, HA, HS, HF⟩ := hrel
    by_cases hend : i = l.length
    · subst hend
      have hlen := HS.out.len
      have HLT := hid (show (l.take l.length) = l from List.take_length)
      by_cases hd : dist l l.length = l.length
      · have HOK := hid ((setOk_iff c l).2 ⟨HLT.out ▸ HA.out, hd⟩)
        have q : (((dist l l.length : Nat) : Int) == (l.length : Int)) = true := by simp [hd]
        obtain ⟨z, hz⟩ : ∃ z, z = dist l l.length := ⟨_, rfl⟩
        rw [← hz] at hlen q
        clear hd hz
        go_wp2_with fail
        go_ret2
        refine ⟨HF.out, ?_⟩
        refine ⟨fun _ => ⟨B, rfl, ?_, by rw [HB.out]; exact Nat.le_refl _⟩, fun e => ?_⟩
        · have := HS.out.at
          rwa [HLT.out] at this
        · rw [HOK.out] at e
          cases e
      · have HOK := hid (show ¬ (setOk c l = true) from fun h => hd ((setOk_iff c l).1 h).2)
        have q : (((dist l l.length : Nat) : Int) == (l.length : Int)) = false := by rw [Bool.eq_false_iff]; intro e; simp at e; omega
        obtain ⟨z, hz⟩ : ∃ z, z = dist l l.length := ⟨_, rfl⟩
        rw [← hz] at hlen q
        clear hd hz
        go_wp2_with fail
        go_ret2
        refine ⟨HF.out, ?_⟩
        refine ⟨fun e => absurd e HOK.out, fun _ => Or.inr ⟨B, rfl, ?_⟩⟩
        have := HS.out.at
        rwa [HLT.out] at this
    · have hi' : i < l.length := by omega
      obtain ⟨x, hx⟩ : ∃ x, x = l.getD i 0 := ⟨_, rfl⟩
      obtain ⟨b0, o, rfl, h3⟩ : ∃ b0 o, a = some ⟨b0, o, none⟩ ∧ w.cell? ⟨b0, o + i, none⟩ = some (.int .i64 x) := by
        obtain ⟨a', cap', e1, _, h2⟩ := HV.out
        injection e1 with e1 _ _
        subst e1
        rcases h2 with h2 | ⟨b0, o, h2, h3⟩
        · rw [h2] at hi'; simp at hi'
        · exact ⟨b0, o, h2, hx ▸ h3 i hi'⟩
      have HLEN := hid hi'
      have hxm : x ∈ l := by rw [hx]; simp [List.getD_eq_getElem?_getD, List.getElem?_eq_getElem hi']
      have hxb := HL.out x hxm
      have ce := cells_stay2 HF.out h3
      have HCALL := hid (HM.out.2 x wr hxb.1 hxb.2 (fr_no HF.out))
      have HX := hid hx
      have HXM := hid hxm
      have HE := hid hend
      clear hx h3 hend hxm
      go_wp2_with fail
      refine HCALL.out.mono ?_
      rintro e w4 ⟨rfl, hf4⟩
      have HF4 := hid (HF.out.trans hf4 (fun _ _ f => f))
      have HS4 := hid (HS.out.keep hf4 (fun f => f))
      clear hf4 ce
      cases hck : c x with
      | false =>
        have HCK := hid hck
        clear hck
        go_wp2_with fail
        go_ret2
        refine ⟨HF4.out, ?_⟩
        refine ⟨fun h => ?_, fun _ => Or.inl rfl⟩
        rw [((setOk_iff c l).1 h).1 x HXM.out] at HCK
        exact absurd HCK.out (by decide)
      | true =>
        have HCK := hid hck
        clear hck
        obtain ⟨w5, hrun, hS5, hf5⟩ := HS4.out.put (N := N) (fun j hj => HC.out j (HA.out j (List.contains_iff_mem.1 hj))) (by omega) x hxb.1 hxb.2
        have HS5 := hid hS5
        have HF5 := hid hf5
        clear hS5 hf5
        go_wp2_with fail
        refine ⟨⟨i + 1, by go_num, by omega, hid ?_, hid ?_, hid ?_⟩, by simp [intOf]; omega⟩
        · intro y hy
          rw [take_snoc l i HLEN.out, List.mem_append, List.mem_singleton] at hy
          rcases hy with hy | hy
          · exact HA.out y hy
          · rw [hy, ← HX.out]
            exact HCK.out
        · have e : (fun y => (l.take (i + 1)).contains y) = (fun y => y == x || (l.take i).contains y) := by
            funext y
            rw [mem_snoc l i HLEN.out, HX.out]
          rw [e, dist, ← HX.out]
          exact HS5.out
        · exact HF4.out.trans HF5.out (fun j hj e => by have := HB.out; omega)

end Go.Proofs.YtjkhcfdflcndkaaGreat.D
