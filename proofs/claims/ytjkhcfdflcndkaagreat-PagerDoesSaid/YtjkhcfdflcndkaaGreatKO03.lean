/-
  After, Image, dies, sector, New, Clone. No condition beyond the disk's own.
-/
import Derived.Test.YtjkhcfdflcndkaaGreatKO01
import Derived.Test.YtjkhcfdflcndkaaGreatKO02
import Derived.Test.YtjkhcfdflcndkaaGreatKO00
namespace Go.Proofs.YtjkhcfdflcndkaaGreat.D
open Go.RowKit Go.Maps Go.Shelf
set_option linter.unusedVariables false
set_option linter.unusedSimpArgs false

theorem hU : UnsafeC := unsafe_c

theorem enter40 (args : Array Value) (w : World) : (callFunc 77 args).run Tryz.prog w = .ok (.enter 77 args) w := by kernel_rfl
theorem enter39 (args : Array Value) (w : World) : (callFunc 59 args).run Tryz.prog w = .ok (.enter 59 args) w := by kernel_rfl

theorem fr_up {w w' : World} (h : Fr (fun i => w.heap.size ≤ i) w w') (S : Nat → Prop) : Fr S w w' := ⟨h.os, h.tape, h.output, h.size, fun i hi _ => h.block i hi (by omega)⟩
theorem fr_no {S : Nat → Prop} {w w' : World} (h : Fr (fun _ => False) w w') : Fr S w w' := h.mono (fun _ _ f => f.elim)

theorem At.low {w : World} {g bm : Nat} {s : St} (h : At w g bm s) : g < w.heap.size ∧ bm < w.heap.size := by
  obtain ⟨⟨kv, h1, _⟩, m, D, ho, _⟩ := h
  exact ⟨lt_of_at h1, ho.lt⟩

/-- What is there stays where nothing that is there turns. -/
theorem At.stay {w w' : World} {g bm : Nat} {s : St} (h : At w g bm s) (hf : Fr (fun _ => False) w w') : At w' g bm s := h.keep hf (fun f => f) (fun f => f) (fun _ _ _ f => f)
theorem IntsAt.stay {w w' : World} {v : Value} {ks : List Int} (h : IntsAt w v ks) (hf : Fr (fun _ => False) w w') : IntsAt w' v ks := h.keep hf (fun _ _ _ f => f)

theorem after_c (w : World) (g bm : Nat) (s : St) (h : At w g bm s) (hs : s.Ok) (kv : Value) (ks : List Int) (hk : IntsV w kv ks) :
    Calls Tryz.prog 39 #[.pointer (some ⟨g, 0, none⟩), kv] w fun e w' => e = .returned (.string (bs (s.after ks))) ∧ Fr (fun _ => False) w w' := by
  have hf : Fr (fun _ => False) w (w.alloc (.cells #[kv] 38)) := (Fr.refl _ w).alloc _
  have hT : Tells (w.alloc (.cells #[kv] 38)) 77 #[.pointer (some ⟨w.heap.size, 0, none⟩)] (comes ks) (fun i => (w.alloc (.cells #[kv] 38)).heap.size ≤ i) := by
    refine ⟨enter40, fun i w' hw' => ?_⟩
    exact comes_c i w.heap.size kv ks w' ((fr_up hw' (fun _ => False)).at (MapKept.heap_alloc w _).1 (fun f => f)) ((hk.stay hf).stay (fr_up hw' _))
  have HC := hid (left_c hU (w.alloc (.cells #[kv] 38)) g bm s (h.stay hf) hs _ _ _ hT)
  obtain ⟨a, cap, rfl, _⟩ := hk
  have hmf : ∀ (fn : Fn) (first cap : Array Value) (w : World), (Instr.makeFunc fn first cap).run Tryz.prog w = .ok (.func fn first cap) w := fun _ _ _ _ => rfl
  have HF := hid hf
  clear h hT hf hs
  go_enter Tryz.func39, Tryz.ntmps39
  go_wp2_with fail
  refine HC.out.mono ?_
  rintro e w' ⟨rfl, hf'⟩
  go_wp2_with fail
  go_ret
  exact ⟨rfl, HF.out.trans hf' (fun _ _ f => f)⟩

theorem image_c (w : World) (g bm : Nat) (s : St) (h : At w g bm s) (hs : s.Ok) :
    Calls Tryz.prog 15 #[.pointer (some ⟨g, 0, none⟩)] w fun e w' => e = .returned (.string (bs s.image)) ∧ Fr (fun _ => False) w w' := by
  have hT : Tells w 59 #[] (fun _ => true) (fun i => w.heap.size ≤ i) := ⟨enter39, fun i w' hw' => by simpa using all_c i w'⟩
  have HC := hid (left_c hU w g bm s h hs _ _ _ hT)
  clear h hT hs
  go_enter Tryz.func15, Tryz.ntmps15
  go_wp2_with fail
  refine HC.out.mono ?_
  rintro e w' ⟨rfl, hf'⟩
  go_wp2_with fail
  go_ret
  exact ⟨rfl, hf'⟩

theorem dies_c (w : World) (g bm : Nat) (s : St) (h : At w g bm s) (hs : s.Ok) (kv : Value) (ks : List Int) (hk : IntsV w kv ks) :
    Calls Tryz.prog 70 #[.pointer (some ⟨g, 0, none⟩), kv] w fun e w' => e = .returned (.tuple #[]) ∧ (∃ bm', At w' g bm' (s.dies ks) ∧ w.heap.size ≤ bm') ∧ Fr (· = g) w w' := by
  have HC := hid (after_c w g bm s h hs kv ks hk)
  have HA := hid h
  obtain ⟨a, cap, rfl, _⟩ := hk
  clear h hs
  go_enter Tryz.func70, Tryz.ntmps70
  go_wp2_with fail
  refine HC.out.mono ?_
  rintro e w2 ⟨rfl, hf2⟩
  have HF2 := hid hf2
  have HC3 := hid (becomes_c w2 g bm s (s.after ks) (HA.out.stay hf2))
  clear hf2
  go_wp2_with fail
  refine HC3.out.mono ?_
  rintro e w3 ⟨rfl, hA3, hf3⟩
  have HF3 := hid hf3
  have HA3 := hid hA3
  obtain ⟨⟨kv3, h31, _⟩, _⟩ := hA3
  have f2 : w3.frozen? ⟨g, 2, none⟩ = false := frozen_at h31 2
  have f4 : w3.frozen? ⟨g, 4, none⟩ = false := frozen_at h31 4
  have c2 : w3.cell? ⟨g, 2, none⟩ = some (.int .i64 s.armed) := cell_at h31 2
  have c4 : w3.cell? ⟨g, 4, none⟩ = some (.bool s.dead) := cell_at h31 4
  clear hf3 h31
  go_wp2_with fail
  go_end0
  refine ⟨rfl, ⟨w2.heap.size, (HA3.out.cellsSet (s' := { s.becomes (s.after ks) with armed := 0 }) 2 _ (fun kv => rfl) rfl rfl).cellsSet 4 _ (fun kv => rfl) rfl rfl, HF2.out.size⟩, ?_⟩
  exact ((fr_no HF2.out).trans HF3.out (fun _ _ h => h)).trans (fr_set2 w3 g 2 4 _ _) (fun _ _ h => h)

theorem slice_str {P : Program} (t : TypeId) (ht : P.underlying t = some .string) (w : World) (l : List UInt8) (a b : Int) (h0 : 0 ≤ a) (h1 : a ≤ b) (h2 : b ≤ l.length) :
    (Instr.slice t (.string (bs l)) (some (.int .i64 a)) (some (.int .i64 b)) none).run P w = .ok (.string (bs ((l.drop a.toNat).take (b.toNat - a.toNat)))) w := by
  have hz : (bs l).size = l.length := by simp [bs, ByteArray.size]
  have eb : (b.toNat : Int) = b := Int.toNat_of_nonneg (by omega)
  have hx : (bs l).extract a.toNat b.toNat = bs ((l.drop a.toNat).take (b.toNat - a.toNat)) := by
    apply ByteArray.ext
    simp [bs, ByteArray.data_extract]
  simp [Instr.slice, run_underlying ht, Instr.sliceBounds, run_sliceBound, hz, h1, h2, eb, (by omega : 0 ≤ a), (by omega : 0 ≤ b), Result.andThen]
  exact hx

def St.sec (s : St) (i : Nat) : List UInt8 := (s.un i).getD ((s.safe.drop (64 * i)).take 64)

set_option maxRecDepth 100000 in
theorem sector_c (w : World) (g bm : Nat) (s : St) (h : At w g bm s) (hs : s.Ok) (i : Nat) (hi : i < s.n) :
    Calls Tryz.prog 82 #[.pointer (some ⟨g, 0, none⟩), .int .i64 i] w fun e w' => e = .returned (.string (bs (s.sec i))) ∧ Fr (fun _ => False) w w' := by
  have hlook := look_un h i (by have := hs.n2; omega) true
  obtain ⟨⟨kv, h1, h2⟩, _⟩ := h
  have c0 : w.cell? ⟨g, 0, none⟩ = some (.string (bs s.safe)) := cell_at h1 0
  have c1 : w.cell? ⟨g, 1, none⟩ = some (.map (some bm)) := cell_at h1 1
  have hi2 : i ≤ 4096 := by have := hs.n2; omega
  have hsz : 64 * i + 64 ≤ s.safe.length := by have := hs.safe; omega
  cases hu : s.un i with
  | some l =>
    have HE := hid (show s.sec i = l by simp [St.sec, hu])
    rw [hu] at hlook
    simp only [if_true, Option.getD_some, Option.isSome_some] at hlook
    clear h1 h2 hs hu hi
    go_enter Tryz.func82, Tryz.ntmps82
    go_wp2
    go_ret
    exact ⟨by rw [HE.out]; rfl, Fr.refl _ _⟩
  | none =>
    have HE := hid (show s.sec i = (s.safe.drop (64 * i)).take 64 by simp [St.sec, hu])
    have hsl := slice_str (P := Tryz.prog) 9 Tryz.underlying9 w s.safe ((i : Int) * 64) ((i : Int) * 64 + 64) (by omega) (by omega) (by omega)
    have e1 : ((i : Int) * 64).toNat = 64 * i := by omega
    have e2 : ((i : Int) * 64 + 64).toNat - 64 * i = 64 := by omega
    rw [e1, e2] at hsl
    rw [hu] at hlook
    simp only [if_true, Option.getD_none, Option.isSome_none] at hlook
    clear h1 h2 hs hu hi e1 e2
    go_enter Tryz.func82, Tryz.ntmps82
    go_wp2
    go_ret
    exact ⟨by rw [HE.out]; rfl, Fr.refl _ _⟩

theorem clone_c (w : World) (g bm : Nat) (s : St) (h : At w g bm s) :
    Calls Tryz.prog 36 #[.pointer (some ⟨g, 0, none⟩)] w fun e w' => ∃ g' bm', e = .returned (.pointer (some ⟨g', 0, none⟩)) ∧ At w' g' bm' s ∧ w.heap.size ≤ g' ∧ w.heap.size ≤ bm' ∧ Fr (fun _ => False) w w' := by
  have HA := hid h
  obtain ⟨⟨kv, h1, h2⟩, m, D, hown, h3⟩ := h
  have h2' := h2
  obtain ⟨a, cap, rfl, h4⟩ := h2
  have HI := hid h2'
  clear h2'
  have c0 : w.cell? ⟨g, 0, none⟩ = some (.string (bs s.safe)) := cell_at h1 0
  have c1 : w.cell? ⟨g, 1, none⟩ = some (.map (some bm)) := cell_at h1 1
  have c2 : w.cell? ⟨g, 2, none⟩ = some (.int .i64 s.armed) := cell_at h1 2
  have c3 : w.cell? ⟨g, 3, none⟩ = some (.slice a s.kept.length cap) := cell_at h1 3
  have c4 : w.cell? ⟨g, 4, none⟩ = some (.bool s.dead) := cell_at h1 4
  clear h1 h3 h4 hown
  have hf : Fr (fun _ => False) w (w.alloc (.cells (cellsOf s bm (.slice a s.kept.length cap)) 92)) := (Fr.refl _ w).alloc _
  have hA1 := HA.out.stay hf
  obtain ⟨⟨kv1, h11, h12⟩, m, D, hown, hsays⟩ := hA1
  have d1 : (w.alloc (.cells (cellsOf s bm (.slice a s.kept.length cap)) 92)).cell? ⟨g, 1, none⟩ = some (.map (some bm)) := cell_at h11 1
  have HC := hid (AnyW.maps_Clone_owns Tryz.cloneM 3 (plainElem (H := Unit) Tryz.prog 9) bm m D (w.alloc (.cells (cellsOf s bm (.slice a s.kept.length cap)) 92)) hown)
  have HS := hid hsays
  have HF := hid hf
  have HN := hid (show (w.alloc (.cells (cellsOf s bm (.slice a s.kept.length cap)) 92)).heap[w.heap.size]? = some (.cells (cellsOf s bm (.slice a s.kept.length cap)) 92) from (MapKept.heap_alloc w _).1)
  have hlw := HA.out.low
  clear h11 h12 hown hsays hf
  simp only [cellsOf] at d1
  go_enter Tryz.func36, Tryz.ntmps36
  go_wp2_with fail
  refine HC.out.mono ?_
  rintro e w2 ⟨rfl, ho2, _, hb2⟩
  have hz : (w.alloc (.cells (cellsOf s bm (.slice a s.kept.length cap)) 92)).heap.size = w.heap.size + 1 := by simp
  have hn2 : w2.heap[w.heap.size]? = some (.cells (cellsOf s bm (.slice a s.kept.length cap)) 92) := (hb2.block _ (by rw [hz]; omega)).trans HN.out
  have e1 : w2.cell? ⟨w.heap.size, 1, none⟩ = some (.map (some bm)) := cell_at hn2 1
  have e2 : w2.frozen? ⟨w.heap.size, 1, none⟩ = false := frozen_at hn2 1
  rw [hz] at ho2 hb2 ⊢
  have HO := hid ho2
  have HB := hid hb2
  have HN2 := hid hn2
  clear ho2 hb2 hn2 hz
  go_wp2_with fail
  go_ret
  have hf2 : Fr (fun _ => False) w w2 := HF.out.trans (Fr.below (by simpa using HB.out) (fun _ => False)) (fun _ _ f => f)
  have hf3 : Fr (fun i => i = w.heap.size) w2 (w2.setCell ⟨w.heap.size, 1, none⟩ (.map (some (w.heap.size + 1)))) := fr_set1 _ _ _ _
  refine ⟨w.heap.size, w.heap.size + 1, rfl, ⟨⟨.slice a s.kept.length cap, (set_at HN2.out 1 _).trans rfl, ?_⟩, m, D, owns_keep HO.out hf3 (by omega), HS.out⟩, Nat.le_refl _, by omega, ?_⟩
  · exact (HI.out.stay hf2).keep hf3 (fun b cur hb e => by subst e; rw [HN2.out] at hb; cases hb)
  · exact hf2.trans hf3 (fun i hi e => by omega)

def news (l : List UInt8) : St := { safe := l, un := fun _ => none, armed := 0, kept := [], dead := false }
def IsImage (l : List UInt8) : Prop := l.length ≠ 0 ∧ l.length % 64 = 0 ∧ l.length ≤ 262144
theorem news_ok {l : List UInt8} (h : IsImage l) : (news l).Ok := by
  obtain ⟨h1, h2, h3⟩ := h
  have e : (news l).n = l.length / 64 := rfl
  exact ⟨by rw [e]; show l.length = _; omega, by rw [e]; omega, by rw [e]; omega, (fun i l h => by cases h), by show 0 ≤ _; omega⟩

theorem new_c (w : World) (l : List UInt8) (hl : IsImage l) :
    Calls Tryz.prog 41 #[.string (bs l)] w fun e w' => ∃ g bm, e = .returned (.tuple #[.pointer (some ⟨g, 0, none⟩), .int .i64 0]) ∧ At w' g bm (news l) ∧ w.heap.size ≤ g ∧ w.heap.size ≤ bm ∧ Fr (fun _ => False) w w' := by
  obtain ⟨h1, h2, h3⟩ := hl
  have hmm := @run_makeMap Tryz.prog
  have n1 : ¬ l = [] := by intro e; subst e; simp at h1
  have n2 : (l.length : Int) % 64 = 0 := by omega
  have n3 : ((l.length : Int) == 0) = false := by simpa using n1
  have n4 : (l.length : Int) ≤ 262144 := by omega
  have hmap := hid (World.ownsMap_made w Tryz.prog 3 (plainElem (H := Unit) Tryz.prog 9))
  go_enter Tryz.func41, Tryz.ntmps41
  go_wp2
  go_ret2
  refine ⟨w.heap.size + 1, w.heap.size, rfl, ⟨⟨.slice none 0 0, ?_, none, 0, rfl, by simp [news], Or.inl rfl, fun x hx => by cases hx⟩, 0, .map [], hmap.out.alloc _, ⟨fun i => rfl, fun i z => rfl⟩, fun k hk => by cases hk⟩, by omega, Nat.le_refl _, ((Fr.refl _ w).alloc _).alloc _⟩
  have := (MapKept.heap_alloc (w.alloc (.map #[] 0)) (.cells #[.string (bs l), .map (some w.heap.size), .int .i64 0, .slice none 0 0, .bool false] 92)).1
  have hz : (w.alloc (.map #[] 0)).heap.size = w.heap.size + 1 := by simp
  rw [hz] at this
  exact this

theorem new_bad (w : World) (l : List UInt8) (hl : ¬ IsImage l) (hlen : l.length ≤ 9223372036854775807) :
    Calls Tryz.prog 41 #[.string (bs l)] w fun e w' => e = .returned (.tuple #[.pointer none, .int .i64 170]) ∧ w' = w := by
  have HL := hid hl
  have hmm := @run_makeMap Tryz.prog
  clear hl
  go_enter Tryz.func41, Tryz.ntmps41
  go_wp2
  all_goals first
    | (go_ret2; exact ⟨rfl, rfl⟩)
    | (exfalso; apply HL.out; rename_i a b c; simp at c; refine ⟨?_, ?_, ?_⟩; (intro e; exact a (List.length_eq_zero_iff.1 e)); omega; omega)

end Go.Proofs.YtjkhcfdflcndkaaGreat.D

/-
  Write. No condition beyond the disk's own.
-/
namespace Go.Proofs.YtjkhcfdflcndkaaGreat.D
open Go.RowKit Go.Maps Go.Shelf
set_option linter.unusedVariables false
set_option linter.unusedSimpArgs false

theorem At.drew {w : World} {g bm : Nat} {s : St} (h : At w g bm s) : At w.drew g bm s := h.keep (S := fun _ => False) (Fr.refl _ _).drew (fun f => f) (fun f => f) (fun _ _ _ f => f)

theorem own_few {w : World} {g bm : Nat} {s : St} (h : At w g bm s) (hs : s.Ok) : ∃ D, w.ownsMap Tryz.prog 3 (plainElem (H := Unit) Tryz.prog 9) bm 4096 D ∧ Says D s.un ∧ ∀ k, Maps.has D k = true → ∃ i : Nat, k = .int .i64 i := by
  obtain ⟨_, m, D, hown, hsays, hk⟩ := h
  have hperm := keys_perm (g := g) hs hown hsays hk
  refine ⟨D, ?_, hsays, hk⟩
  obtain ⟨es, clock, hb, F, hm, hD⟩ := hown
  refine ⟨es, clock, hb, F, ?_, hD⟩
  have h1 := hperm.length_eq
  have h2 : (intKeys D).length = es.size := by rw [hD]; simp [intKeys, length_sorted]
  rw [← h2, ← h1, List.length_map]
  have := List.length_filter_le (fun i => (s.un i).isSome) (List.range s.n)
  have h3 := hs.n2
  simp [St.unl] at *
  omega

theorem upd_un {w : World} {g bm : Nat} {s : St} (h : At w g bm s) (hs : s.Ok) (k : Nat) (hk : k ≤ 9223372036854775807) (l : List UInt8) (hl : l.length = 64) :
    ∃ w', (Instr.mapUpdate 90 (.map (some bm)) (.int .i64 k) (.string (bs l))).run Tryz.prog w = .ok () w' ∧ At w' g bm (s.wr1 k l) ∧ Fr (· = bm) w w' := by
  have K : Keyed Tryz.prog 3 := int_keyed Tryz.underlying3
  have hkey := keyOf_int_mk (P := Tryz.prog) (k := 3) Tryz.underlying3 (wf_nat k hk)
  obtain ⟨D, hown, hsays, hks⟩ := own_few h hs
  have hval : plainElem (H := Unit) Tryz.prog 9 (.string (bs l)) = some (.lit (.string l), []) := by
    have hz : (bs l).size = l.length := by simp [bs, ByteArray.size]
    have := plainElem_string (H := Unit) (P := Tryz.prog) (e := 9) Tryz.underlying9 (s := bs l) (by rw [hz, hl]; decide)
    simpa using this
  obtain ⟨w', hrun, hown', hgr⟩ := hown.update K Tryz.underlying90 (by decide) hkey hval
  have hf : Fr (· = bm) w w' := (Fr.refl _ w).grown hgr (fun i hi _ => by cases hi; rfl)
  have hM := hown.isMap
  have hne := h.ne
  obtain ⟨⟨kv, h1, h2⟩, _⟩ := h
  refine ⟨w', hrun, ⟨⟨kv, hf.at h1 hne, h2.keep hf (fun b cur hb e => ?_)⟩, _, _, hown', ⟨fun i => ?_, fun i z => ?_⟩, fun kl hkl => ?_⟩, hf⟩
  · obtain ⟨es, clock, hb2, _⟩ := hown
    subst e
    rw [hb] at hb2
    cases hb2
  · by_cases e : i = k
    · subst e
      rw [has_put_same hM (by trivial)]
      simp [St.wr1]
    · rw [has_put_other (by intro e2; injection e2 with _ e2; omega), hsays.has i]
      simp [St.wr1, e]
  · by_cases e : i = k
    · subst e
      rw [atKey_put_same hM (by trivial)]
      simp [St.wr1, un0]
    · rw [atKey_put_other (by intro e2; injection e2 with _ e2; omega), hsays.val i z]
      simp [St.wr1, e]
  · by_cases e : kl = .int .i64 k
    · exact ⟨k, e⟩
    · rw [has_put_other e] at hkl
      exact hks kl hkl

def WriteC (w : World) (g bm : Nat) (s : St) (a : Int) (l : List UInt8) : Prop :=
  Calls Tryz.prog 53 #[.pointer (some ⟨g, 0, none⟩), .int .i64 a, .string (bs l)] w fun e w' =>
      e = .returned (.int .i64 (s.write a l).2) ∧ (∃ bm', At w' g bm' (s.write a l).1 ∧ (bm' = bm ∨ w.heap.size ≤ bm')) ∧ Fr (fun i => i = g ∨ i = bm) w w'

theorem write_dead (w : World) (g bm : Nat) (s : St) (h : At w g bm s) (hs : s.Ok) (a : Int) (l : List UInt8) (hl : l.length ≤ 9223372036854775807) (hd : s.dead = true) : WriteC w g bm s a l := by
  have HE := hid (show s.write a l = (s, 2) by rw [St.write, if_pos hd])
  have HA := hid h
  obtain ⟨⟨kv, h1, h2⟩, _⟩ := h
  have c4 : w.cell? ⟨g, 4, none⟩ = some (.bool true) := hd ▸ cell_at h1 4
  clear h1 h2 hs hd
  unfold WriteC
  go_enter Tryz.func53, Tryz.ntmps53
  go_wp2
  go_ret
  rw [HE.out]
  exact ⟨rfl, ⟨bm, HA.out, Or.inl rfl⟩, Fr.refl _ _⟩

theorem write_long (w : World) (g bm : Nat) (s : St) (h : At w g bm s) (hs : s.Ok) (a : Int) (l : List UInt8) (hl : l.length ≤ 9223372036854775807) (hd : s.dead = false) (hm : l.length % 64 ≠ 0) : WriteC w g bm s a l := by
  have HE := hid (show s.write a l = (s, 172) by rw [St.write, if_neg (by simp [hd]), if_pos hm])
  have HA := hid h
  obtain ⟨⟨kv, h1, h2⟩, _⟩ := h
  have c4 : w.cell? ⟨g, 4, none⟩ = some (.bool false) := hd ▸ cell_at h1 4
  have n2 : ((l.length : Int) % 64 != 0) = true := by simp; omega
  clear h1 h2 hs hd hm
  unfold WriteC
  go_enter Tryz.func53, Tryz.ntmps53
  go_wp2
  go_ret
  rw [HE.out]
  exact ⟨rfl, ⟨bm, HA.out, Or.inl rfl⟩, Fr.refl _ _⟩

theorem write_at (w : World) (g bm : Nat) (s : St) (h : At w g bm s) (hs : s.Ok) (a : Int) (ha : -9223372036854775808 ≤ a) (ha2 : a ≤ 9223372036854775807) (l : List UInt8) (hl : l.length ≤ 9223372036854775807) (hd : s.dead = false) (hm : l.length % 64 = 0)
    (hat : a < 0 ∨ (s.n : Int) < a ∨ (s.n : Int) - a < (l.length / 64 : Nat)) : WriteC w g bm s a l := by
  have HE := hid (show s.write a l = (s, 171) by rw [St.write, if_neg (by simp [hd]), if_neg (by simp [hm]), if_pos hat])
  have HA := hid h
  have HCNT := hid (count_c w g bm s h hs)
  obtain ⟨⟨kv, h1, h2⟩, _⟩ := h
  have c4 : w.cell? ⟨g, 4, none⟩ = some (.bool false) := hd ▸ cell_at h1 4
  have n2 : (l.length : Int) % 64 = 0 := by omega
  have hn : s.n ≤ 4096 := hs.n2
  have hn0 : 0 < s.n := hs.n1
  have HAT := hid hat
  clear h1 h2 hs hd hm
  unfold WriteC
  rw [HE.out]
  by_cases a0 : a < 0
  · clear hat
    go_enter Tryz.func53, Tryz.ntmps53
    go_wp2_with (go_at_call 79; refine HCNT.out.mono ?_; rintro e w' ⟨rfl, rfl⟩)
    go_ret
    exact ⟨rfl, ⟨bm, HA.out, Or.inl rfl⟩, Fr.refl _ _⟩
  · by_cases a1 : (s.n : Int) < a
    · clear hat
      go_enter Tryz.func53, Tryz.ntmps53
      go_wp2_with (go_at_call 79; refine HCNT.out.mono ?_; rintro e w' ⟨rfl, rfl⟩)
      go_ret
      exact ⟨rfl, ⟨bm, HA.out, Or.inl rfl⟩, Fr.refl _ _⟩
    · have a2 : (s.n : Int) - a < (l.length : Int) / 64 := by omega
      clear hat
      go_enter Tryz.func53, Tryz.ntmps53
      go_wp2_with (go_at_call 79; refine HCNT.out.mono ?_; rintro e w' ⟨rfl, rfl⟩)
      go_ret
      exact ⟨rfl, ⟨bm, HA.out, Or.inl rfl⟩, Fr.refl _ _⟩

end Go.Proofs.YtjkhcfdflcndkaaGreat.D

/-
  Write, its loop. No condition beyond the disk's own.
-/
namespace Go.Proofs.YtjkhcfdflcndkaaGreat.D
open Go.RowKit Go.Maps Go.Shelf
set_option linter.unusedVariables false
set_option linter.unusedSimpArgs false

theorem wrs_step (m k : Nat) (l : List UInt8) (s : St) : wrs (m + 1) k l s = if (s.wr1 k (l.take 64)).step.2 then ((s.wr1 k (l.take 64)).step.1.dies s.kept, true) else wrs m (k + 1) (l.drop 64) (s.wr1 k (l.take 64)).step.1 := rfl

set_option maxHeartbeats 4000000 in
set_option maxRecDepth 100000 in
theorem write_go (w : World) (g bm : Nat) (s : St) (h : At w g bm s) (hs : s.Ok) (A : Nat) (l : List UInt8) (hd : s.dead = false) (hm : l.length % 64 = 0)
    (hat : A + l.length / 64 ≤ s.n) : WriteC w g bm s A l := by
  have HE := hid (show s.write A l = ((wrs (l.length / 64) A l s).1, errOf (wrs (l.length / 64) A l s).2) by
    rw [St.write, if_neg (by simp [hd]), if_neg (by simp [hm]), if_neg (by omega)]; simp)
  have HA := hid h
  have HCNT := hid (count_c w g bm s h hs)
  obtain ⟨⟨kv, h1, h2⟩, _⟩ := h
  have c4 : w.cell? ⟨g, 4, none⟩ = some (.bool false) := hd ▸ cell_at h1 4
  have n2 : (l.length : Int) % 64 = 0 := by omega
  have hn : s.n ≤ 4096 := hs.n2
  have hn0 : 0 < s.n := hs.n1
  obtain ⟨m, hmm⟩ : ∃ m, m = l.length / 64 := ⟨_, rfl⟩
  have n3 : (l.length : Int) / 64 = m := by omega
  have hlm : l.length = 64 * m := by omega
  have HLM := hid hlm
  rw [← hmm] at HE hat
  have HS := hid hs
  have hA4096 : A ≤ 4096 := by omega
  have hlen : l.length ≤ 9223372036854775807 := by omega
  have hm2 : m ≤ 4096 := by omega
  have b1 : (A : Int) ≤ s.n := by omega
  have b2 : (m : Int) ≤ (s.n : Int) - A := by omega
  have d1 : decide ((A : Int) < 0) = false := decide_eq_false (by omega)
  have d2 : decide (s.n < A) = false := decide_eq_false (by omega)
  have d3 : decide ((s.n : Int) - A < m) = false := decide_eq_false (by omega)
  clear h1 h2 hs hd hm hlm hmm
  unfold WriteC
  rw [HE.out]
  go_enter Tryz.func53, Tryz.ntmps53
  go_wp2_with (first | fail | (go_at_call 79; refine HCNT.out.mono ?_; rintro e w' ⟨rfl, rfl⟩))
  go_loopw [40, 6] (fun v v6 wr => ∃ k : Nat, v = .int .i64 k ∧ v6 = .int .i64 0 ∧ k ≤ m ∧ ∃ sk : St, Hid (wrs (m - k) (A + k) (l.drop (64 * k)) sk = wrs m A l s) ∧ Hid sk.Ok ∧ Hid (sk.n = s.n) ∧ Hid (At wr g bm sk) ∧ Hid (Fr (fun i => i = g ∨ i = bm) w' wr)) (fun i _ _ => m - (intOf i).toNat)
  case atStart => exact ⟨0, rfl, rfl, by omega, s, hid (by simp), HS, hid rfl, HA, hid (Fr.refl _ _)⟩
  case round =>
    obtain ⟨k, rfl, rfl, hk, sk, HW, HSK, HN, HAK, HF⟩ := hrel
    by_cases hend : k = m
    · subst hend
      have hw := HW.out
      rw [Nat.sub_self, wrs] at hw
      have HW2 := hid hw
      clear hw
      go_wp2_with fail
      go_ret
      rw [← HW2.out]
      exact ⟨rfl, ⟨bm, HAK.out, Or.inl rfl⟩, HF.out⟩
    · have hk' : k < m := by omega
      obtain ⟨q, hq⟩ : ∃ q, m - k = q + 1 := ⟨m - k - 1, by omega⟩
      have hw := HW.out
      have HQ := hid hq
      rw [hq, wrs_step] at hw
      have h64 : 64 * k + 64 ≤ l.length := by have := HLM.out; omega
      have hl64 : ((l.drop (64 * k)).take 64).length = 64 := by rw [List.length_take, List.length_drop]; omega
      obtain ⟨w2, hrun, hA2, hf2⟩ := upd_un HAK.out.drew HSK.out (A + k) (by omega) _ hl64
      have hsl := slice_str (P := Tryz.prog) 9 Tryz.underlying9 wr.drew l ((k : Int) * 64) ((k : Int) * 64 + 64) (by omega) (by omega) (by omega)
      have e1 : ((k : Int) * 64).toNat = 64 * k := by omega
      have e2 : ((k : Int) * 64 + 64).toNat - 64 * k = 64 := by omega
      have e3 : (((A + k : Nat)) : Int) = (A : Int) + k := by omega
      rw [e1, e2] at hsl
      rw [e3] at hrun
      obtain ⟨⟨kv', d1, _⟩, _⟩ := HAK.out
      have c1 : wr.cell? ⟨g, 1, none⟩ = some (.map (some bm)) := cell_at d1 1
      have hOk2 : (sk.wr1 (A + k) ((l.drop (64 * k)).take 64)).Ok := wr1_ok HSK.out (by have := HN.out; omega) hl64
      have HF2 := hid (HF.out.drew.trans hf2 (fun i _ e => Or.inr e))
      have HST := hid (step_c w2 g bm _ hA2 hOk2)
      have HO2 := hid hOk2
      obtain ⟨L, hL⟩ : ∃ L, L = (l.drop (64 * k)).take 64 := ⟨_, rfl⟩
      rw [← hL] at hrun hsl HST HO2 hw
      have HW2 := hid hw
      have HLL := hid hL
      have ex1 : IntKind.i64.wrap ((k : Int) * 64) = (k : Int) * 64 := by rw [IntKind.wrap_i64]; omega
      have ex2 : IntKind.i64.wrap ((k : Int) * 64 + 64) = (k : Int) * 64 + 64 := by rw [IntKind.wrap_i64]; omega
      have ex3 : IntKind.i64.wrap ((A : Int) + k) = (A : Int) + k := by rw [IntKind.wrap_i64]; omega
      clear hw hL d1 hOk2 hA2 hf2 e1 e2 e3 hend hq hl64
      go_wp2_with fail
      go_region
      go_wp2_with fail
      refine HST.out.mono ?_
      rintro e w3 ⟨rfl, hA3, hf3⟩
      have HF3 := hid (HF2.out.trans hf3 (fun i _ e => Or.inl e))
      have HA3 := hid hA3
      have HO3 := hid (step_ok HO2.out)
      obtain ⟨⟨kv3, d3, i3⟩, _⟩ := hA3
      have c3 : w3.cell? ⟨g, 3, none⟩ = some kv3 := cell_at d3 3
      have hw := HW2.out
      cases hgo : (sk.wr1 (A + k) L).step.2 with
      | true =>
        rw [hgo, if_pos rfl] at hw
        have HW3 := hid hw
        have HDIE := hid (dies_c w3 g bm _ HA3.out HO3.out kv3 sk.kept (by rw [step_kept] at i3; exact i3.toV))
        obtain ⟨ka, kc, rfl, _⟩ := i3
        clear hw hgo d3 hf3
        go_wp2_with fail
        refine HDIE.out.mono ?_
        rintro e w4 ⟨rfl, hA4, hf4⟩
        have HA4 := hid hA4
        have HF4 := hid hf4
        clear hA4 hf4
        go_wp2_with fail
        go_ret
        obtain ⟨bm', h41, h42⟩ := HA4.out
        rw [← HW3.out]
        exact ⟨rfl, ⟨bm', h41, Or.inr (Nat.le_trans HF3.out.size h42)⟩, HF3.out.trans HF4.out (fun i _ e => Or.inl e)⟩
      | false =>
        rw [hgo, if_neg (by simp)] at hw
        have HW3 := hid hw
        clear hw hgo d3 hf3 i3 c3
        go_wp2_with fail
        have hs3 : (sk.wr1 (A + k) L).step.1.n = sk.n := step_n _
        have e5 : m - (k + 1) = q := by have := HQ.out; omega
        go_roundw
        case rel =>
          refine ⟨k + 1, rfl, rfl, by omega, _, hid ?_, HO3, hid (hs3.trans HN.out), HA3, HF3⟩
          rw [e5, ← HW3.out, List.drop_drop]
          congr 1
        case measure => simp [intOf]; omega

end Go.Proofs.YtjkhcfdflcndkaaGreat.D
