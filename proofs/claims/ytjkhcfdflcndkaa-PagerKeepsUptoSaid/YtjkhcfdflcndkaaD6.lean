/-
  After, Image, dies, sector, New, Clone. No condition beyond the disk's own.
-/
import Derived.Test.YtjkhcfdflcndkaaD4
import Derived.Test.YtjkhcfdflcndkaaD5
namespace Go.Proofs.Ytjkhcfdflcndkaa.D
open Go.RowKit Go.Maps Go.Shelf
set_option linter.unusedVariables false
set_option linter.unusedSimpArgs false

theorem hU : UnsafeC := unsafe_c

theorem enter40 (args : Array Value) (w : World) : (callFunc 64 args).run Try.prog w = .ok (.enter 64 args) w := by kernel_rfl
theorem enter39 (args : Array Value) (w : World) : (callFunc 63 args).run Try.prog w = .ok (.enter 63 args) w := by kernel_rfl

theorem fr_up {w w' : World} (h : Fr (fun i => w.heap.size ≤ i) w w') (S : Nat → Prop) : Fr S w w' := ⟨h.os, h.tape, h.output, h.size, fun i hi _ => h.block i hi (by omega)⟩
theorem fr_no {S : Nat → Prop} {w w' : World} (h : Fr (fun _ => False) w w') : Fr S w w' := h.mono (fun _ _ f => f.elim)

theorem At.low {w : World} {g bm : Nat} {s : St} (h : At w g bm s) : g < w.heap.size ∧ bm < w.heap.size := by
  obtain ⟨⟨kv, h1, _⟩, m, D, ho, _⟩ := h
  exact ⟨lt_of_at h1, ho.lt⟩

/-- What is there stays where nothing that is there turns. -/
theorem At.stay {w w' : World} {g bm : Nat} {s : St} (h : At w g bm s) (hf : Fr (fun _ => False) w w') : At w' g bm s := h.keep hf (fun f => f) (fun f => f) (fun _ _ _ f => f)
theorem IntsAt.stay {w w' : World} {v : Value} {ks : List Int} (h : IntsAt w v ks) (hf : Fr (fun _ => False) w w') : IntsAt w' v ks := h.keep hf (fun _ _ _ f => f)

theorem after_c (w : World) (g bm : Nat) (s : St) (h : At w g bm s) (hs : s.Ok) (kv : Value) (ks : List Int) (hk : IntsV w kv ks) :
    Calls Try.prog 53 #[.pointer (some ⟨g, 0, none⟩), kv] w fun e w' => e = .returned (.string (bs (s.after ks))) ∧ Fr (fun _ => False) w w' := by
  have hf : Fr (fun _ => False) w (w.alloc (.cells #[kv] 39)) := (Fr.refl _ w).alloc _
  have hT : Tells (w.alloc (.cells #[kv] 39)) 64 #[.pointer (some ⟨w.heap.size, 0, none⟩)] (comes ks) (fun i => (w.alloc (.cells #[kv] 39)).heap.size ≤ i) := by
    refine ⟨enter40, fun i w' hw' => ?_⟩
    exact comes_c i w.heap.size kv ks w' ((fr_up hw' (fun _ => False)).at (MapKept.heap_alloc w _).1 (fun f => f)) ((hk.stay hf).stay (fr_up hw' _))
  have HC := hid (left_c hU (w.alloc (.cells #[kv] 39)) g bm s (h.stay hf) hs _ _ _ hT)
  obtain ⟨a, cap, rfl, _⟩ := hk
  have hmf : ∀ (fn : Fn) (first cap : Array Value) (w : World), (Instr.makeFunc fn first cap).run Try.prog w = .ok (.func fn first cap) w := fun _ _ _ _ => rfl
  have HF := hid hf
  clear h hT hf hs
  go_enter Try.func53, Try.ntmps53
  go_wp2_with fail
  refine HC.out.mono ?_
  rintro e w' ⟨rfl, hf'⟩
  go_wp2_with fail
  go_ret
  exact ⟨rfl, HF.out.trans hf' (fun _ _ f => f)⟩

theorem image_c (w : World) (g bm : Nat) (s : St) (h : At w g bm s) (hs : s.Ok) :
    Calls Try.prog 52 #[.pointer (some ⟨g, 0, none⟩)] w fun e w' => e = .returned (.string (bs s.image)) ∧ Fr (fun _ => False) w w' := by
  have hT : Tells w 63 #[] (fun _ => true) (fun i => w.heap.size ≤ i) := ⟨enter39, fun i w' hw' => by simpa using all_c i w'⟩
  have HC := hid (left_c hU w g bm s h hs _ _ _ hT)
  clear h hT hs
  go_enter Try.func52, Try.ntmps52
  go_wp2_with fail
  refine HC.out.mono ?_
  rintro e w' ⟨rfl, hf'⟩
  go_wp2_with fail
  go_ret
  exact ⟨rfl, hf'⟩

theorem dies_c (w : World) (g bm : Nat) (s : St) (h : At w g bm s) (hs : s.Ok) (kv : Value) (ks : List Int) (hk : IntsV w kv ks) :
    Calls Try.prog 38 #[.pointer (some ⟨g, 0, none⟩), kv] w fun e w' => e = .returned (.tuple #[]) ∧ (∃ bm', At w' g bm' (s.dies ks) ∧ w.heap.size ≤ bm') ∧ Fr (· = g) w w' := by
  have HC := hid (after_c w g bm s h hs kv ks hk)
  have HA := hid h
  obtain ⟨a, cap, rfl, _⟩ := hk
  clear h hs
  go_enter Try.func38, Try.ntmps38
  go_wp2_with fail
  refine HC.out.mono ?_
  rintro e w2 ⟨rfl, hf2⟩
  have HF2 := hid hf2
  have HC3 := hid (becomes_c w2 g bm s (s.after ks) (HA.out.stay hf2))
  clear hf2
  go_wp2_with fail
  refine HC3.out.mono ?_
  rintro e w3 ⟨rfl, hA3, hf3⟩
  have HF3 := hid hf3
  have HA3 := hid hA3
  obtain ⟨⟨kv3, h31, _⟩, _⟩ := hA3
  have f2 : w3.frozen? ⟨g, 2, none⟩ = false := frozen_at h31 2
  have f4 : w3.frozen? ⟨g, 4, none⟩ = false := frozen_at h31 4
  have c2 : w3.cell? ⟨g, 2, none⟩ = some (.int .i64 s.armed) := cell_at h31 2
  have c4 : w3.cell? ⟨g, 4, none⟩ = some (.bool s.dead) := cell_at h31 4
  clear hf3 h31
  go_wp2_with fail
  go_end0
  refine ⟨rfl, ⟨w2.heap.size, (HA3.out.cellsSet (s' := { s.becomes (s.after ks) with armed := 0 }) 2 _ (fun kv => rfl) rfl rfl).cellsSet 4 _ (fun kv => rfl) rfl rfl, HF2.out.size⟩, ?_⟩
  exact ((fr_no HF2.out).trans HF3.out (fun _ _ h => h)).trans (fr_set2 w3 g 2 4 _ _) (fun _ _ h => h)

theorem slice_str {P : Program} (t : TypeId) (ht : P.underlying t = some .string) (w : World) (l : List UInt8) (a b : Int) (h0 : 0 ≤ a) (h1 : a ≤ b) (h2 : b ≤ l.length) :
    (Instr.slice t (.string (bs l)) (some (.int .i64 a)) (some (.int .i64 b)) none).run P w = .ok (.string (bs ((l.drop a.toNat).take (b.toNat - a.toNat)))) w := by
  have hz : (bs l).size = l.length := by simp [bs, ByteArray.size]
  have eb : (b.toNat : Int) = b := Int.toNat_of_nonneg (by omega)
  have hx : (bs l).extract a.toNat b.toNat = bs ((l.drop a.toNat).take (b.toNat - a.toNat)) := by
    apply ByteArray.ext
    simp [bs, ByteArray.data_extract]
  simp [Instr.slice, run_underlying ht, Instr.sliceBounds, run_sliceBound, hz, h1, h2, eb, (by omega : 0 ≤ a), (by omega : 0 ≤ b), Result.andThen]
  exact hx

def St.sec (s : St) (i : Nat) : List UInt8 := (s.un i).getD ((s.safe.drop (64 * i)).take 64)

set_option maxRecDepth 100000 in
theorem sector_c (w : World) (g bm : Nat) (s : St) (h : At w g bm s) (hs : s.Ok) (i : Nat) (hi : i < s.n) :
    Calls Try.prog 54 #[.pointer (some ⟨g, 0, none⟩), .int .i64 i] w fun e w' => e = .returned (.string (bs (s.sec i))) ∧ Fr (fun _ => False) w w' := by
  have hlook := look_un h i (by have := hs.n2; omega) true
  obtain ⟨⟨kv, h1, h2⟩, _⟩ := h
  have c0 : w.cell? ⟨g, 0, none⟩ = some (.string (bs s.safe)) := cell_at h1 0
  have c1 : w.cell? ⟨g, 1, none⟩ = some (.map (some bm)) := cell_at h1 1
  have hi2 : i ≤ 4096 := by have := hs.n2; omega
  have hsz : 64 * i + 64 ≤ s.safe.length := by have := hs.safe; omega
  cases hu : s.un i with
  | some l =>
    have HE := hid (show s.sec i = l by simp [St.sec, hu])
    rw [hu] at hlook
    simp only [if_true, Option.getD_some, Option.isSome_some] at hlook
    clear h1 h2 hs hu hi
    go_enter Try.func54, Try.ntmps54
    go_wp2
    go_ret
    exact ⟨by rw [HE.out]; rfl, Fr.refl _ _⟩
  | none =>
    have HE := hid (show s.sec i = (s.safe.drop (64 * i)).take 64 by simp [St.sec, hu])
    have hsl := slice_str (P := Try.prog) 9 Try.underlying9 w s.safe ((i : Int) * 64) ((i : Int) * 64 + 64) (by omega) (by omega) (by omega)
    have e1 : ((i : Int) * 64).toNat = 64 * i := by omega
    have e2 : ((i : Int) * 64 + 64).toNat - 64 * i = 64 := by omega
    rw [e1, e2] at hsl
    rw [hu] at hlook
    simp only [if_true, Option.getD_none, Option.isSome_none] at hlook
    clear h1 h2 hs hu hi e1 e2
    go_enter Try.func54, Try.ntmps54
    go_wp2
    go_ret
    exact ⟨by rw [HE.out]; rfl, Fr.refl _ _⟩

theorem clone_c (w : World) (g bm : Nat) (s : St) (h : At w g bm s) :
    Calls Try.prog 23 #[.pointer (some ⟨g, 0, none⟩)] w fun e w' => ∃ g' bm', e = .returned (.pointer (some ⟨g', 0, none⟩)) ∧ At w' g' bm' s ∧ w.heap.size ≤ g' ∧ w.heap.size ≤ bm' ∧ Fr (fun _ => False) w w' := by
  have HA := hid h
  obtain ⟨⟨kv, h1, h2⟩, m, D, hown, h3⟩ := h
  have h2' := h2
  obtain ⟨a, cap, rfl, h4⟩ := h2
  have HI := hid h2'
  clear h2'
  have c0 : w.cell? ⟨g, 0, none⟩ = some (.string (bs s.safe)) := cell_at h1 0
  have c1 : w.cell? ⟨g, 1, none⟩ = some (.map (some bm)) := cell_at h1 1
  have c2 : w.cell? ⟨g, 2, none⟩ = some (.int .i64 s.armed) := cell_at h1 2
  have c3 : w.cell? ⟨g, 3, none⟩ = some (.slice a s.kept.length cap) := cell_at h1 3
  have c4 : w.cell? ⟨g, 4, none⟩ = some (.bool s.dead) := cell_at h1 4
  clear h1 h3 h4 hown
  have hf : Fr (fun _ => False) w (w.alloc (.cells (cellsOf s bm (.slice a s.kept.length cap)) 65)) := (Fr.refl _ w).alloc _
  have hA1 := HA.out.stay hf
  obtain ⟨⟨kv1, h11, h12⟩, m, D, hown, hsays⟩ := hA1
  have d1 : (w.alloc (.cells (cellsOf s bm (.slice a s.kept.length cap)) 65)).cell? ⟨g, 1, none⟩ = some (.map (some bm)) := cell_at h11 1
  have HC := hid (AnyW.maps_Clone_owns Try.cloneM 3 (plainElem (H := Unit) Try.prog 9) bm m D (w.alloc (.cells (cellsOf s bm (.slice a s.kept.length cap)) 65)) hown)
  have HS := hid hsays
  have HF := hid hf
  have HN := hid (show (w.alloc (.cells (cellsOf s bm (.slice a s.kept.length cap)) 65)).heap[w.heap.size]? = some (.cells (cellsOf s bm (.slice a s.kept.length cap)) 65) from (MapKept.heap_alloc w _).1)
  have hlw := HA.out.low
  clear h11 h12 hown hsays hf
  simp only [cellsOf] at d1
  go_enter Try.func23, Try.ntmps23
  go_wp2_with fail
  refine HC.out.mono ?_
  rintro e w2 ⟨rfl, ho2, _, hb2⟩
  have hz : (w.alloc (.cells (cellsOf s bm (.slice a s.kept.length cap)) 65)).heap.size = w.heap.size + 1 := by simp
  have hn2 : w2.heap[w.heap.size]? = some (.cells (cellsOf s bm (.slice a s.kept.length cap)) 65) := (hb2.block _ (by rw [hz]; omega)).trans HN.out
  have e1 : w2.cell? ⟨w.heap.size, 1, none⟩ = some (.map (some bm)) := cell_at hn2 1
  have e2 : w2.frozen? ⟨w.heap.size, 1, none⟩ = false := frozen_at hn2 1
  rw [hz] at ho2 hb2 ⊢
  have HO := hid ho2
  have HB := hid hb2
  have HN2 := hid hn2
  clear ho2 hb2 hn2 hz
  go_wp2_with fail
  go_ret
  have hf2 : Fr (fun _ => False) w w2 := HF.out.trans (Fr.below (by simpa using HB.out) (fun _ => False)) (fun _ _ f => f)
  have hf3 : Fr (fun i => i = w.heap.size) w2 (w2.setCell ⟨w.heap.size, 1, none⟩ (.map (some (w.heap.size + 1)))) := fr_set1 _ _ _ _
  refine ⟨w.heap.size, w.heap.size + 1, rfl, ⟨⟨.slice a s.kept.length cap, (set_at HN2.out 1 _).trans rfl, ?_⟩, m, D, owns_keep HO.out hf3 (by omega), HS.out⟩, Nat.le_refl _, by omega, ?_⟩
  · exact (HI.out.stay hf2).keep hf3 (fun b cur hb e => by subst e; rw [HN2.out] at hb; cases hb)
  · exact hf2.trans hf3 (fun i hi e => by omega)

def news (l : List UInt8) : St := { safe := l, un := fun _ => none, armed := 0, kept := [], dead := false }
def IsImage (l : List UInt8) : Prop := l.length ≠ 0 ∧ l.length % 64 = 0 ∧ l.length ≤ 262144
theorem news_ok {l : List UInt8} (h : IsImage l) : (news l).Ok := by
  obtain ⟨h1, h2, h3⟩ := h
  have e : (news l).n = l.length / 64 := rfl
  exact ⟨by rw [e]; show l.length = _; omega, by rw [e]; omega, by rw [e]; omega, (fun i l h => by cases h), by show 0 ≤ _; omega⟩

theorem new_c (w : World) (l : List UInt8) (hl : IsImage l) :
    Calls Try.prog 10 #[.string (bs l)] w fun e w' => ∃ g bm, e = .returned (.tuple #[.pointer (some ⟨g, 0, none⟩), .int .i64 0]) ∧ At w' g bm (news l) ∧ w.heap.size ≤ g ∧ w.heap.size ≤ bm ∧ Fr (fun _ => False) w w' := by
  obtain ⟨h1, h2, h3⟩ := hl
  have hmm := @run_makeMap Try.prog
  have n1 : ¬ l = [] := by intro e; subst e; simp at h1
  have n2 : (l.length : Int) % 64 = 0 := by omega
  have n3 : ((l.length : Int) == 0) = false := by simpa using n1
  have n4 : (l.length : Int) ≤ 262144 := by omega
  have hmap := hid (World.ownsMap_made w Try.prog 3 (plainElem (H := Unit) Try.prog 9))
  go_enter Try.func10, Try.ntmps10
  go_wp2
  go_ret2
  refine ⟨w.heap.size + 1, w.heap.size, rfl, ⟨⟨.slice none 0 0, ?_, none, 0, rfl, by simp [news], Or.inl rfl, fun x hx => by cases hx⟩, 0, .map [], hmap.out.alloc _, ⟨fun i => rfl, fun i z => rfl⟩, fun k hk => by cases hk⟩, by omega, Nat.le_refl _, ((Fr.refl _ w).alloc _).alloc _⟩
  have := (MapKept.heap_alloc (w.alloc (.map #[] 0)) (.cells #[.string (bs l), .map (some w.heap.size), .int .i64 0, .slice none 0 0, .bool false] 65)).1
  have hz : (w.alloc (.map #[] 0)).heap.size = w.heap.size + 1 := by simp
  rw [hz] at this
  exact this

theorem new_bad (w : World) (l : List UInt8) (hl : ¬ IsImage l) (hlen : l.length ≤ 9223372036854775807) :
    Calls Try.prog 10 #[.string (bs l)] w fun e w' => e = .returned (.tuple #[.pointer none, .int .i64 170]) ∧ w' = w := by
  have HL := hid hl
  have hmm := @run_makeMap Try.prog
  clear hl
  go_enter Try.func10, Try.ntmps10
  go_wp2
  all_goals first
    | (go_ret2; exact ⟨rfl, rfl⟩)
    | (exfalso; apply HL.out; rename_i a b c; simp at c; refine ⟨?_, ?_, ?_⟩; (intro e; exact a (List.length_eq_zero_iff.1 e)); omega; omega)

end Go.Proofs.Ytjkhcfdflcndkaa.D
