/-
  The document's log: Begin, Room, Sync, Append. The log's Dead and Clone. No condition.
-/
import Derived.Test.YthmnchemfigneaaGreatWX2
import Derived.BigQuiet
import Derived.Deep.RegionWith
import Derived.Deep.RegionHeld3
namespace Go.Proofs.YthmnchemfigneaaGreat.D
open Go.RowKit Go.Maps Go.Shelf
set_option linter.unusedVariables false
set_option linter.unusedSimpArgs false

theorem ldead_c (w : World) (k g : Nat) (L : LSt) (h : LogAt w k g L) :
    Calls Tryz.prog 24 #[.pointer (some ⟨k, 0, none⟩)] w fun e w' => e = .returned (.bool L.dead) ∧ w' = w := by
  have c5 : w.cell? ⟨k, 5, none⟩ = some (.bool L.dead) := cell_at h 5
  clear h
  go_enter Tryz.func24, Tryz.ntmps24
  go_wp2
  go_ret
  exact ⟨rfl, rfl⟩

theorem lclone_c (w : World) (k g g2 : Nat) (L : LSt) (h : LogAt w k g L) :
    Calls Tryz.prog 20 #[.pointer (some ⟨k, 0, none⟩), .pointer (some ⟨g2, 0, none⟩)] w fun e w' => ∃ k', e = .returned (.pointer (some ⟨k', 0, none⟩)) ∧ LogAt w' k' g2 L ∧ w.heap.size ≤ k' ∧ Fr (fun _ => False) w w' := by
  have HL := hid h
  have c0 : w.cell? ⟨k, 0, none⟩ = some (.pointer (some ⟨g, 0, none⟩)) := cell_at h 0
  have c1 : w.cell? ⟨k, 1, none⟩ = some (.int .i64 L.first) := cell_at h 1
  have c2 : w.cell? ⟨k, 2, none⟩ = some (.int .i64 L.count) := cell_at h 2
  have c3 : w.cell? ⟨k, 3, none⟩ = some (.int .i64 L.at_) := cell_at h 3
  have c4 : w.cell? ⟨k, 4, none⟩ = some (.int .i64 L.next) := cell_at h 4
  have c5 : w.cell? ⟨k, 5, none⟩ = some (.bool L.dead) := cell_at h 5
  clear h
  go_enter Tryz.func20, Tryz.ntmps20
  go_wp2
  go_ret
  exact ⟨w.heap.size, rfl, (MapKept.heap_alloc w _).1, Nat.le_refl _, (Fr.refl _ _).alloc _⟩

/-! ### the document's log -/
def RLogAt (w : World) (k m : Nat) (L : LSt) : Prop := w.heap[k]? = some (.cells (lcells m L) 50)
theorem RLogAt.keep {S : Nat → Prop} {w w' : World} {k g : Nat} {L : LSt} (h : RLogAt w k g L) (hf : Fr S w w') (hn : ¬ S k) : RLogAt w' k g L := hf.at h hn
theorem RLogAt.stay {w w' : World} {k g : Nat} {L : LSt} (h : RLogAt w k g L) (hf : Fr (fun _ => False) w w') : RLogAt w' k g L := hf.at h (fun f => f)
theorem RLogAt.ne {w : World} {k m' m b1 b2 : Nat} {L : LSt} {s : St} (h : RLogAt w k m' L) (hd : RA w m b1 b2 s) : ¬ (k = m ∨ k = b1 ∨ k = b2) := rcells_apart hd h (by decide) (by decide)
theorem RA.rlog {w w' : World} {k m' m b1 b2 : Nat} {L : LSt} {s : St} (h : RA w m b1 b2 s) (hl : RLogAt w k m' L) (hf : Fr (· = k) w w') : RA w' m b1 b2 s := by
  obtain ⟨⟨c1, c2, kv, h1, hi⟩, ⟨x, h3, hx⟩, ⟨y, h4, hy⟩, h5⟩ := h
  exact ⟨⟨c1, c2, kv, hf.at h1 (fun e => other_cells hl h1 (by decide) e.symm), hi.keep hf (fun b cur hb e => other_cells hl hb (by decide) e.symm)⟩, ⟨x, hf.at h3 (fun e => other_cells hl h3 (by decide) e.symm), hx⟩, ⟨y, hf.at h4 (fun e => other_cells hl h4 (by decide) e.symm), hy⟩, h5⟩

set_option maxRecDepth 100000 in
theorem rbegin_c (w : World) (g b1 b2 : Nat) (s : St) (h : RA w g b1 b2 s) (hs : s.Ok) (f c n : Int) (hf : -9223372036854775808 ≤ f) (hf2 : f ≤ 9223372036854775807) (he : chk s f c n = 0) :
    Calls Tryz.prog 6 #[.pointer (some ⟨g, 0, none⟩), .int .i64 f, .int .i64 c, .int .i64 n] w fun e w' => ∃ k, e = .returned (.tuple #[.pointer (some ⟨k, 0, none⟩), .int .i64 0]) ∧
      RLogAt w' k g (LSt.begin f c n) ∧ w.heap.size ≤ k ∧ Fr (fun _ => False) w w' := by
  have HC := hid (form_c w g b1 b2 s h hs f c n hf hf2)
  rw [he] at HC
  have HO := hid (LSt.begin_ok he)
  clear h hs he
  go_enter Tryz.func6, Tryz.ntmps6
  go_wp2_with fail
  refine HC.out.mono ?_
  rintro e w2 ⟨rfl, rfl⟩
  go_wp2_with fail
  go_ret2
  refine ⟨w2.heap.size, rfl, ?_, Nat.le_refl _, (Fr.refl _ _).alloc _⟩
  obtain ⟨_, p1, p2, p3, p4, p5⟩ := HO.out
  unfold RLogAt
  rw [(MapKept.heap_alloc w2 _).1]
  simp only [lcells, LSt.begin, Int.toNat_of_nonneg p1, Int.toNat_of_nonneg (show 0 ≤ c by omega), Int.toNat_of_nonneg (show 0 ≤ n by omega)]
  rfl

set_option maxRecDepth 100000 in
theorem rbegin_bad (w : World) (g b1 b2 : Nat) (s : St) (h : RA w g b1 b2 s) (hs : s.Ok) (f c n : Int) (hf : -9223372036854775808 ≤ f) (hf2 : f ≤ 9223372036854775807) (he : chk s f c n ≠ 0) :
    Calls Tryz.prog 6 #[.pointer (some ⟨g, 0, none⟩), .int .i64 f, .int .i64 c, .int .i64 n] w fun e w' => e = .returned (.tuple #[.pointer none, .int .i64 (chk s f c n)]) ∧ w' = w := by
  have HC := hid (form_c w g b1 b2 s h hs f c n hf hf2)
  clear h hs
  obtain ⟨C, hC⟩ : ∃ C, C = chk s f c n := ⟨_, rfl⟩
  rw [← hC] at HC he ⊢
  have q : (C == 0) = false := by simpa using he
  have q2 : (C != 0) = true := by simpa using he
  clear hC he
  go_enter Tryz.func6, Tryz.ntmps6
  go_wp2_with fail
  refine HC.out.mono ?_
  rintro e w2 ⟨rfl, rfl⟩
  go_wp2_with fail
  go_ret2
  exact ⟨rfl, rfl⟩

set_option maxRecDepth 100000 in
theorem rroom_c (w : World) (k g : Nat) (L : LSt) (h : RLogAt w k g L) (ha : L.at_ ≤ L.count) (hc : L.count ≤ 4096) :
    Calls Tryz.prog 23 #[.pointer (some ⟨k, 0, none⟩)] w fun e w' => e = .returned (.int .i64 L.room) ∧ Fr (fun _ => False) w w' := by
  have c3 : w.cell? ⟨k, 3, none⟩ = some (.int .i64 L.at_) := cell_at h 3
  have c2 : w.cell? ⟨k, 2, none⟩ = some (.int .i64 L.count) := cell_at h 2
  clear h
  have hmin : ∀ w, (Builtin.min_ #[3, 3] 3 #[.int .i64 16384, .int .i64 (48 * ((L.count : Int) - L.at_))]).run Tryz.prog w = .ok (.int .i64 (min 16384 (48 * ((L.count : Int) - L.at_)))) w := by
    intro w
    rw [run_min_int2]
    congr 2
    split <;> omega
  have x1 : IntKind.i64.wrap ((L.count : Int) - L.at_) = (L.count : Int) - L.at_ := by rw [IntKind.wrap_i64]; omega
  obtain ⟨D, hD⟩ : ∃ D, D = (L.count : Int) - L.at_ := ⟨_, rfl⟩
  have hD0 : 0 ≤ D := by omega
  have hD1 : D ≤ 4096 := by omega
  by_cases he : L.at_ = L.count
  · have HE := hid (show L.room = -1 by unfold LSt.room; rw [if_pos he])
    rw [HE.out]
    have q : ((L.count : Int) - L.at_) = 0 := by omega
    rw [q] at x1
    clear hmin he hD
    go_enter Tryz.func23, Tryz.ntmps23
    go_wp2_with fail
    go_quiet (fail)
    go_wp2_with fail
    go_ret
    exact ⟨rfl, fr_drewN⟩
  · have HE := hid (show L.room = min 16384 (48 * ((L.count : Int) - L.at_)) by unfold LSt.room; rw [if_neg he])
    rw [HE.out]
    have q : ((L.count : Int) - L.at_ == 0) = false := by rw [Bool.eq_false_iff]; intro e; simp at e; omega
    have x2 : IntKind.i64.wrap (48 * ((L.count : Int) - L.at_)) = 48 * ((L.count : Int) - L.at_) := by rw [IntKind.wrap_i64]; omega
    clear he
    go_enter Tryz.func23, Tryz.ntmps23
    go_wp2_with fail
    go_quiet (fail)
    go_wp2_with fail
    go_ret
    exact ⟨rfl, fr_drewN⟩

theorem sync_two (s : St) : s.sync.2 = 0 ∨ s.sync.2 = 2 := by
  unfold St.sync
  split
  · exact Or.inr rfl
  split
  · exact Or.inr rfl
  · exact Or.inl rfl

/-- How the document's log and its disk have turned. -/
def RLTurn (w : World) (k m b1 b2 : Nat) (L : LSt) (S : St) (w' : World) : Prop :=
  RLogAt w' k m L ∧ (∃ b1' b2', RA w' m b1' b2' S ∧ (b1' = b1 ∨ w.heap.size ≤ b1') ∧ (b2' = b2 ∨ w.heap.size ≤ b2')) ∧ Fr (fun i => i = k ∨ i = m ∨ i = b1 ∨ i = b2) w w'

theorem RLTurn.of {w w2 : World} {k m b1 b2 : Nat} {L : LSt} {S0 S : St} (h : RLogAt w k m L) (hd : RA w m b1 b2 S0) (ht : RTurn w m b1 b2 S w2) : RLTurn w k m b1 b2 L S w2 :=
  ⟨h.keep ht.2 (h.ne hd), ht.1, ht.2.mono (fun i _ e => Or.inr e)⟩
theorem RLTurn.set {w w2 w3 : World} {k m b1 b2 : Nat} {L L' : LSt} {S : St} (h : RLTurn w k m b1 b2 L S w2) (hl : RLogAt w3 k m L') (hf : Fr (· = k) w2 w3) : RLTurn w k m b1 b2 L' S w3 := by
  obtain ⟨h1, ⟨b1', b2', h2, h3⟩, h4⟩ := h
  exact ⟨hl, ⟨b1', b2', h2.rlog h1 hf, h3⟩, h4.trans hf (fun i _ e => Or.inl e)⟩

set_option maxRecDepth 100000 in
theorem rlsync_c (w : World) (k m b1 b2 : Nat) (L : LSt) (s : St) (h : RLogAt w k m L) (hd : RA w m b1 b2 s) (hs : s.Ok) :
    Calls Tryz.prog 11 #[.pointer (some ⟨k, 0, none⟩)] w fun e w' => e = .returned (.int .i64 (L.sync s).2.2) ∧ RLTurn w k m b1 b2 (L.sync s).1 (L.sync s).2.1 w' := by
  have HL := hid h
  have HA := hid hd
  have c5 : w.cell? ⟨k, 5, none⟩ = some (.bool L.dead) := cell_at h 5
  have c0 : w.cell? ⟨k, 0, none⟩ = some (.pointer (some ⟨m, 0, none⟩)) := cell_at h 0
  have HC := hid (rsync_c w m b1 b2 s hd hs)
  unfold RSyncC at HC
  clear h hd hs
  cases hdd : L.dead with
  | true =>
    have HE := hid (show L.sync s = (L, s, 2) by unfold LSt.sync; rw [if_pos hdd])
    rw [HE.out]
    rw [hdd] at c5
    clear hdd
    go_enter Tryz.func11, Tryz.ntmps11
    go_wp2_with fail
    go_ret
    exact ⟨rfl, HL.out, ⟨b1, b2, HA.out, Or.inl rfl, Or.inl rfl⟩, Fr.refl _ _⟩
  | false =>
    have HE := hid (show L.sync s = (L.told s.sync.2, s.sync.1, s.sync.2) by unfold LSt.sync; rw [if_neg (by simp [hdd])])
    have h2 := sync_two s
    rw [HE.out]
    rw [hdd] at c5
    obtain ⟨X, hX⟩ : ∃ X, X = s.sync := ⟨_, rfl⟩
    rw [← hX] at HC h2 ⊢
    obtain ⟨S', cd⟩ := X
    simp only at HC h2 ⊢
    have HDD := hid hdd
    clear hdd hX
    rcases h2 with rfl | rfl
    · go_enter Tryz.func11, Tryz.ntmps11
      go_wp2_with fail
      refine HC.out.mono ?_
      rintro e w2 ⟨rfl, ht⟩
      have HT := hid (RLTurn.of HL.out HA.out ht)
      clear ht
      go_wp2_with fail
      go_ret
      have e : L.told 0 = L := by obtain ⟨a, b, c, d, e⟩ := L; simp [LSt.told]
      rw [e]
      exact ⟨rfl, HT.out⟩
    · go_enter Tryz.func11, Tryz.ntmps11
      go_wp2_with fail
      refine HC.out.mono ?_
      rintro e w2 ⟨rfl, ht⟩
      have HT := hid (RLTurn.of HL.out HA.out ht)
      have f5 : w2.frozen? ⟨k, 5, none⟩ = false := frozen_at HT.out.1 5
      have d5 : w2.cell? ⟨k, 5, none⟩ = some (.bool L.dead) := cell_at HT.out.1 5
      clear ht
      go_wp2_with fail
      go_ret
      refine ⟨rfl, HT.out.set ?_ (fr_set1 _ _ _ _)⟩
      have := set_at HT.out.1 5 (.bool true)
      unfold RLogAt LSt.told
      rw [this]
      simp [lcells]

end Go.Proofs.YthmnchemfigneaaGreat.D
