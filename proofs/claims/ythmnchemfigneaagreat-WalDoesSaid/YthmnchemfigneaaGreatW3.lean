/-
  The log's own calls: Sectors, check, Begin, told, Next, Room, Sync. No condition beyond the sizes that are named.
-/
import Derived.Test.YthmnchemfigneaaGreatW2
import Derived.Test.YthmnchemfigneaaGreatXL
namespace Go.Proofs.YthmnchemfigneaaGreat.D
open Go.RowKit Go.Maps Go.Shelf
set_option linter.unusedVariables false
set_option linter.unusedSimpArgs false

theorem fr_drewN {S : Nat → Prop} {w : World} {n : Nat} : Fr S w (w.drewN n) := ⟨rfl, rfl, rfl, Nat.le_refl _, fun _ _ _ => rfl⟩

/-- May an area and a number be? -/
def chk (s : St) (f c n : Int) : Int :=
  if f < 0 ∨ c < 1 ∨ (s.n : Int) < f ∨ (s.n : Int) - f < c ∨ n < 1 ∨ 1152921504606846976 < n then 180 else if s.dead then 2 else 0

set_option maxRecDepth 100000 in
theorem check_c (w : World) (g bm : Nat) (s : St) (h : At w g bm s) (hs : s.Ok) (f c n : Int) (hf : -9223372036854775808 ≤ f) (hf2 : f ≤ 9223372036854775807) :
    Calls Tryz.prog 31 #[.pointer (some ⟨g, 0, none⟩), .int .i64 f, .int .i64 c, .int .i64 n] w fun e w' => e = .returned (.int .i64 (chk s f c n)) ∧ w' = w := by
  have HCNT := hid (count_c w g bm s h hs)
  have HDD := hid (dead_c w g bm s h)
  have hn : s.n ≤ 4096 := hs.n2
  have hn0 : 0 < s.n := hs.n1
  clear h hs
  by_cases bad : f < 0 ∨ c < 1 ∨ (s.n : Int) < f ∨ (s.n : Int) - f < c ∨ n < 1 ∨ 1152921504606846976 < n
  · have HE := hid (show chk s f c n = 180 by unfold chk; rw [if_pos bad])
    rw [HE.out]
    by_cases a0 : f < 0
    · clear bad
      go_enter Tryz.func31, Tryz.ntmps31
      go_wp2_with (go_at_call 56; refine HCNT.out.mono ?_; rintro e w' ⟨rfl, rfl⟩)
      go_ret
      exact ⟨rfl, rfl⟩
    by_cases c0 : c < 1
    · clear bad
      go_enter Tryz.func31, Tryz.ntmps31
      go_wp2_with (go_at_call 56; refine HCNT.out.mono ?_; rintro e w' ⟨rfl, rfl⟩)
      go_ret
      exact ⟨rfl, rfl⟩
    by_cases a1 : (s.n : Int) < f
    · clear bad
      go_enter Tryz.func31, Tryz.ntmps31
      go_wp2_with (go_at_call 56; refine HCNT.out.mono ?_; rintro e w' ⟨rfl, rfl⟩)
      go_ret
      exact ⟨rfl, rfl⟩
    by_cases a2 : (s.n : Int) - f < c
    · clear bad
      go_enter Tryz.func31, Tryz.ntmps31
      go_wp2_with (go_at_call 56; refine HCNT.out.mono ?_; rintro e w' ⟨rfl, rfl⟩)
      go_ret
      exact ⟨rfl, rfl⟩
    by_cases b0 : n < 1
    · clear bad
      go_enter Tryz.func31, Tryz.ntmps31
      go_wp2_with (go_at_call 56; refine HCNT.out.mono ?_; rintro e w' ⟨rfl, rfl⟩)
      go_ret
      exact ⟨rfl, rfl⟩
    · have b1 : 1152921504606846976 < n := by omega
      clear bad
      go_enter Tryz.func31, Tryz.ntmps31
      go_wp2_with (go_at_call 56; refine HCNT.out.mono ?_; rintro e w' ⟨rfl, rfl⟩)
      go_ret
      exact ⟨rfl, rfl⟩
  · have HE := hid (show chk s f c n = if s.dead then 2 else 0 by unfold chk; rw [if_neg bad])
    have a0 : ¬ f < 0 := by omega
    have c0 : ¬ c < 1 := by omega
    have a1 : ¬ (s.n : Int) < f := by omega
    have a2 : ¬ (s.n : Int) - f < c := by omega
    have b0 : ¬ n < 1 := by omega
    have b1 : ¬ 1152921504606846976 < n := by omega
    clear bad
    cases hd : s.dead with
    | true =>
      have HE2 := hid (show chk s f c n = 2 by rw [HE.out, hd]; rfl)
      rw [hd] at HDD
      rw [HE2.out]
      clear hd
      go_enter Tryz.func31, Tryz.ntmps31
      go_wp2_with (first
        | (go_at_call 56; refine HCNT.out.mono ?_; rintro e w' ⟨rfl, rfl⟩)
        | (go_at_call 57; refine HDD.out.mono ?_; rintro e w' ⟨rfl, rfl⟩))
      go_ret
      exact ⟨rfl, rfl⟩
    | false =>
      have HE2 := hid (show chk s f c n = 0 by rw [HE.out, hd]; rfl)
      rw [hd] at HDD
      rw [HE2.out]
      clear hd
      go_enter Tryz.func31, Tryz.ntmps31
      go_wp2_with (first
        | (go_at_call 56; refine HCNT.out.mono ?_; rintro e w' ⟨rfl, rfl⟩)
        | (go_at_call 57; refine HDD.out.mono ?_; rintro e w' ⟨rfl, rfl⟩))
      go_ret
      exact ⟨rfl, rfl⟩

/-- Sectors, in plain words. -/
def secsR (n : Int) (r : List UInt8) : List UInt8 × Int :=
  if n < 1 ∨ 1152921504606846976 < n then ([], 1) else if 16384 < r.length then ([], 181) else (secsOf n.toNat r, 0)

set_option maxRecDepth 100000 in
theorem sectors_x (w : World) (n : Int) (r : List UInt8) (hr : r.length ≤ 9223372036854775807) :
    Calls Tryz.prog 33 #[.int .i64 n, .string (bs r)] w fun e w' => e = .returned (.tuple #[.string (bs (secsR n r).1), .int .i64 (secsR n r).2]) ∧ Fr (fun _ => False) w w' := by
  have hz : (bs r).size = r.length := by simp [bs, ByteArray.size]
  by_cases b0 : n < 1
  · have HE := hid (show secsR n r = ([], 1) by unfold secsR; rw [if_pos (Or.inl b0)])
    rw [HE.out]
    go_enter Tryz.func33, Tryz.ntmps33
    go_wp2_with fail
    go_ret2
    exact ⟨rfl, Fr.refl _ _⟩
  by_cases b1 : 1152921504606846976 < n
  · have HE := hid (show secsR n r = ([], 1) by unfold secsR; rw [if_pos (Or.inr b1)])
    rw [HE.out]
    go_enter Tryz.func33, Tryz.ntmps33
    go_wp2_with fail
    go_ret2
    exact ⟨rfl, Fr.refl _ _⟩
  by_cases hl : 16384 < r.length
  · have HE := hid (show secsR n r = ([], 181) by unfold secsR; rw [if_neg (by omega), if_pos hl])
    rw [HE.out]
    go_enter Tryz.func33, Tryz.ntmps33
    go_wp2_with fail
    go_ret2
    exact ⟨rfl, Fr.refl _ _⟩
  · obtain ⟨N, hN⟩ : ∃ N : Nat, n = N := ⟨n.toNat, by omega⟩
    subst hN
    have HE := hid (show secsR (N : Int) r = (secsOf N r, 0) by unfold secsR; rw [if_neg (by omega), if_neg (by omega)]; simp)
    rw [HE.out]
    have HS := hid (sectors_c w N r (by omega) (by omega))
    go_enter Tryz.func33, Tryz.ntmps33
    go_wp2_with fail
    refine HS.out.mono ?_
    rintro e w2 ⟨rfl, hf⟩
    go_wp2_with fail
    go_ret2
    exact ⟨rfl, hf⟩

/-! ### a log -/
structure LSt where
  first : Nat
  count : Nat
  at_ : Nat
  next : Nat
  dead : Bool
def lcells (g : Nat) (L : LSt) : Array Value := #[.pointer (some ⟨g, 0, none⟩), .int .i64 L.first, .int .i64 L.count, .int .i64 L.at_, .int .i64 L.next, .bool L.dead]
/-- Block k is a log over the disk in block g. -/
def LogAt (w : World) (k g : Nat) (L : LSt) : Prop := w.heap[k]? = some (.cells (lcells g L) 61)
structure LSt.Ok (L : LSt) (n : Nat) : Prop where
  c1 : 1 ≤ L.count
  area : L.first + L.count ≤ n
  at_ : L.at_ ≤ L.count
  n1 : 1 ≤ L.next
  n2 : L.next ≤ 1152921504606846976

theorem LogAt.keep {S : Nat → Prop} {w w' : World} {k g : Nat} {L : LSt} (h : LogAt w k g L) (hf : Fr S w w') (hn : ¬ S k) : LogAt w' k g L := hf.at h hn
theorem LogAt.stay {w w' : World} {k g : Nat} {L : LSt} (h : LogAt w k g L) (hf : Fr (fun _ => False) w w') : LogAt w' k g L := hf.at h (fun f => f)
theorem LogAt.ne {w : World} {k g' g bm : Nat} {L : LSt} {s : St} (h : LogAt w k g' L) (hd : At w g bm s) : k ≠ g ∧ k ≠ bm := by
  obtain ⟨⟨kv, h1, _⟩, m, D, ⟨es, clock, h2, _⟩, _⟩ := hd
  unfold LogAt at h
  constructor
  · rintro rfl
    rw [h1] at h
    injection h with h
    injection h with _ e2
    exact absurd e2 (by decide)
  · rintro rfl; rw [h2] at h; cases h

def LSt.begin (f c n : Int) : LSt := { first := f.toNat, count := c.toNat, at_ := 0, next := n.toNat, dead := false }
theorem LSt.begin_ok {s : St} {f c n : Int} (h : chk s f c n = 0) : (LSt.begin f c n).Ok s.n ∧ 0 ≤ f ∧ 1 ≤ c ∧ 1 ≤ n ∧ n ≤ 1152921504606846976 ∧ f + c ≤ s.n := by
  unfold chk at h
  split at h
  · cases h
  · rename_i hb
    refine ⟨⟨?_, ?_, Nat.zero_le _, ?_, ?_⟩, ?_, ?_, ?_, ?_, ?_⟩ <;> (try simp only [LSt.begin]) <;> omega

set_option maxRecDepth 100000 in
theorem begin_c (w : World) (g bm : Nat) (s : St) (h : At w g bm s) (hs : s.Ok) (f c n : Int) (hf : -9223372036854775808 ≤ f) (hf2 : f ≤ 9223372036854775807) (he : chk s f c n = 0) :
    Calls Tryz.prog 5 #[.pointer (some ⟨g, 0, none⟩), .int .i64 f, .int .i64 c, .int .i64 n] w fun e w' => ∃ k, e = .returned (.tuple #[.pointer (some ⟨k, 0, none⟩), .int .i64 0]) ∧
      LogAt w' k g (LSt.begin f c n) ∧ w.heap.size ≤ k ∧ Fr (fun _ => False) w w' := by
  have HC := hid (check_c w g bm s h hs f c n hf hf2)
  rw [he] at HC
  have HO := hid (LSt.begin_ok he)
  clear h hs he
  go_enter Tryz.func5, Tryz.ntmps5
  go_wp2_with fail
  refine HC.out.mono ?_
  rintro e w2 ⟨rfl, rfl⟩
  go_wp2_with fail
  go_ret2
  refine ⟨w2.heap.size, rfl, ?_, Nat.le_refl _, (Fr.refl _ _).alloc _⟩
  obtain ⟨_, p1, p2, p3, p4, p5⟩ := HO.out
  unfold LogAt
  rw [(MapKept.heap_alloc w2 _).1]
  simp only [lcells, LSt.begin, Int.toNat_of_nonneg p1, Int.toNat_of_nonneg (show 0 ≤ c by omega), Int.toNat_of_nonneg (show 0 ≤ n by omega)]
  rfl

set_option maxRecDepth 100000 in
theorem begin_bad (w : World) (g bm : Nat) (s : St) (h : At w g bm s) (hs : s.Ok) (f c n : Int) (hf : -9223372036854775808 ≤ f) (hf2 : f ≤ 9223372036854775807) (he : chk s f c n ≠ 0) :
    Calls Tryz.prog 5 #[.pointer (some ⟨g, 0, none⟩), .int .i64 f, .int .i64 c, .int .i64 n] w fun e w' => e = .returned (.tuple #[.pointer none, .int .i64 (chk s f c n)]) ∧ w' = w := by
  have HC := hid (check_c w g bm s h hs f c n hf hf2)
  clear h hs
  obtain ⟨C, hC⟩ : ∃ C, C = chk s f c n := ⟨_, rfl⟩
  rw [← hC] at HC he ⊢
  have q : (C == 0) = false := by simpa using he
  have q2 : (C != 0) = true := by simpa using he
  clear hC he
  go_enter Tryz.func5, Tryz.ntmps5
  go_wp2_with fail
  refine HC.out.mono ?_
  rintro e w2 ⟨rfl, rfl⟩
  go_wp2_with fail
  go_ret2
  exact ⟨rfl, rfl⟩

theorem next_c (w : World) (k g : Nat) (L : LSt) (h : LogAt w k g L) :
    Calls Tryz.prog 21 #[.pointer (some ⟨k, 0, none⟩)] w fun e w' => e = .returned (.int .i64 L.next) ∧ w' = w := by
  have c4 : w.cell? ⟨k, 4, none⟩ = some (.int .i64 L.next) := cell_at h 4
  clear h
  go_enter Tryz.func21, Tryz.ntmps21
  go_wp2
  go_ret
  exact ⟨rfl, rfl⟩

def LSt.room (L : LSt) : Int := if L.at_ = L.count then -1 else min 16384 (48 * ((L.count : Int) - L.at_))

set_option maxRecDepth 100000 in
theorem room_c (w : World) (k g : Nat) (L : LSt) (h : LogAt w k g L) (ha : L.at_ ≤ L.count) (hc : L.count ≤ 4096) :
    Calls Tryz.prog 22 #[.pointer (some ⟨k, 0, none⟩)] w fun e w' => e = .returned (.int .i64 L.room) ∧ Fr (fun _ => False) w w' := by
  have c3 : w.cell? ⟨k, 3, none⟩ = some (.int .i64 L.at_) := cell_at h 3
  have c2 : w.cell? ⟨k, 2, none⟩ = some (.int .i64 L.count) := cell_at h 2
  clear h
  have hmin : ∀ w, (Builtin.min_ #[3, 3] 3 #[.int .i64 16384, .int .i64 (48 * ((L.count : Int) - L.at_))]).run Tryz.prog w = .ok (.int .i64 (min 16384 (48 * ((L.count : Int) - L.at_)))) w := by
    intro w
    rw [run_min_int2]
    congr 2
    split <;> omega
  by_cases he : L.at_ = L.count
  · have HE := hid (show L.room = -1 by unfold LSt.room; rw [if_pos he])
    rw [HE.out]
    have q : ((L.at_ : Int) == (L.count : Int)) = true := by simp [he]
    clear hmin he
    go_enter Tryz.func22, Tryz.ntmps22
    go_wp2_with fail
    go_quiet (fail)
    go_wp2_with fail
    go_ret
    exact ⟨rfl, fr_drewN⟩
  · have HE := hid (show L.room = min 16384 (48 * ((L.count : Int) - L.at_)) by unfold LSt.room; rw [if_neg he])
    rw [HE.out]
    have q : ((L.at_ : Int) == (L.count : Int)) = false := by rw [Bool.eq_false_iff]; intro e; simp at e; omega
    clear he
    go_enter Tryz.func22, Tryz.ntmps22
    go_wp2_with fail
    go_quiet (fail)
    have x1 : IntKind.i64.wrap ((L.count : Int) - L.at_) = (L.count : Int) - L.at_ := by rw [IntKind.wrap_i64]; omega
    have x2 : IntKind.i64.wrap (48 * ((L.count : Int) - L.at_)) = 48 * ((L.count : Int) - L.at_) := by rw [IntKind.wrap_i64]; omega
    go_wp2_with fail
    go_quiet (fail)
    go_wp2_with fail
    go_ret
    exact ⟨rfl, fr_drewN.trans fr_drewN (fun _ _ f => f)⟩

def LSt.told (L : LSt) (e : Int) : LSt := { L with dead := L.dead || e == 2 }
theorem told_c (w : World) (k g : Nat) (L : LSt) (e : Int) (h : LogAt w k g L) :
    Calls Tryz.prog 36 #[.pointer (some ⟨k, 0, none⟩), .int .i64 e] w fun x w' => x = .returned (.int .i64 e) ∧ LogAt w' k g (L.told e) ∧ Fr (· = k) w w' := by
  have HL := hid h
  have c5 : w.cell? ⟨k, 5, none⟩ = some (.bool L.dead) := cell_at h 5
  have f5 : w.frozen? ⟨k, 5, none⟩ = false := frozen_at h 5
  clear h
  have fin : ∀ b : Bool, b = (L.dead || e == 2) → LogAt (w.setCell ⟨k, 5, none⟩ (.bool b)) k g (L.told e) := fun b hb => by
    have := set_at HL.out 5 (.bool b)
    unfold LogAt LSt.told
    rw [this, hb]
    rfl
  have FIN := hid fin
  clear fin
  cases hd : L.dead with
  | true =>
    rw [hd] at c5
    have HD := hid hd
    clear hd
    go_enter Tryz.func36, Tryz.ntmps36
    go_wp2
    go_ret
    exact ⟨rfl, FIN.out _ (by rw [HD.out]; rfl), fr_set1 _ _ _ _⟩
  | false =>
    rw [hd] at c5
    have HD := hid hd
    clear hd
    go_enter Tryz.func36, Tryz.ntmps36
    go_wp2
    go_ret
    exact ⟨rfl, FIN.out _ (by rw [HD.out]; rfl), fr_set1 _ _ _ _⟩

/-- Sync, in plain words. -/
def LSt.sync (L : LSt) (s : St) : LSt × St × Int := if L.dead then (L, s, 2) else (L.told s.sync.2, s.sync.1, s.sync.2)

theorem lsync_c (w : World) (k g bm : Nat) (L : LSt) (s : St) (h : LogAt w k g L) (hd : At w g bm s) (hs : s.Ok) :
    Calls Tryz.prog 10 #[.pointer (some ⟨k, 0, none⟩)] w fun e w' => e = .returned (.int .i64 (L.sync s).2.2) ∧ LogAt w' k g (L.sync s).1 ∧ (∃ bm', At w' g bm' (L.sync s).2.1 ∧ (bm' = bm ∨ w.heap.size ≤ bm')) ∧ Fr (fun i => i = k ∨ i = g ∨ i = bm) w w' := by
  have HL := hid h
  have HA := hid hd
  have HS := hid hs
  have HN := hid (h.ne hd)
  have c5 : w.cell? ⟨k, 5, none⟩ = some (.bool L.dead) := cell_at h 5
  have c0 : w.cell? ⟨k, 0, none⟩ = some (.pointer (some ⟨g, 0, none⟩)) := cell_at h 0
  have HC := hid (sync_c w g bm s hd hs)
  clear h hd hs
  cases hdd : L.dead with
  | true =>
    have HE := hid (show L.sync s = (L, s, 2) by unfold LSt.sync; rw [if_pos hdd])
    rw [HE.out]
    rw [hdd] at c5
    clear hdd
    go_enter Tryz.func10, Tryz.ntmps10
    go_wp2_with fail
    go_ret
    exact ⟨rfl, HL.out, ⟨bm, HA.out, Or.inl rfl⟩, Fr.refl _ _⟩
  | false =>
    have HE := hid (show L.sync s = (L.told s.sync.2, s.sync.1, s.sync.2) by unfold LSt.sync; rw [if_neg (by simp [hdd])])
    rw [HE.out]
    rw [hdd] at c5
    clear hdd
    go_enter Tryz.func10, Tryz.ntmps10
    go_wp2_with fail
    refine HC.out.mono ?_
    rintro e w2 ⟨rfl, hA2, hf2⟩
    have hL2 := HL.out.keep hf2 (by have := HN.out; omega)
    have HT := hid (told_c w2 k g L s.sync.2 hL2)
    have HA2 := hid hA2
    have HF2 := hid hf2
    clear hA2 hf2 hL2
    go_wp2_with fail
    refine HT.out.mono ?_
    rintro e w3 ⟨rfl, hL3, hf3⟩
    have HL3 := hid hL3
    have HF3 := hid hf3
    clear hL3 hf3
    go_wp2_with fail
    go_ret
    refine ⟨rfl, HL3.out, ?_, (HF2.out.mono (fun i _ e => Or.inr e)).trans HF3.out (fun i _ e => Or.inl e)⟩
    obtain ⟨bm', hA2, hb⟩ := HA2.out
    have hn2 := LogAt.ne (HL.out.keep HF2.out (by have := HN.out; omega)) hA2
    exact ⟨bm', At.keep hA2 HF3.out (fun e => hn2.1 e.symm) (fun e => hn2.2 e.symm) (fun b cur hb e => by
      subst e
      have hl := HL.out.keep HF2.out (by have := HN.out; omega)
      unfold LogAt at hl
      rw [hl] at hb
      injection hb with hb
      injection hb with _ e2
      exact absurd e2 (by decide)), hb⟩

end Go.Proofs.YthmnchemfigneaaGreat.D
