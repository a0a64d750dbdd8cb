/-
  A character; a source character. The library's tables are as they were laid.
-/
import Derived.Test.YtbmfmnkfdfdjbaaGreatDoorL2
import Derived.Deep.RegionHeld3
import Derived.Lib.FieldsU
import Derived.Shelf.Unicode.DecodeLastEight
namespace Go.Proofs.YtbmfmnkfdfdjbaaGreatDoor.D
open Go.RowKit Go.Shelf
set_option linter.unusedVariables false
set_option linter.unusedSimpArgs false

theorem cell_keep {A : Nat → Prop} {w w' : World} (hf : Fr A w w') {a : Addr} {v : Value} (h : w.cell? a = some v) (hn : ¬ A a.block) : w'.cell? a = some v := by
  have hl := World.block_lt_of_cell? w a h
  rw [World.cell?_of_block (w := w) (hf.block _ hl hn)]
  exact h
/-- The library's variables are as they were laid. -/
def Vars (w : World) : Prop := Lib.Utf8Tabs 1 2 w ∧ ∃ m, w.cell? ⟨0, 0, none⟩ = some (.int .i64 m)
theorem Vars.keep {A : Nat → Prop} {w w' : World} (h : Vars w) (hf : Fr A w w') (hA : ∀ i, i ≤ 2 → ¬ A i) : Vars w' := by
  obtain ⟨⟨h1, h2⟩, m, h3⟩ := h
  exact ⟨⟨fun c hc => cell_keep hf (h1 c hc) (hA 1 (by decide)), fun i hi => ⟨cell_keep hf (h2 i hi).1 (hA 2 (by decide)), cell_keep hf (h2 i hi).2 (hA 2 (by decide))⟩⟩, m, cell_keep hf h3 (hA 0 (by decide))⟩
theorem Vars.stay {w w' : World} (h : Vars w) (hf : Fr (fun _ => False) w w') : Vars w' := h.keep hf (fun _ _ f => f)
theorem Vars.one {w w' : World} {r : Nat} (h : Vars w) (hf : Fr (· = r) w w') (hr : 2 < r) : Vars w' := h.keep hf (fun i hi e => by omega)

/-- The first character's number and width, as the library decodes it. -/
def dec (l : List UInt8) : Nat × Nat := Lib.decodeN l.length (l.getD 0 0).toNat (l.getD 1 0).toNat (l.getD 2 0).toNat (l.getD 3 0).toNat
theorem dec_go (l : List UInt8) (h : l ≠ []) : Lib.decodeGo (bs l) = dec l := by
  have hz : (bs l).size ≠ 0 := by rw [size_bs]; intro e; exact h (List.length_eq_zero_iff.1 e)
  unfold Lib.decodeGo
  rw [if_neg hz, Lib.decode_N]
  simp [dec]
theorem dec_le (l : List UInt8) (h : l ≠ []) : 1 ≤ (dec l).2 ∧ (dec l).2 ≤ l.length ∧ (dec l).2 ≤ 4 ∧ (dec l).1 ≤ 1114111 := by
  have hl : 1 ≤ l.length := by cases l with | nil => exact absurd rfl h | cons _ _ => simp
  exact ⟨Lib.decodeN_ge1 _ _ _ _ _, Lib.decodeN_le_n' _ _ _ _ _ hl, Lib.decodeN_le4 _ _ _ _ _, Lib.decodeN_rune_le _ _ _ _ _ (UInt8.toNat_lt _)⟩
/-- A character and its width; no width: none. -/
def rune (l : List UInt8) : Nat × Nat := if l = [] then (0, 0) else if (dec l).1 = 65533 ∧ (dec l).2 < 2 then (0, 0) else dec l
/-- A source character and its width. -/
def src (l : List UInt8) : Option (Nat × Nat) :=
  if (rune l).2 = 0 ∨ 3 < (rune l).2 ∨ ((rune l).1 < 32 ∧ (rune l).1 ≠ 9 ∧ (rune l).1 ≠ 10 ∧ (rune l).1 ≠ 13) then none else some (rune l)
theorem rune_le (l : List UInt8) : (rune l).2 ≤ l.length ∧ (rune l).2 ≤ 4 ∧ (rune l).1 ≤ 1114111 := by
  unfold rune
  split
  · simp
  · rename_i h
    split
    · simp
    · exact ⟨(dec_le l h).2.1, (dec_le l h).2.2.1, (dec_le l h).2.2.2⟩
theorem src_le {l : List UInt8} {c n : Nat} (h : src l = some (c, n)) : 1 ≤ n ∧ n ≤ l.length ∧ n ≤ 3 := by
  unfold src at h
  split at h
  · cases h
  · rename_i h2
    injection h with h
    have := rune_le l
    rw [h] at h2 this
    omega

set_option maxRecDepth 100000 in
theorem rune_c (w : World) (s : List UInt8) (i : Nat) (hV : Vars w) (hi : i ≤ s.length) (hs : s.length ≤ 1048576) :
    Calls Tryz.prog 63 #[.string (bs s), .int .i64 i] w fun x w' => x = .returned (.tuple #[.int .i64 (rune (s.drop i)).1, .int .i64 (rune (s.drop i)).2]) ∧ Fr (fun _ => False) w w' := by
  have hz := size_bs s
  by_cases hd : i < s.length
  · have hne : s.drop i ≠ [] := by
      intro e
      have := congrArg List.length e
      simp at this
      omega
    have sl : ∀ W, (Instr.slice 9 (.string (bs s)) (some (.int .i64 i)) none none).run Tryz.prog W = .ok (.string (bs (s.drop i))) W := fun W => by
      have := slice_from 9 Tryz.underlying9 W s (i : Int) (by omega) (by omega)
      rwa [Int.toNat_natCast] at this
    have HC0 := Tryz.utf8_DecodeRuneInString (bs (s.drop i)) w hV.1
    rw [dec_go _ hne] at HC0
    have HC := hid HC0
    have hle := dec_le _ hne
    have hn0 : ¬ s.drop i = [] := hne
    have HE := hid (show rune (s.drop i) = if (dec (s.drop i)).1 = 65533 ∧ (dec (s.drop i)).2 < 2 then (0, 0) else dec (s.drop i) by unfold rune; rw [if_neg hn0])
    obtain ⟨D, hD⟩ : ∃ D, D = dec (s.drop i) := ⟨_, rfl⟩
    rw [← hD] at HC hle HE
    obtain ⟨C, N⟩ := D
    simp only at HC hle HE
    obtain ⟨t, ht⟩ : ∃ t, t = s.drop i := ⟨_, rfl⟩
    rw [← ht] at HC HE sl ⊢
    have hd0 : decide ((i : Int) < 0) = false := by simp
    have hd1 : decide ((s.length : Int) ≤ (i : Int)) = false := by simp; omega
    have hwr : IntKind.i64.wrap (C : Int) = (C : Int) := by rw [IntKind.wrap_i64]; omega
    clear HC0 hV hne hn0 hD ht
    by_cases h1 : C = 65533
    · by_cases h2 : N < 2
      · have HE2 := hid (show rune t = (0, 0) by rw [HE.out, if_pos ⟨h1, h2⟩])
        rw [HE2.out]
        have e1 : ((C : Int) == 65533) = true := by simp; omega
        have e2 : (N : Int) < 2 := by omega
        clear h1 h2
        go_enter Tryz.func63, Tryz.ntmps63
        go_wp2_with fail
        refine HC.out.mono ?_
        rintro e w2 ⟨rfl, hb⟩
        have HB := hid (below_fr hb (Nat.le_refl _))
        clear hb
        go_wp2_with fail
        go_ret2
        exact ⟨rfl, HB.out⟩
      · have HE2 := hid (show rune t = (C, N) by rw [HE.out, if_neg (fun e => h2 e.2)])
        rw [HE2.out]
        have e1 : ((C : Int) == 65533) = true := by simp; omega
        have e2 : decide ((N : Int) < 2) = false := by simp; omega
        clear h1 h2
        go_enter Tryz.func63, Tryz.ntmps63
        go_wp2_with fail
        refine HC.out.mono ?_
        rintro e w2 ⟨rfl, hb⟩
        have HB := hid (below_fr hb (Nat.le_refl _))
        clear hb
        go_wp2_with fail
        go_ret2
        exact ⟨rfl, HB.out⟩
    · have HE2 := hid (show rune t = (C, N) by rw [HE.out, if_neg (fun e => h1 e.1)])
      rw [HE2.out]
      have e1 : ((C : Int) == 65533) = false := by simp; omega
      clear h1
      go_enter Tryz.func63, Tryz.ntmps63
      go_wp2_with fail
      refine HC.out.mono ?_
      rintro e w2 ⟨rfl, hb⟩
      have HB := hid (below_fr hb (Nat.le_refl _))
      clear hb
      go_wp2_with fail
      go_ret2
      exact ⟨rfl, HB.out⟩
  · have HE := hid (show rune (s.drop i) = (0, 0) by rw [List.drop_eq_nil_of_le (by omega)]; rfl)
    rw [HE.out]
    have hd0 : decide ((i : Int) < 0) = false := by simp
    have hd1 : (s.length : Int) ≤ (i : Int) := by omega
    clear hV
    go_enter Tryz.func63, Tryz.ntmps63
    go_wp2_with fail
    go_ret2
    exact ⟨rfl, Fr.refl _ _⟩

theorem src_none {l : List UInt8} (h : (rune l).2 = 0 ∨ 3 < (rune l).2 ∨ ((rune l).1 < 32 ∧ (rune l).1 ≠ 9 ∧ (rune l).1 ≠ 10 ∧ (rune l).1 ≠ 13)) : src l = none := by unfold src; rw [if_pos h]
theorem src_some {l : List UInt8} (h : ¬ ((rune l).2 = 0 ∨ 3 < (rune l).2 ∨ ((rune l).1 < 32 ∧ (rune l).1 ≠ 9 ∧ (rune l).1 ≠ 10 ∧ (rune l).1 ≠ 13))) : src l = some (rune l) := by unfold src; rw [if_neg h]

/-- What source came to. -/
def SrcPost (w : World) (r : Nat) (s : List UInt8) (i f n : Nat) (x : Ending) (w' : World) : Prop :=
  Fr (· = r) w w' ∧ (src (s.drop i) = none → x = .returned (.tuple #[.int .i64 0, .bool false]) ∧ RdAt w' r s i f n) ∧
    ∀ c k, src (s.drop i) = some (c, k) → x = .returned (.tuple #[.int .i64 c, .bool true]) ∧ RdAt w' r s (i + k) f n

set_option maxHeartbeats 1000000 in
set_option maxRecDepth 100000 in
theorem source_c (w : World) (r : Nat) (s : List UInt8) (i f n : Nat) (h : RdAt w r s i f n) (hV : Vars w) (hi : i ≤ s.length) (hs : s.length ≤ 1048576) :
    Calls Tryz.prog 50 #[.pointer (some ⟨r, 0, none⟩)] w (SrcPost w r s i f n) := by
  have H := hid h
  have c0 : w.cell? ⟨r, 0, none⟩ = some (.string (bs s)) := cell_at h 0
  have c1 : w.cell? ⟨r, 1, none⟩ = some (.int .i64 i) := cell_at h 1
  have HC0 := hid (fun W (hf : Fr (fun _ => False) w W) => rune_c W s i (hV.stay hf) hi hs)
  have hle := rune_le (s.drop i)
  have hln : (s.drop i).length = s.length - i := by simp
  have HSN := hid (fun h => src_none (l := s.drop i) h)
  have HSS := hid (fun h => src_some (l := s.drop i) h)
  obtain ⟨D, hD⟩ : ∃ D, D = rune (s.drop i) := ⟨_, rfl⟩
  rw [← hD] at hle HC0 HSN HSS
  obtain ⟨C, N⟩ := D
  simp only at hle HC0 HSN HSS
  rw [hln] at hle
  clear h hV hD hln
  go_enter Tryz.func50, Tryz.ntmps50
  go_wp2_with fail
  go_region_held3 (fun w' => w'.cell? ⟨r, 0, none⟩ = some (.string (bs s)) ∧ w'.cell? ⟨r, 1, none⟩ = some (.int .i64 i) ∧ Fr (fun _ => False) w w')
    (first | exact ⟨c0, c1, (Fr.refl _ _).drew⟩ | exact ⟨cells_stay2 (by assumption) c0, cells_stay2 (by assumption) c1, by assumption⟩ | go_keep)
    (first
      | (go_at_call 63; refine (HC0.out _ (Fr.refl _ _).drew).mono ?_; rintro e w' ⟨rfl, hf'⟩; have hf' := (Fr.refl (fun _ => False) w).drew.trans hf' (fun _ _ f => f)))
  rename_i hS
  have HF := hid hS.2.2
  have f1 : w'.frozen? ⟨r, 1, none⟩ = false := frozen_at (H.out.stay hS.2.2) 1
  have HW := hid (show (i : Int) + (N : Int) ≤ s.length by omega)
  clear c0 c1 HC0
  by_cases g1 : N = 0
  · have HE := hid (HSN.out (Or.inl g1))
    have e1 : ((N : Int) == 0) = true := by simp; omega
    clear g1
    go_wp2_with fail
    go_ret2
    exact ⟨fr_no HF.out, fun _ => ⟨rfl, H.out.stay HF.out⟩, fun c k e => by rw [HE.out] at e; cases e⟩
  have e1 : ((N : Int) == 0) = false := by simp; omega
  by_cases g2 : 3 < N
  · have HE := hid (HSN.out (Or.inr (Or.inl g2)))
    have e2 : (3 : Int) < (N : Int) := by omega
    clear g1 g2
    go_wp2_with fail
    go_ret2
    exact ⟨fr_no HF.out, fun _ => ⟨rfl, H.out.stay HF.out⟩, fun c k e => by rw [HE.out] at e; cases e⟩
  have e2 : decide ((3 : Int) < (N : Int)) = false := by simp; omega
  by_cases g3 : C < 32
  · have e3 : (C : Int) < 32 := by omega
    by_cases g4 : C = 9
    · have HE := hid (HSS.out (by omega))
      subst g4
      clear g1 g2 g3 e3
      go_wp2_with fail
      go_ret2
      refine ⟨(fr_no HF.out).trans (fr_set1 _ r 1 _) (fun _ _ e => e), fun e => (by rw [HE.out] at e; cases e), fun c k e => ?_⟩
      rw [HE.out] at e
      injection e with e
      injection e with e1 e2
      subst e1 e2
      exact ⟨rfl, by have := RdAt.move (w := w') (H.out.stay HF.out) (i + N); simpa using this⟩
    by_cases g5 : C = 10
    · have HE := hid (HSS.out (by omega))
      subst g5
      clear g1 g2 g3 g4 e3
      go_wp2_with fail
      go_ret2
      refine ⟨(fr_no HF.out).trans (fr_set1 _ r 1 _) (fun _ _ e => e), fun e => (by rw [HE.out] at e; cases e), fun c k e => ?_⟩
      rw [HE.out] at e
      injection e with e
      injection e with e1 e2
      subst e1 e2
      exact ⟨rfl, by have := RdAt.move (w := w') (H.out.stay HF.out) (i + N); simpa using this⟩
    by_cases g6 : C = 13
    · have HE := hid (HSS.out (by omega))
      subst g6
      clear g1 g2 g3 g4 g5 e3
      go_wp2_with fail
      go_ret2
      refine ⟨(fr_no HF.out).trans (fr_set1 _ r 1 _) (fun _ _ e => e), fun e => (by rw [HE.out] at e; cases e), fun c k e => ?_⟩
      rw [HE.out] at e
      injection e with e
      injection e with e1 e2
      subst e1 e2
      exact ⟨rfl, by have := RdAt.move (w := w') (H.out.stay HF.out) (i + N); simpa using this⟩
    have HE := hid (HSN.out (Or.inr (Or.inr ⟨g3, g4, g5, g6⟩)))
    have e4 : ((C : Int) != 9) = true := by simp; omega
    have e5 : ((C : Int) != 10) = true := by simp; omega
    have e6 : ((C : Int) != 13) = true := by simp; omega
    have e7 : ((C : Int) == 9) = false := by simp; omega
    have e8 : ((C : Int) == 10) = false := by simp; omega
    have e9 : ((C : Int) == 13) = false := by simp; omega
    clear g1 g2 g3 g4 g5 g6
    go_wp2_with fail
    go_ret2
    exact ⟨fr_no HF.out, fun _ => ⟨rfl, H.out.stay HF.out⟩, fun c k e => by rw [HE.out] at e; cases e⟩
  · have HE := hid (HSS.out (by omega))
    have e3 : decide ((C : Int) < 32) = false := by simp; omega
    clear g1 g2 g3
    go_wp2_with fail
    go_ret2
    refine ⟨(fr_no HF.out).trans (fr_set1 _ r 1 _) (fun _ _ e => e), fun e => (by rw [HE.out] at e; cases e), fun c k e => ?_⟩
    rw [HE.out] at e
    injection e with e
    injection e with e1 e2
    subst e1 e2
    exact ⟨rfl, by have := RdAt.move (w := w') (H.out.stay HF.out) (i + N); simpa using this⟩

end Go.Proofs.YtbmfmnkfdfdjbaaGreatDoor.D
