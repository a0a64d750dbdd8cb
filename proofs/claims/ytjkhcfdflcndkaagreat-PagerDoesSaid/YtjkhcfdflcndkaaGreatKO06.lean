/-
  A pager over a disk: what its cells and its two sets say; used, Free. No condition beyond the sizes that are named.
-/
import Derived.Test.YtjkhcfdflcndkaaGreatKO05
import Derived.Maps.OwnSet
import Derived.BigQuiet
import Derived.Deep.RegionHeld3
namespace Go.Proofs.YtjkhcfdflcndkaaGreat.D
open Go.RowKit Go.Maps Go.Shelf
set_option linter.unusedVariables false
set_option linter.unusedSimpArgs false

/-- The map in block b is this set of numbers. -/
def SetAt (w : World) (b : Nat) (f : Int → Bool) : Prop :=
  ∃ n D, w.ownsMap Tryz.prog 3 (unitElem (H := Unit)) b n D ∧ (∀ i : Int, Maps.has D (.int .i64 i) = f i) ∧ ∀ k, Maps.has D k = true → ∃ i, k = .int .i64 i

theorem SetAt.keep {S : Nat → Prop} {w w' : World} {b : Nat} {f : Int → Bool} (h : SetAt w b f) (hf : Fr S w w') (hn : ¬ S b) : SetAt w' b f := by
  obtain ⟨n, D, h1, h2, h3⟩ := h
  exact ⟨n, D, owns_keep h1 hf hn, h2, h3⟩
theorem SetAt.stay {w w' : World} {b : Nat} {f : Int → Bool} (h : SetAt w b f) (hf : Fr (fun _ => False) w w') : SetAt w' b f := h.keep hf (fun f => f)

theorem zero_none (w : World) : (zeroValue 94).run Tryz.prog w = .ok (.agg #[]) w := by kernel_rfl

theorem SetAt.look {w : World} {b : Nat} {f : Int → Bool} (h : SetAt w b f) (k : Int) (h1 : -9223372036854775808 ≤ k) (h2 : k ≤ 9223372036854775807) :
    (Instr.lookup 68 (.map (some b)) (.int .i64 k) true).run Tryz.prog w = .ok (.tuple #[.agg #[], .bool (f k)]) w := by
  obtain ⟨n, D, hown, hh, _⟩ := h
  have K : Keyed Tryz.prog 3 := int_keyed Tryz.underlying3
  have hkey := keyOf_int_mk (P := Tryz.prog) (k := 3) Tryz.underlying3 (a := k) (WalkArith.wf_i64 (by omega))
  obtain ⟨v, ps, hrun, hv⟩ := hown.look_ok K Tryz.underlying68 (zero_none w) unitElem_mk hkey
  obtain ⟨rfl, _⟩ := unitElem_inv hv
  rw [hrun, hh k]

structure PSt where
  first : Nat
  pages : Nat
  root : Int
  from_ : Nat
  gen : Nat
  live : Int → Bool
  taken : Int → Bool
  dead : Bool
def pcells (g ml mt : Nat) (P : PSt) : Array Value := #[.pointer (some ⟨g, 0, none⟩), .int .i64 P.first, .int .i64 P.pages, .int .i64 P.root, .int .i64 P.from_, .int .i64 P.gen, .map (some ml), .map (some mt), .bool P.dead]
/-- Block p is a pager over the disk in block g, its sets in blocks ml, mt. -/
def PAt (w : World) (p g ml mt : Nat) (P : PSt) : Prop := w.heap[p]? = some (.cells (pcells g ml mt P) 70) ∧ SetAt w ml P.live ∧ SetAt w mt P.taken ∧ ml ≠ mt
structure PSt.Ok (P : PSt) (n : Nat) : Prop where
  f2 : 2 ≤ P.first
  p1 : 1 ≤ P.pages
  p2 : P.pages ≤ 4096
  area : P.first + 8 * P.pages ≤ n
  r1 : -1 ≤ P.root
  r2 : P.root < P.pages
  fr1 : 1 ≤ P.from_
  fr2 : P.from_ ≤ 1152921504606846976
  g1 : 1 ≤ P.gen
  g2 : P.gen ≤ 1152921504606846976
  lv : ∀ i, P.live i = true → 0 ≤ i ∧ i < P.pages
  tk : ∀ i, P.taken i = true → 0 ≤ i ∧ i < P.pages
def PSt.used (P : PSt) (i : Int) : Bool := P.live i || P.taken i

theorem PAt.stay {w w' : World} {p g ml mt : Nat} {P : PSt} (h : PAt w p g ml mt P) (hf : Fr (fun _ => False) w w') : PAt w' p g ml mt P := ⟨hf.at h.1 (fun f => f), h.2.1.stay hf, h.2.2.1.stay hf, h.2.2.2⟩

set_option maxHeartbeats 4000000 in
theorem used_c (w : World) (p g ml mt : Nat) (P : PSt) (h : PAt w p g ml mt P) (k : Int) (h1 : -9223372036854775808 ≤ k) (h2 : k ≤ 9223372036854775807) :
    Calls Tryz.prog 57 #[.pointer (some ⟨p, 0, none⟩), .int .i64 k] w fun e w' => e = .returned (.bool (P.used k)) ∧ Fr (fun _ => False) w w' := by
  have HL := hid (fun W (hf : Fr (fun _ => False) w W) => (h.2.1.stay hf).look k h1 h2)
  have HT := hid (fun W (hf : Fr (fun _ => False) w W) => (h.2.2.1.stay hf).look k h1 h2)
  have k6 : w.cell? ⟨p, 6, none⟩ = some (.map (some ml)) := cell_at h.1 6
  have hf1 : Fr (fun _ => False) w (w.alloc (.cells #[] 94)) := (Fr.refl _ w).alloc _
  have hf2 : Fr (fun _ => False) w ((w.alloc (.cells #[] 94)).alloc (.cells #[] 94)) := hf1.alloc _
  have k7 : (w.alloc (.cells #[] 94)).cell? ⟨p, 7, none⟩ = some (.map (some mt)) := cell_at (hf1.at h.1 (fun f => f)) 7
  have e1 := HL.out w (Fr.refl _ _)
  have e2 := HT.out _ hf1
  have HF := hid hf2
  obtain ⟨a, ha⟩ : ∃ a, a = P.live k := ⟨_, rfl⟩
  obtain ⟨b, hb⟩ : ∃ b, b = P.taken k := ⟨_, rfl⟩
  have HU := hid (show P.used k = (a || b) by rw [ha, hb]; rfl)
  rw [HU.out]
  rw [← ha] at e1
  rw [← hb] at e2
  clear h HL HT hf1 hf2 ha hb
  cases a <;> cases b <;>
  · go_enter Tryz.func57, Tryz.ntmps57
    go_wp2_with fail
    go_ret
    exact ⟨rfl, HF.out⟩

def PSt.freeTo (P : PSt) : Nat → Nat
  | 0 => 0
  | i + 1 => if P.used i then P.freeTo i else P.freeTo i + 1
theorem freeTo_le (P : PSt) : ∀ i, P.freeTo i ≤ i
  | 0 => Nat.le_refl _
  | i + 1 => by
    have := freeTo_le P i
    rw [PSt.freeTo]
    split <;> omega
def PSt.free (P : PSt) : Nat := P.freeTo P.pages

set_option maxHeartbeats 4000000 in
theorem free_c (w : World) (p g ml mt : Nat) (P : PSt) (h : PAt w p g ml mt P) (hp : P.pages ≤ 4096) :
    Calls Tryz.prog 14 #[.pointer (some ⟨p, 0, none⟩)] w fun e w' => e = .returned (.int .i64 P.free) ∧ Fr (fun _ => False) w w' := by
  have HP := hid h
  have k2 : w.cell? ⟨p, 2, none⟩ = some (.int .i64 P.pages) := cell_at h.1 2
  obtain ⟨n, hn⟩ : ∃ n, n = P.pages := ⟨_, rfl⟩
  have HN := hid hn
  rw [← hn] at k2 hp
  clear h hn
  go_enter Tryz.func14, Tryz.ntmps14
  go_wp2_with fail
  go_loopw [9, 3] (fun v9 v3 wr => ∃ i : Nat, v9 = .int .i64 i ∧ v3 = .int .i64 (P.freeTo i) ∧ i ≤ n ∧ Hid (Fr (fun _ => False) w wr)) (fun v _ _ => n - (intOf v).toNat)
  case atStart => exact ⟨0, rfl, rfl, by omega, hid (Fr.refl _ _)⟩
  case round =>
    obtain ⟨i, rfl, rfl, hi, HF⟩ := hrel
    have hfl := freeTo_le P i
    by_cases hend : i = n
    · subst hend
      go_wp2_with fail
      go_ret
      exact ⟨by rw [PSt.free, ← HN.out]; rfl, HF.out⟩
    · have HU := hid (used_c wr p g ml mt P (HP.out.stay HF.out) i (by omega) (by omega))
      obtain ⟨fr, hfr⟩ : ∃ fr, fr = P.freeTo i := ⟨_, rfl⟩
      rw [← hfr] at hfl
      cases hu : P.used i with
      | true =>
        have HS := hid (show P.freeTo (i + 1) = fr by rw [PSt.freeTo, if_pos hu, hfr])
        rw [hu] at HU
        rw [← hfr]
        clear hu hfr
        go_wp2_with fail
        refine HU.out.mono ?_
        rintro e w2 ⟨rfl, hf2⟩
        have HF2 := hid (HF.out.trans hf2 (fun _ _ f => f))
        clear hf2
        go_wp2_with fail
        exact ⟨⟨i + 1, by go_num, by rw [HS.out], by omega, HF2⟩, by simp [intOf]; omega⟩
      | false =>
        have HS := hid (show P.freeTo (i + 1) = fr + 1 by rw [PSt.freeTo, if_neg (by simp [hu]), hfr])
        rw [hu] at HU
        rw [← hfr]
        clear hu hfr
        go_wp2_with fail
        refine HU.out.mono ?_
        rintro e w2 ⟨rfl, hf2⟩
        have HF2 := hid (HF.out.trans hf2 (fun _ _ f => f))
        clear hf2
        go_wp2_with fail
        exact ⟨⟨i + 1, by go_num, by rw [HS.out]; go_num, by omega, HF2⟩, by simp [intOf]; omega⟩

end Go.Proofs.YtjkhcfdflcndkaaGreat.D

/-
  A pager's small calls: is, told, Root, From, Gen, check, Read. No condition beyond the sizes that are named.
-/
namespace Go.Proofs.YtjkhcfdflcndkaaGreat.D
open Go.RowKit Go.Maps Go.Shelf
set_option linter.unusedVariables false
set_option linter.unusedSimpArgs false

theorem root_c (w : World) (p g ml mt : Nat) (P : PSt) (h : PAt w p g ml mt P) :
    Calls Tryz.prog 9 #[.pointer (some ⟨p, 0, none⟩)] w fun e w' => e = .returned (.int .i64 P.root) ∧ w' = w := by
  have c : w.cell? ⟨p, 3, none⟩ = some (.int .i64 P.root) := cell_at h.1 3
  clear h
  go_enter Tryz.func9, Tryz.ntmps9
  go_wp2
  go_ret
  exact ⟨rfl, rfl⟩

theorem from_c (w : World) (p g ml mt : Nat) (P : PSt) (h : PAt w p g ml mt P) :
    Calls Tryz.prog 10 #[.pointer (some ⟨p, 0, none⟩)] w fun e w' => e = .returned (.int .i64 P.from_) ∧ w' = w := by
  have c : w.cell? ⟨p, 4, none⟩ = some (.int .i64 P.from_) := cell_at h.1 4
  clear h
  go_enter Tryz.func10, Tryz.ntmps10
  go_wp2
  go_ret
  exact ⟨rfl, rfl⟩

theorem gen_c (w : World) (p g ml mt : Nat) (P : PSt) (h : PAt w p g ml mt P) :
    Calls Tryz.prog 11 #[.pointer (some ⟨p, 0, none⟩)] w fun e w' => e = .returned (.int .i64 P.gen) ∧ w' = w := by
  have c : w.cell? ⟨p, 5, none⟩ = some (.int .i64 P.gen) := cell_at h.1 5
  clear h
  go_enter Tryz.func11, Tryz.ntmps11
  go_wp2
  go_ret
  exact ⟨rfl, rfl⟩

def PSt.is (P : PSt) (k : Int) : Bool := decide (0 ≤ k) && decide (k < P.pages)

theorem is_c (w : World) (p g ml mt : Nat) (P : PSt) (h : PAt w p g ml mt P) (k : Int) :
    Calls Tryz.prog 66 #[.pointer (some ⟨p, 0, none⟩), .int .i64 k] w fun e w' => e = .returned (.bool (P.is k)) ∧ w' = w := by
  have c : w.cell? ⟨p, 2, none⟩ = some (.int .i64 P.pages) := cell_at h.1 2
  obtain ⟨n, hn⟩ : ∃ n : Nat, n = P.pages := ⟨_, rfl⟩
  have HI := hid (show P.is k = (decide (0 ≤ k) && decide (k < (n : Int))) by rw [hn]; rfl)
  rw [HI.out]
  rw [← hn] at c
  clear h hn
  by_cases h0 : 0 ≤ k
  · by_cases h1 : k < n
    · have d0 : decide (0 ≤ k) = true := decide_eq_true h0
      have d1 : decide (k < (n : Int)) = true := decide_eq_true h1
      rw [d0, d1]
      go_enter Tryz.func66, Tryz.ntmps66
      go_wp2
      go_ret
      exact ⟨rfl, rfl⟩
    · have d0 : decide (0 ≤ k) = true := decide_eq_true h0
      have d1 : decide (k < (n : Int)) = false := decide_eq_false h1
      rw [d0, d1]
      go_enter Tryz.func66, Tryz.ntmps66
      go_wp2
      go_ret
      exact ⟨rfl, rfl⟩
  · have d0 : decide (0 ≤ k) = false := decide_eq_false h0
    rw [d0]
    go_enter Tryz.func66, Tryz.ntmps66
    go_wp2
    go_ret
    exact ⟨rfl, rfl⟩

/-- May a pager be? -/
def pchk (s : St) (f c n : Int) : Int :=
  if f < 2 ∨ c < 1 ∨ 4096 < c ∨ (s.n : Int) < f ∨ (s.n : Int) - f < 8 * c ∨ n < 1 ∨ 1152921504606846976 < n then 190 else if s.dead then 2 else 0

def PSt.told (P : PSt) (e : Int) : PSt := { P with dead := P.dead || e == 2 }
theorem ptold_c (w : World) (p g ml mt : Nat) (P : PSt) (h : PAt w p g ml mt P) (e : Int) :
    Calls Tryz.prog 63 #[.pointer (some ⟨p, 0, none⟩), .int .i64 e] w fun x w' => x = .returned (.int .i64 e) ∧ PAt w' p g ml mt (P.told e) ∧ Fr (· = p) w w' := by
  have HP := hid h
  have c8 : w.cell? ⟨p, 8, none⟩ = some (.bool P.dead) := cell_at h.1 8
  have f8 : w.frozen? ⟨p, 8, none⟩ = false := frozen_at h.1 8
  have fin : ∀ b : Bool, b = (P.dead || e == 2) → PAt (w.setCell ⟨p, 8, none⟩ (.bool b)) p g ml mt (P.told e) := fun b hb => by
    have hf := fr_set1 w p 8 (.bool b)
    have hne : ∀ x f, SetAt w x f → ¬ (x = p) := fun x f hx e => by
      obtain ⟨n, D, ⟨es, clock, hb, _⟩, _⟩ := hx
      subst e
      rw [h.1] at hb
      cases hb
    refine ⟨?_, h.2.1.keep hf (hne _ _ h.2.1), h.2.2.1.keep hf (hne _ _ h.2.2.1), h.2.2.2⟩
    have := set_at h.1 8 (.bool b)
    rw [this, hb]
    rfl
  have FIN := hid fin
  clear fin h
  cases hd : P.dead with
  | true =>
    rw [hd] at c8
    have HD := hid hd
    clear hd
    go_enter Tryz.func63, Tryz.ntmps63
    go_wp2
    go_ret
    exact ⟨rfl, FIN.out _ (by rw [HD.out]; rfl), fr_set1 _ _ _ _⟩
  | false =>
    rw [hd] at c8
    have HD := hid hd
    clear hd
    go_enter Tryz.func63, Tryz.ntmps63
    go_wp2
    go_ret
    exact ⟨rfl, FIN.out _ (by rw [HD.out]; rfl), fr_set1 _ _ _ _⟩

end Go.Proofs.YtjkhcfdflcndkaaGreat.D

/-
  A pager's check; Read. No condition beyond the sizes that are named.
-/
namespace Go.Proofs.YtjkhcfdflcndkaaGreat.D
open Go.RowKit Go.Maps Go.Shelf
set_option linter.unusedVariables false
set_option linter.unusedSimpArgs false

theorem cells_stay2 {w w' : World} (hf : Fr (fun _ => False) w w') {a : Addr} {v : Value} (h : w.cell? a = some v) : w'.cell? a = some v := by
  have hl := World.block_lt_of_cell? w a h
  rw [World.cell?_of_block (w := w) (hf.block _ hl (fun f => f))]
  exact h

set_option maxHeartbeats 4000000 in
set_option maxRecDepth 100000 in
theorem pcheck_c (w : World) (g bm : Nat) (s : St) (h : At w g bm s) (hs : s.Ok) (f c n : Int) (hf : -9223372036854775808 ≤ f) (hf2 : f ≤ 9223372036854775807) :
    Calls Tryz.prog 43 #[.pointer (some ⟨g, 0, none⟩), .int .i64 f, .int .i64 c, .int .i64 n] w fun e w' => e = .returned (.int .i64 (pchk s f c n)) ∧ w' = w := by
  obtain ⟨m, hm⟩ : ∃ m, m = s.n := ⟨_, rfl⟩
  have HCNT := hid (show Calls Tryz.prog 79 #[.pointer (some ⟨g, 0, none⟩)] w fun e w' => e = .returned (.int .i64 (m : Int)) ∧ w' = w from hm ▸ count_c w g bm s h hs)
  have HDD := hid (dead_c w g bm s h)
  have hn : m ≤ 4096 := hm ▸ hs.n2
  have HE := hid (show pchk s f c n = if f < 2 ∨ c < 1 ∨ 4096 < c ∨ (m : Int) < f ∨ (m : Int) - f < 8 * c ∨ n < 1 ∨ 1152921504606846976 < n then 190 else if s.dead then 2 else 0 by rw [hm]; rfl)
  clear h hs hm
  by_cases a0 : f < 2
  · rw [HE.out, if_pos (by omega)]
    go_enter Tryz.func43, Tryz.ntmps43
    go_wp2_with (go_at_call 79; refine HCNT.out.mono ?_; rintro e w' ⟨rfl, rfl⟩)
    go_ret
    exact ⟨rfl, rfl⟩
  by_cases a1 : c < 1
  · rw [HE.out, if_pos (by omega)]
    go_enter Tryz.func43, Tryz.ntmps43
    go_wp2_with (go_at_call 79; refine HCNT.out.mono ?_; rintro e w' ⟨rfl, rfl⟩)
    go_ret
    exact ⟨rfl, rfl⟩
  by_cases a2 : 4096 < c
  · rw [HE.out, if_pos (by omega)]
    go_enter Tryz.func43, Tryz.ntmps43
    go_wp2_with (go_at_call 79; refine HCNT.out.mono ?_; rintro e w' ⟨rfl, rfl⟩)
    go_ret
    exact ⟨rfl, rfl⟩
  by_cases a3 : (m : Int) < f
  · rw [HE.out, if_pos (by omega)]
    go_enter Tryz.func43, Tryz.ntmps43
    go_wp2_with (go_at_call 79; refine HCNT.out.mono ?_; rintro e w' ⟨rfl, rfl⟩)
    go_ret
    exact ⟨rfl, rfl⟩
  have x1 : IntKind.i64.wrap ((m : Int) - f) = (m : Int) - f := by rw [IntKind.wrap_i64]; omega
  have x2 : IntKind.i64.wrap (8 * c) = 8 * c := by rw [IntKind.wrap_i64]; omega
  by_cases a4 : (m : Int) - f < 8 * c
  · rw [HE.out, if_pos (by omega)]
    go_enter Tryz.func43, Tryz.ntmps43
    go_wp2_with (go_at_call 79; refine HCNT.out.mono ?_; rintro e w' ⟨rfl, rfl⟩)
    go_ret
    exact ⟨rfl, rfl⟩
  by_cases a5 : n < 1
  · rw [HE.out, if_pos (by omega)]
    go_enter Tryz.func43, Tryz.ntmps43
    go_wp2_with (go_at_call 79; refine HCNT.out.mono ?_; rintro e w' ⟨rfl, rfl⟩)
    go_ret
    exact ⟨rfl, rfl⟩
  by_cases a6 : 1152921504606846976 < n
  · rw [HE.out, if_pos (by omega)]
    go_enter Tryz.func43, Tryz.ntmps43
    go_wp2_with (go_at_call 79; refine HCNT.out.mono ?_; rintro e w' ⟨rfl, rfl⟩)
    go_ret
    exact ⟨rfl, rfl⟩
  cases hd : s.dead with
  | true =>
    have HZ := hid (show pchk s f c n = 2 by rw [HE.out, if_neg (by omega), hd]; rfl)
    rw [hd] at HDD
    rw [HZ.out]
    clear hd HE
    go_enter Tryz.func43, Tryz.ntmps43
    go_wp2_with (first
      | (go_at_call 79; refine HCNT.out.mono ?_; rintro e w' ⟨rfl, rfl⟩)
      | (go_at_call 80; refine HDD.out.mono ?_; rintro e w' ⟨rfl, rfl⟩))
    go_ret
    exact ⟨rfl, rfl⟩
  | false =>
    have HZ := hid (show pchk s f c n = 0 by rw [HE.out, if_neg (by omega), hd]; rfl)
    rw [hd] at HDD
    rw [HZ.out]
    clear hd HE
    go_enter Tryz.func43, Tryz.ntmps43
    go_wp2_with (first
      | (go_at_call 79; refine HCNT.out.mono ?_; rintro e w' ⟨rfl, rfl⟩)
      | (go_at_call 80; refine HDD.out.mono ?_; rintro e w' ⟨rfl, rfl⟩))
    go_ret
    exact ⟨rfl, rfl⟩

def PSt.read (P : PSt) (s : St) (k : Int) : List UInt8 × Int := if P.is k then s.read ((P.first : Int) + 8 * k) 8 else ([], 191)

set_option maxHeartbeats 4000000 in
set_option maxRecDepth 100000 in
theorem pread_c (w : World) (p g ml mt bm : Nat) (P : PSt) (s : St) (h : PAt w p g ml mt P) (hd : At w g bm s) (hs : s.Ok) (hP : P.Ok s.n) (k : Int) :
    Calls Tryz.prog 50 #[.pointer (some ⟨p, 0, none⟩), .int .i64 k] w fun e w' => e = .returned (.tuple #[.string (bs (P.read s k).1), .int .i64 (P.read s k).2]) ∧ Fr (fun _ => False) w w' := by
  have HIS := hid (is_c w p g ml mt P h k)
  have hpn : P.pages ≤ 4096 := hP.p2
  have hfn : P.first ≤ 4096 := by have := hP.area; have := hs.n2; omega
  have HA := hid hd
  have k0 : w.cell? ⟨p, 0, none⟩ = some (.pointer (some ⟨g, 0, none⟩)) := cell_at h.1 0
  have k1 : w.cell? ⟨p, 1, none⟩ = some (.int .i64 P.first) := cell_at h.1 1
  cases hi : P.is k with
  | false =>
    have HE := hid (show P.read s k = ([], 191) by unfold PSt.read; rw [hi]; rfl)
    rw [hi] at HIS
    rw [HE.out]
    clear h hd hs hP hi k0 k1
    go_enter Tryz.func50, Tryz.ntmps50
    go_wp2_with fail
    refine HIS.out.mono ?_
    rintro e w2 ⟨rfl, rfl⟩
    go_wp2_with fail
    go_ret2
    exact ⟨rfl, Fr.refl _ _⟩
  | true =>
    have HE := hid (show P.read s k = s.read ((P.first : Int) + 8 * k) 8 by unfold PSt.read; rw [if_pos hi])
    have hk : 0 ≤ k ∧ k < P.pages := by unfold PSt.is at hi; simpa using hi
    have x1 : IntKind.i64.wrap (8 * k) = 8 * k := by rw [IntKind.wrap_i64]; omega
    have x2 : IntKind.i64.wrap ((P.first : Int) + 8 * k) = (P.first : Int) + 8 * k := by rw [IntKind.wrap_i64]; omega
    rw [hi] at HIS
    have HRD := hid (fun W (hA : At W g bm s) => read_c W g bm s hA hs ((P.first : Int) + 8 * k) 8 (by omega) (by omega))
    unfold ReadC at HRD
    rw [← HE.out] at HRD
    have hA1 : At w.drew g bm s := hd.drew
    clear h hd hs hP hi
    go_enter Tryz.func50, Tryz.ntmps50
    go_wp2_with fail
    refine HIS.out.mono ?_
    rintro e w2 ⟨rfl, rfl⟩
    go_wp2_with fail
    go_region_held3 (fun w' => w'.cell? ⟨p, 0, none⟩ = some (.pointer (some ⟨g, 0, none⟩)) ∧ w'.cell? ⟨p, 1, none⟩ = some (.int .i64 P.first))
      (first | exact ⟨k0, k1⟩ | exact ⟨cells_stay2 (by assumption) k0, cells_stay2 (by assumption) k1⟩ | go_keep)
      (first
        | (go_at_call 44; refine (HRD.out _ hA1).mono ?_; rintro e w3 ⟨rfl, hf3⟩; have hf3' : Fr (fun _ => False) w2 w3 := ((Fr.refl _ w2).drew).trans hf3 (fun _ _ f => f)))
    all_goals
      go_wp2_with fail
      go_ret2
      exact ⟨rfl, hf3'⟩

end Go.Proofs.YtjkhcfdflcndkaaGreat.D

/-
  A call of a pager's script; a script in memory; a world's numbers. No condition.
-/
namespace Go.Proofs.YtjkhcfdflcndkaaGreat.D
open Go.RowKit Go.Maps Go.Shelf
set_option linter.unusedVariables false

structure OpV where
  kind : Int
  at_ : Int
  n : Int
  text : List UInt8
  pv : Value
  kv : Value
  pages : List Int
  kept : List Int
def OpV.val (o : OpV) : Array Value := #[.int .i64 o.kind, .int .i64 o.at_, .int .i64 o.n, .string (bs o.text), o.pv, o.kv]
instance : Inhabited OpV := ⟨⟨0, 0, 0, [], .slice none 0 0, .slice none 0 0, [], []⟩⟩
structure OpOk (w : World) (o : OpV) : Prop where
  a1 : -9223372036854775808 ≤ o.at_
  a2 : o.at_ ≤ 9223372036854775807
  n1 : -9223372036854775808 ≤ o.n
  n2 : o.n ≤ 9223372036854775807
  rl : o.text.length ≤ 9223372036854775807
  pg : IntsV w o.pv o.pages
  pb : ∀ k ∈ o.pages, -9223372036854775808 ≤ k ∧ k ≤ 9223372036854775807
  kp : IntsV w o.kv o.kept
theorem OpOk.stay {w w' : World} {o : OpV} (h : OpOk w o) (hf : Fr (fun _ => False) w w') : OpOk w' o := ⟨h.a1, h.a2, h.n1, h.n2, h.rl, h.pg.stay hf, h.pb, h.kp.stay hf⟩

/-- A slice of calls' records. -/
def ScriptAt (w : World) (A : Option Addr) (ops : List OpV) : Prop :=
  ops.length ≤ 9223372036854775807 ∧ (ops = [] ∨ ∃ b o, A = some ⟨b, o, none⟩ ∧ ∀ i p, ops[i]? = some p → OpOk w p ∧
    w.cell? ⟨b, o + i * 6, none⟩ = some (.int .i64 p.kind) ∧ w.cell? ⟨b, o + i * 6 + 1, none⟩ = some (.int .i64 p.at_) ∧ w.cell? ⟨b, o + i * 6 + 2, none⟩ = some (.int .i64 p.n) ∧ w.cell? ⟨b, o + i * 6 + 3, none⟩ = some (.string (bs p.text)) ∧ w.cell? ⟨b, o + i * 6 + 4, none⟩ = some p.pv ∧ w.cell? ⟨b, o + i * 6 + 5, none⟩ = some p.kv)

theorem ScriptAt.stay {w w' : World} {A : Option Addr} {ops : List OpV} (h : ScriptAt w A ops) (hf : Fr (fun _ => False) w w') : ScriptAt w' A ops := by
  obtain ⟨h0, h⟩ := h
  refine ⟨h0, ?_⟩
  rcases h with h | ⟨b, o, rfl, h⟩
  · exact Or.inl h
  · refine Or.inr ⟨b, o, rfl, fun i p hp => ?_⟩
    obtain ⟨a1, a3, a4, a5, a6, a7, a8⟩ := h i p hp
    exact ⟨a1.stay hf, cells_stay2 hf a3, cells_stay2 hf a4, cells_stay2 hf a5, cells_stay2 hf a6, cells_stay2 hf a7, cells_stay2 hf a8⟩

structure WV where
  im : List UInt8
  first : Int
  count : Int
  from_ : Int
structure WOk (W : WV) : Prop where
  im : W.im.length ≤ 9223372036854775807
  f : -9223372036854775808 ≤ W.first ∧ W.first ≤ 9223372036854775807
  c : -9223372036854775808 ≤ W.count ∧ W.count ≤ 9223372036854775807
  n : -9223372036854775808 ≤ W.from_ ∧ W.from_ ≤ 9223372036854775807

end Go.Proofs.YtjkhcfdflcndkaaGreat.D
