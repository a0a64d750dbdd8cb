/-
  A pager over a disk: what its cells and its two sets say; used, Free. No condition beyond the sizes that are named.
-/
import Derived.Test.YtjkhcfdflcndkaaDC
import Derived.Test.YtjkhcfdflcndkaaPL
import Derived.Maps.OwnSet
import Derived.BigQuiet
namespace Go.Proofs.Ytjkhcfdflcndkaa.D
open Go.RowKit Go.Maps Go.Shelf
set_option linter.unusedVariables false
set_option linter.unusedSimpArgs false

/-- The map in block b is this set of numbers. -/
def SetAt (w : World) (b : Nat) (f : Int → Bool) : Prop :=
  ∃ n D, w.ownsMap Try.prog 3 (unitElem (H := Unit)) b n D ∧ (∀ i : Int, Maps.has D (.int .i64 i) = f i) ∧ ∀ k, Maps.has D k = true → ∃ i, k = .int .i64 i

theorem SetAt.keep {S : Nat → Prop} {w w' : World} {b : Nat} {f : Int → Bool} (h : SetAt w b f) (hf : Fr S w w') (hn : ¬ S b) : SetAt w' b f := by
  obtain ⟨n, D, h1, h2, h3⟩ := h
  exact ⟨n, D, owns_keep h1 hf hn, h2, h3⟩
theorem SetAt.stay {w w' : World} {b : Nat} {f : Int → Bool} (h : SetAt w b f) (hf : Fr (fun _ => False) w w') : SetAt w' b f := h.keep hf (fun f => f)

theorem zero_none (w : World) : (zeroValue 59).run Try.prog w = .ok (.agg #[]) w := by kernel_rfl

theorem SetAt.look {w : World} {b : Nat} {f : Int → Bool} (h : SetAt w b f) (k : Int) (h1 : -9223372036854775808 ≤ k) (h2 : k ≤ 9223372036854775807) :
    (Instr.lookup 54 (.map (some b)) (.int .i64 k) true).run Try.prog w = .ok (.tuple #[.agg #[], .bool (f k)]) w := by
  obtain ⟨n, D, hown, hh, _⟩ := h
  have K : Keyed Try.prog 3 := int_keyed Try.underlying3
  have hkey := keyOf_int_mk (P := Try.prog) (k := 3) Try.underlying3 (a := k) (WalkArith.wf_i64 (by omega))
  obtain ⟨v, ps, hrun, hv⟩ := hown.look_ok K Try.underlying54 (zero_none w) unitElem_mk hkey
  obtain ⟨rfl, _⟩ := unitElem_inv hv
  rw [hrun, hh k]

structure PSt where
  first : Nat
  pages : Nat
  root : Int
  from_ : Nat
  gen : Nat
  live : Int → Bool
  taken : Int → Bool
  dead : Bool
def pcells (g ml mt : Nat) (P : PSt) : Array Value := #[.pointer (some ⟨g, 0, none⟩), .int .i64 P.first, .int .i64 P.pages, .int .i64 P.root, .int .i64 P.from_, .int .i64 P.gen, .map (some ml), .map (some mt), .bool P.dead]
/-- Block p is a pager over the disk in block g, its sets in blocks ml, mt. -/
def PAt (w : World) (p g ml mt : Nat) (P : PSt) : Prop := w.heap[p]? = some (.cells (pcells g ml mt P) 56) ∧ SetAt w ml P.live ∧ SetAt w mt P.taken ∧ ml ≠ mt
structure PSt.Ok (P : PSt) (n : Nat) : Prop where
  f2 : 2 ≤ P.first
  p1 : 1 ≤ P.pages
  p2 : P.pages ≤ 4096
  area : P.first + 8 * P.pages ≤ n
  r1 : -1 ≤ P.root
  r2 : P.root < P.pages
  fr1 : 1 ≤ P.from_
  fr2 : P.from_ ≤ 1152921504606846976
  g1 : 1 ≤ P.gen
  g2 : P.gen ≤ 1152921504606846976
  lv : ∀ i, P.live i = true → 0 ≤ i ∧ i < P.pages
  tk : ∀ i, P.taken i = true → 0 ≤ i ∧ i < P.pages
def PSt.used (P : PSt) (i : Int) : Bool := P.live i || P.taken i

theorem PAt.stay {w w' : World} {p g ml mt : Nat} {P : PSt} (h : PAt w p g ml mt P) (hf : Fr (fun _ => False) w w') : PAt w' p g ml mt P := ⟨hf.at h.1 (fun f => f), h.2.1.stay hf, h.2.2.1.stay hf, h.2.2.2⟩

set_option maxHeartbeats 4000000 in
theorem used_c (w : World) (p g ml mt : Nat) (P : PSt) (h : PAt w p g ml mt P) (k : Int) (h1 : -9223372036854775808 ≤ k) (h2 : k ≤ 9223372036854775807) :
    Calls Try.prog 22 #[.pointer (some ⟨p, 0, none⟩), .int .i64 k] w fun e w' => e = .returned (.bool (P.used k)) ∧ Fr (fun _ => False) w w' := by
  have HL := hid (fun W (hf : Fr (fun _ => False) w W) => (h.2.1.stay hf).look k h1 h2)
  have HT := hid (fun W (hf : Fr (fun _ => False) w W) => (h.2.2.1.stay hf).look k h1 h2)
  have k6 : w.cell? ⟨p, 6, none⟩ = some (.map (some ml)) := cell_at h.1 6
  have hf1 : Fr (fun _ => False) w (w.alloc (.cells #[] 59)) := (Fr.refl _ w).alloc _
  have hf2 : Fr (fun _ => False) w ((w.alloc (.cells #[] 59)).alloc (.cells #[] 59)) := hf1.alloc _
  have k7 : (w.alloc (.cells #[] 59)).cell? ⟨p, 7, none⟩ = some (.map (some mt)) := cell_at (hf1.at h.1 (fun f => f)) 7
  have e1 := HL.out w (Fr.refl _ _)
  have e2 := HT.out _ hf1
  have HF := hid hf2
  obtain ⟨a, ha⟩ : ∃ a, a = P.live k := ⟨_, rfl⟩
  obtain ⟨b, hb⟩ : ∃ b, b = P.taken k := ⟨_, rfl⟩
  have HU := hid (show P.used k = (a || b) by rw [ha, hb]; rfl)
  rw [HU.out]
  rw [← ha] at e1
  rw [← hb] at e2
  clear h HL HT hf1 hf2 ha hb
  cases a <;> cases b <;>
  · go_enter Try.func22, Try.ntmps22
    go_wp2_with fail
    go_ret
    exact ⟨rfl, HF.out⟩

def PSt.freeTo (P : PSt) : Nat → Nat
  | 0 => 0
  | i + 1 => if P.used i then P.freeTo i else P.freeTo i + 1
theorem freeTo_le (P : PSt) : ∀ i, P.freeTo i ≤ i
  | 0 => Nat.le_refl _
  | i + 1 => by
    have := freeTo_le P i
    rw [PSt.freeTo]
    split <;> omega
def PSt.free (P : PSt) : Nat := P.freeTo P.pages

set_option maxHeartbeats 4000000 in
theorem free_c (w : World) (p g ml mt : Nat) (P : PSt) (h : PAt w p g ml mt P) (hp : P.pages ≤ 4096) :
    Calls Try.prog 7 #[.pointer (some ⟨p, 0, none⟩)] w fun e w' => e = .returned (.int .i64 P.free) ∧ Fr (fun _ => False) w w' := by
  have HP := hid h
  have k2 : w.cell? ⟨p, 2, none⟩ = some (.int .i64 P.pages) := cell_at h.1 2
  obtain ⟨n, hn⟩ : ∃ n, n = P.pages := ⟨_, rfl⟩
  have HN := hid hn
  rw [← hn] at k2 hp
  clear h hn
  go_enter Try.func7, Try.ntmps7
  go_wp2_with fail
  go_loopw [9, 3] (fun v9 v3 wr => ∃ i : Nat, v9 = .int .i64 i ∧ v3 = .int .i64 (P.freeTo i) ∧ i ≤ n ∧ Hid (Fr (fun _ => False) w wr)) (fun v _ _ => n - (intOf v).toNat)
  case atStart => exact ⟨0, rfl, rfl, by omega, hid (Fr.refl _ _)⟩
  case round =>
    obtain ⟨i, rfl, rfl, hi, HF⟩ := hrel
    have hfl := freeTo_le P i
    by_cases hend : i = n
    · subst hend
      go_wp2_with fail
      go_ret
      exact ⟨by rw [PSt.free, ← HN.out]; rfl, HF.out⟩
    · have HU := hid (used_c wr p g ml mt P (HP.out.stay HF.out) i (by omega) (by omega))
      obtain ⟨fr, hfr⟩ : ∃ fr, fr = P.freeTo i := ⟨_, rfl⟩
      rw [← hfr] at hfl
      cases hu : P.used i with
      | true =>
        have HS := hid (show P.freeTo (i + 1) = fr by rw [PSt.freeTo, if_pos hu, hfr])
        rw [hu] at HU
        rw [← hfr]
        clear hu hfr
        go_wp2_with fail
        refine HU.out.mono ?_
        rintro e w2 ⟨rfl, hf2⟩
        have HF2 := hid (HF.out.trans hf2 (fun _ _ f => f))
        clear hf2
        go_wp2_with fail
        exact ⟨⟨i + 1, by go_num, by rw [HS.out], by omega, HF2⟩, by simp [intOf]; omega⟩
      | false =>
        have HS := hid (show P.freeTo (i + 1) = fr + 1 by rw [PSt.freeTo, if_neg (by simp [hu]), hfr])
        rw [hu] at HU
        rw [← hfr]
        clear hu hfr
        go_wp2_with fail
        refine HU.out.mono ?_
        rintro e w2 ⟨rfl, hf2⟩
        have HF2 := hid (HF.out.trans hf2 (fun _ _ f => f))
        clear hf2
        go_wp2_with fail
        exact ⟨⟨i + 1, by go_num, by rw [HS.out]; go_num, by omega, HF2⟩, by simp [intOf]; omega⟩

end Go.Proofs.Ytjkhcfdflcndkaa.D
