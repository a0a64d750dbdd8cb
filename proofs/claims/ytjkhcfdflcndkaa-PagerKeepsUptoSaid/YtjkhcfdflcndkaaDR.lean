/-
  Read. No condition beyond the disk's own.
-/
import Derived.Test.YtjkhcfdflcndkaaD7
import Derived.Test.YtjkhcfdflcndkaaBl
namespace Go.Proofs.Ytjkhcfdflcndkaa.D
open Go.RowKit Go.Maps Go.Shelf
set_option linter.unusedVariables false
set_option linter.unusedSimpArgs false

theorem builder_stay {T e : TypeId} {B b : Nat} {bs : List Value} {w w' : World} (h : Lib.IsBuilder T e B b bs w) (hf : Fr (fun _ => False) w w') : Lib.IsBuilder T e B b bs w' := by
  have hg : w.grownBy w' none := ⟨hf.os, hf.tape, hf.output, hf.size, fun k hk _ => hf.block k hk (fun f => f)⟩
  unfold Lib.IsBuilder Lib.BuilderAt at *
  rcases h with ⟨hB, v, hb, ho, hn⟩ | ⟨hB, v, hb, ho, hn⟩
  · exact Or.inl ⟨hB, v, hf.at hb (fun f => f), ho.kept hg (by cases hv : v.ownBlock <;> simp), hn⟩
  · exact Or.inr ⟨hB, v, hf.at hb (fun f => f), ho.kept hg (by cases hv : v.ownBlock <;> simp), hn⟩

def secs (s : St) (a c : Nat) : List UInt8 := (List.range c).flatMap (fun i => s.sec (a + i))
theorem secs_succ (s : St) (a c : Nat) : secs s a (c + 1) = secs s a c ++ s.sec (a + c) := by simp [secs, List.range_succ]
theorem sec_length {s : St} (hs : s.Ok) {i : Nat} (hi : i < s.n) : (s.sec i).length = 64 := by
  unfold St.sec
  cases hu : s.un i with
  | some l => exact (hs.un i l hu).2
  | none =>
    have := hs.safe
    simp only [Option.getD_none, List.length_take, List.length_drop]; omega
theorem secs_length {s : St} (hs : s.Ok) {a : Nat} : ∀ {c : Nat}, a + c ≤ s.n → (secs s a c).length = 64 * c
  | 0, _ => rfl
  | c + 1, h => by
    rw [secs_succ, List.length_append, secs_length hs (by omega), sec_length hs (by omega)]; omega

def ReadC (w : World) (g : Nat) (s : St) (a c : Int) : Prop :=
  Calls Try.prog 39 #[.pointer (some ⟨g, 0, none⟩), .int .i64 a, .int .i64 c] w fun e w' =>
      e = .returned (.tuple #[.string (bs (s.read a c).1), .int .i64 (s.read a c).2]) ∧ Fr (fun _ => False) w w'

theorem read_dead (w : World) (g bm : Nat) (s : St) (h : At w g bm s) (a c : Int) (hd : s.dead = true) : ReadC w g s a c := by
  have HE := hid (show s.read a c = ([], 2) by rw [St.read, if_pos hd])
  obtain ⟨⟨kv, h1, h2⟩, _⟩ := h
  have c4 : w.cell? ⟨g, 4, none⟩ = some (.bool true) := hd ▸ cell_at h1 4
  clear h1 h2 hd
  unfold ReadC
  rw [HE.out]
  go_enter Try.func39, Try.ntmps39
  go_wp2
  go_ret2
  exact ⟨rfl, Fr.refl _ _⟩

theorem read_at (w : World) (g bm : Nat) (s : St) (h : At w g bm s) (hs : s.Ok) (a c : Int) (ha : -9223372036854775808 ≤ a) (ha2 : a ≤ 9223372036854775807) (hd : s.dead = false)
    (hat : a < 0 ∨ c < 0 ∨ (s.n : Int) < a ∨ (s.n : Int) - a < c) : ReadC w g s a c := by
  have HE := hid (show s.read a c = ([], 171) by rw [St.read, if_neg (by simp [hd]), if_pos hat])
  have HCNT := hid (count_c w g bm s h hs)
  obtain ⟨⟨kv, h1, h2⟩, _⟩ := h
  have c4 : w.cell? ⟨g, 4, none⟩ = some (.bool false) := hd ▸ cell_at h1 4
  have hn : s.n ≤ 4096 := hs.n2
  have hn0 : 0 < s.n := hs.n1
  clear h1 h2 hs hd
  unfold ReadC
  rw [HE.out]
  by_cases a0 : a < 0
  · clear hat
    go_enter Try.func39, Try.ntmps39
    go_wp2_with (go_at_call 42; refine HCNT.out.mono ?_; rintro e w' ⟨rfl, rfl⟩)
    go_ret2
    exact ⟨rfl, Fr.refl _ _⟩
  by_cases c0 : c < 0
  · clear hat
    go_enter Try.func39, Try.ntmps39
    go_wp2_with (go_at_call 42; refine HCNT.out.mono ?_; rintro e w' ⟨rfl, rfl⟩)
    go_ret2
    exact ⟨rfl, Fr.refl _ _⟩
  by_cases a1 : (s.n : Int) < a
  · clear hat
    go_enter Try.func39, Try.ntmps39
    go_wp2_with (go_at_call 42; refine HCNT.out.mono ?_; rintro e w' ⟨rfl, rfl⟩)
    go_ret2
    exact ⟨rfl, Fr.refl _ _⟩
  · have a2 : (s.n : Int) - a < c := by omega
    clear hat
    go_enter Try.func39, Try.ntmps39
    go_wp2_with (go_at_call 42; refine HCNT.out.mono ?_; rintro e w' ⟨rfl, rfl⟩)
    go_ret2
    exact ⟨rfl, Fr.refl _ _⟩

set_option maxHeartbeats 4000000 in
set_option maxRecDepth 100000 in
theorem read_go (w : World) (g bm : Nat) (s : St) (h : At w g bm s) (hs : s.Ok) (A C : Nat) (hd : s.dead = false) (hat : A + C ≤ s.n) : ReadC w g s A C := by
  have HE := hid (show s.read A C = (secs s A C, 0) by rw [St.read, if_neg (by simp [hd]), if_neg (by omega)]; rfl)
  have HA := hid h
  have HCNT := hid (count_c w g bm s h hs)
  obtain ⟨⟨kv, h1, h2⟩, _⟩ := h
  have c4 : w.cell? ⟨g, 4, none⟩ = some (.bool false) := hd ▸ cell_at h1 4
  have hn : s.n ≤ 4096 := hs.n2
  have hn0 : 0 < s.n := hs.n1
  have HS := hid hs
  have d1 : decide ((A : Int) < 0) = false := decide_eq_false (by omega)
  have d2 : decide (s.n < A) = false := decide_eq_false (by omega)
  have d3 : decide ((s.n : Int) - A < C) = false := decide_eq_false (by omega)
  have d4 : decide ((C : Int) < 0) = false := decide_eq_false (by omega)
  have b2 : (C : Int) ≤ (s.n : Int) - A := by omega
  have HB0 := hid (((Below.refl w.heap.size w).alloc (Nat.le_refl _) (.cells #[.pointer none, .slice none 0 0] 86)))
  have HLW := hid HA.out.low
  clear h1 h2 hs hd
  unfold ReadC
  rw [HE.out]
  go_enter Try.func39, Try.ntmps39
  go_wp2_with (first | fail | (go_at_call 42; refine HCNT.out.mono ?_; rintro e w' ⟨rfl, rfl⟩))
  go_loopw [35] (fun v wr => ∃ k : Nat, v = .int .i64 k ∧ k ≤ C ∧ Hid (Lib.IsBuilder 86 5 w'.heap.size w'.heap.size (Lib.byteCells (secs s A k)) wr) ∧ Hid (Below w'.heap.size w' wr)) (fun i _ => C - (intOf i).toNat)
  case atStart => exact ⟨0, rfl, by omega, hid (Lib.fresh_isBuilder _ _ _), HB0⟩
  case round =>
    obtain ⟨k, rfl, hk, HBd, HW⟩ := hrel
    have hBw : w'.heap.size ≤ wr.heap.size := HW.out.size
    by_cases hend : k = C
    · subst hend
      go_wp2_with fail
      refine (Any.Builder_String_any Try.bl169 Try.blX w'.heap.size w'.heap.size _ wr HBd.out hBw).mono ?_
      rintro e w3 ⟨rfl, hb3⟩
      have HB3 := hid (HW.out.trans hb3)
      clear hb3
      go_wp2_with fail
      go_ret2
      exact ⟨rfl, Fr.below HB3.out _⟩
    · have hk' : k < C := by omega
      have hAr : At wr g bm s := HA.out.keep (S := fun i => w'.heap.size ≤ i) ⟨HW.out.os, HW.out.tape, HW.out.output, HW.out.size, fun i hi _ => HW.out.block i hi⟩ (by have := HLW.out.1; omega) (by have := HLW.out.2; omega) (fun b cur hb => by have := lt_of_at hb; omega)
      have HSEC := hid (sector_c wr g bm s hAr HS.out (A + k) (by omega))
      have e3 : (((A + k : Nat)) : Int) = (A : Int) + k := by omega
      rw [e3] at HSEC
      have HLEN := hid (secs_length HS.out (a := A) (c := k) (by omega))
      have HLS := hid (sec_length HS.out (i := A + k) (by omega))
      clear hAr e3 hend
      go_wp2_with fail
      refine HSEC.out.mono ?_
      rintro e w3 ⟨rfl, hf3⟩
      have HBd3 := hid (builder_stay HBd.out hf3)
      have hW3 := HW.out.trans (Fr.toBelow (B := w'.heap.size) hf3 hBw (fun i f => f.elim))
      have HW3 := hid hW3
      have hBw3 : w'.heap.size ≤ w3.heap.size := hW3.size
      have hz : (bs (s.sec (A + k))).size = 64 := by have := HLS.out; simp [bs, ByteArray.size, this]
      clear hf3 hW3
      have HWS := hid (Any.Builder_WriteString Try.bl166 Try.blX w'.heap.size w'.heap.size _ (bs (s.sec (A + k))) w3 HBd3.out (by rw [Lib.byteCells_length, HLEN.out, hz]; omega) hBw3)
      clear hz
      go_wp2_with fail
      refine HWS.out.mono ?_
      rintro e w4 ⟨rfl, h4, hb4⟩
      have H4 := hid (Or.inr h4 : Lib.IsBuilder 86 5 w'.heap.size w'.heap.size _ w4)
      have HW4 := hid (HW3.out.trans hb4)
      clear h4 hb4
      go_wp2_with fail
      go_roundw
      case rel =>
        refine ⟨k + 1, rfl, by omega, hid ?_, HW4⟩
        have h5 := H4.out
        rw [secs_succ]
        unfold Lib.IsBuilder at h5 ⊢
        simpa [Lib.byteCells, Lib.strCells] using h5
      case measure => simp [intOf]; omega

end Go.Proofs.Ytjkhcfdflcndkaa.D
