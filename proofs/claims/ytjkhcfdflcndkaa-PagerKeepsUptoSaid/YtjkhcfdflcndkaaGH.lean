/-
  A pager's head. No condition beyond the sizes that are named.
-/
import Derived.Test.YtjkhcfdflcndkaaGB
import Derived.Lib.SlBytesConst
import Derived.Lib.SmallJoins
import Derived.Outline
namespace Go.Proofs.Ytjkhcfdflcndkaa.D
open Go.RowKit Go.Maps Go.Shelf
set_option linter.unusedVariables false
set_option linter.unusedSimpArgs false

/-- A head's bytes: its number, the root and one, the From. -/
def headB (gen rp fr : Nat) : List UInt8 := [82, 90, 72, 49] ++ be 8 gen ++ be 4 rp ++ be 8 fr ++ List.replicate 40 0
theorem headB_len (gen rp fr : Nat) : (headB gen rp fr).length = 64 := by simp [headB, be_length]

theorem fr_low {B : Nat} {w w' : World} (h : Fr (fun i => B ≤ i) w w') (hB : w.heap.size ≤ B) (S : Nat → Prop) : Fr S w w' := h.mono (fun i hi hb => by omega)

set_option maxHeartbeats 4000000 in
set_option maxRecDepth 100000 in
theorem head_c (w : World) (gen rp fr : Nat) (r : Int) (hr : r + 1 = (rp : Int)) (hg : gen ≤ 1152921504606846977) (hp : rp ≤ 1000000) (hf : fr ≤ 1152921504606846976) :
    Calls Try.prog 30 #[.int .i64 gen, .int .i64 r, .int .i64 fr] w fun e w' => e = .returned (.string (bs (headB gen rp fr))) ∧ Fr (fun _ => False) w w' := by
  obtain ⟨B, hB⟩ : ∃ B, B = w.heap.size := ⟨_, rfl⟩
  have HBIG := hid (fun (W : World) (v : Value) (l : List UInt8) (n k : Nat) (ho : BR W B v l) (hB : B ≤ W.heap.size) (hn : n ≤ 9223372036854775807) (hk : k ≤ 8) (hk1 : 0 < k) (hl : l.length ≤ 1000000) => big_c W B v l n k ho hB hn hk hk1 hl)
  have kc := fun (w : World) (C : Array Value) (n c : Nat) => Lib.run_convert_bytes_const (P := Try.prog) w 36 5 C n c Try.underlying36 Try.underlying5
  obtain ⟨L1, hL1⟩ : ∃ L : List UInt8, L = [82, 90, 72, 49] ++ be 8 gen := ⟨_, rfl⟩
  obtain ⟨L2, hL2⟩ : ∃ L : List UInt8, L = L1 ++ be 4 rp := ⟨_, rfl⟩
  obtain ⟨L3, hL3⟩ : ∃ L : List UInt8, L = L2 ++ be 8 fr := ⟨_, rfl⟩
  have l1 : L1.length = 12 := by rw [hL1]; simp [be_length]
  have l2 : L2.length = 16 := by rw [hL2]; simp [be_length, l1]
  have l3 : L3.length = 24 := by rw [hL3]; simp [be_length, l2]
  have HE := hid (show headB gen rp fr = L3 ++ List.replicate 40 0 by rw [hL3, hL2, hL1]; rfl)
  have H1 := hid (show ∀ W v, BR W B v [82, 90, 72, 49] → B ≤ W.heap.size → Calls Try.prog 49 #[v, .int .i64 gen, .int .i64 8] W fun e w' => ∃ v', e = .returned v' ∧ w'.ownsRow B 5 1 v' 12 (bytesOf L1) ∧ Fr (fun i => B ≤ i) W w' from
    fun W v h hW => (HBIG.out W v _ gen 8 h hW (by omega) (by decide) (by decide) (by decide)).mono (fun e w' x => by rw [← hL1, l1] at x; exact x))
  have H2 := hid (show ∀ W v, W.ownsRow B 5 1 v 12 (bytesOf L1) → B ≤ W.heap.size → Calls Try.prog 49 #[v, .int .i64 rp, .int .i64 4] W fun e w' => ∃ v', e = .returned v' ∧ w'.ownsRow B 5 1 v' 16 (bytesOf L2) ∧ Fr (fun i => B ≤ i) W w' from
    fun W v h hW => (HBIG.out W v L1 rp 4 (Or.inl (by rw [l1]; exact h)) hW (by omega) (by decide) (by decide) (by omega)).mono (fun e w' x => by rw [← hL2, l2] at x; exact x))
  have H3 := hid (show ∀ W v, W.ownsRow B 5 1 v 16 (bytesOf L2) → B ≤ W.heap.size → Calls Try.prog 49 #[v, .int .i64 fr, .int .i64 8] W fun e w' => ∃ v', e = .returned v' ∧ w'.ownsRow B 5 1 v' 24 (bytesOf L3) ∧ Fr (fun i => B ≤ i) W w' from
    fun W v h hW => (HBIG.out W v L2 fr 8 (Or.inl (by rw [l2]; exact h)) hW (by omega) (by decide) (by decide) (by omega)).mono (fun e w' x => by rw [← hL3, l3] at x; exact x))
  have HB := hid hB
  have HL3 := hid l3
  clear HBIG hL1 hL2 hL3 l1 l2 l3 hB
  go_enter Try.func30, Try.ntmps30
  go_wp2_with fail
  have hf1 : Fr (fun i => B ≤ i) w (w.alloc (.cells #[.int .u8 82, .int .u8 90, .int .u8 72, .int .u8 49] 5 (4, 5))) := (Fr.refl _ w).alloc _
  have hb1 : BR (w.alloc (.cells #[.int .u8 82, .int .u8 90, .int .u8 72, .int .u8 49] 5 (4, 5))) B (.slice (some ⟨w.heap.size, 0, none⟩) 4 4) [82, 90, 72, 49] :=
    Or.inr ⟨_, _, _, rfl, by rw [HB.out]; exact Nat.le_refl _, (MapKept.heap_alloc w _).1, rfl⟩
  refine (H1.out _ _ hb1 (by have := hf1.size; have := HB.out; omega)).mono ?_
  have HF1 := hid hf1
  clear hf1 hb1
  rintro e w2 ⟨v2, rfl, ho2, hf2⟩
  have HF2 := hid (HF1.out.trans hf2 (fun _ _ e => e))
  have HO2 := hid ho2
  clear ho2 hf2
  go_wp2_with fail
  refine (H2.out _ _ HO2.out (by have := HF2.out.size; have := HB.out; omega)).mono ?_
  rintro e w3 ⟨v3, rfl, ho3, hf3⟩
  have HF3 := hid (HF2.out.trans hf3 (fun _ _ e => e))
  have HO3 := hid ho3
  clear ho3 hf3
  go_wp2_with fail
  refine (H3.out _ _ HO3.out (by have := HF3.out.size; have := HB.out; omega)).mono ?_
  rintro e w4 ⟨v4, rfl, ho4, hf4⟩
  have HF4 := hid (HF3.out.trans hf4 (fun _ _ e => e))
  have HO4 := hid ho4
  obtain ⟨v5, w5, hrun, ho5, hg5⟩ := own_zeros (l := L3) (by rw [HL3.out]; exact ho4) (by have := HF4.out.size; have := HB.out; omega) (by have := HL3.out; omega) (by have := HL3.out; omega) 40 (by decide) (by decide) 36
  have HF5 := hid (HF4.out.grown hg5 (fun i hi _ => (HO4.out.lt i hi).1))
  have hstr := own_str ho5 (by simp)
  rw [← HE.out] at hstr
  obtain ⟨g4, c4, rfl⟩ := Joins.ownsRow_form ho4 (by omega)
  have HRUN := hid hrun
  clear ho4 hf4 ho5 hg5 hrun
  go_wp2_with (first
    | (at_builtin; refine Lib.wpList_append_run _ rfl _ _ _ _ rfl _ _ rfl rfl _ _ HRUN.out ?_))
  go_ret
  exact ⟨rfl, fr_low HF5.out (by have := HB.out; omega) _⟩

end Go.Proofs.Ytjkhcfdflcndkaa.D
