/-
  The document's disk: Read. No condition beyond the disk's own.
-/
import Derived.Test.YthmnchemfigneaaGreatR4
namespace Go.Proofs.YthmnchemfigneaaGreat.D
open Go.RowKit Go.Maps Go.Shelf
set_option linter.unusedVariables false
set_option linter.unusedSimpArgs false

def RReadC (w : World) (g : Nat) (s : St) (a c : Int) : Prop :=
  Calls Tryz.prog 67 #[.pointer (some ⟨g, 0, none⟩), .int .i64 a, .int .i64 c] w fun e w' =>
      e = .returned (.tuple #[.string (bs (s.read a c).1), .int .i64 (s.read a c).2]) ∧ Fr (fun _ => False) w w'

set_option maxRecDepth 100000 in
theorem rread_dead (w : World) (g b1 b2 : Nat) (s : St) (h : RA w g b1 b2 s) (a c : Int) (hd : s.dead = true) : RReadC w g s a c := by
  have HE := hid (show s.read a c = ([], 2) by rw [St.read, if_pos hd])
  obtain ⟨⟨c1, c2, kv', h1, h2⟩, _⟩ := h
  have c4 : w.cell? ⟨g, 4, none⟩ = some (.bool true) := hd ▸ cell_at h1 4
  clear h1 h2 hd
  unfold RReadC
  rw [HE.out]
  go_enter Tryz.func67, Tryz.ntmps67
  go_wp2
  go_ret2
  exact ⟨rfl, Fr.refl _ _⟩

set_option maxRecDepth 100000 in
theorem rread_at (w : World) (g b1 b2 : Nat) (s : St) (h : RA w g b1 b2 s) (hs : s.Ok) (a c : Int) (ha : -9223372036854775808 ≤ a) (ha2 : a ≤ 9223372036854775807) (hd : s.dead = false)
    (hat : a < 0 ∨ c < 0 ∨ (s.n : Int) < a ∨ (s.n : Int) - a < c) : RReadC w g s a c := by
  have HE := hid (show s.read a c = ([], 171) by rw [St.read, if_neg (by simp [hd]), if_pos hat])
  obtain ⟨⟨c1, c2, kv', h1, h2⟩, _⟩ := h
  have c4 : w.cell? ⟨g, 4, none⟩ = some (.bool false) := hd ▸ cell_at h1 4
  have c0 : w.cell? ⟨g, 0, none⟩ = some (.slice (some ⟨b1, 0, none⟩) s.n c1) := cell_at h1 0
  have hn : s.n ≤ 4096 := hs.n2
  have hn0 : 0 < s.n := hs.n1
  obtain ⟨N, hN⟩ : ∃ N, N = s.n := ⟨_, rfl⟩
  rw [← hN] at c0 hn hn0 hat
  clear h1 h2 hs hd hN
  unfold RReadC
  rw [HE.out]
  by_cases a0 : a < 0
  · clear hat
    go_enter Tryz.func67, Tryz.ntmps67
    go_wp2
    go_ret2
    exact ⟨rfl, Fr.refl _ _⟩
  by_cases c0' : c < 0
  · clear hat
    go_enter Tryz.func67, Tryz.ntmps67
    go_wp2
    go_ret2
    exact ⟨rfl, Fr.refl _ _⟩
  by_cases a1 : (N : Int) < a
  · clear hat
    go_enter Tryz.func67, Tryz.ntmps67
    go_wp2
    go_ret2
    exact ⟨rfl, Fr.refl _ _⟩
  · have a2 : (N : Int) - a < c := by omega
    clear hat
    go_enter Tryz.func67, Tryz.ntmps67
    go_wp2
    go_ret2
    exact ⟨rfl, Fr.refl _ _⟩

set_option maxRecDepth 100000 in
theorem own_str {w : World} {B n cap : Nat} {a : Option Addr} {l : List UInt8} (h : w.ownsRow B 5 1 (.slice a l.length cap) l.length (bytesOf l)) :
    (convert 54 9 (.slice a l.length cap)).run Tryz.prog w = .ok (.string (bs l)) w := by
  rcases h.2 with ⟨h0, h1⟩ | ⟨b', cap2, cur, h0, _, hb1, _, _, _, ht⟩
  · have e0 : l = [] := List.eq_nil_of_length_eq_zero h1
    injection h0 with h2 h3 h4
    subst h2
    rw [e0, run_convert_bytes_string w 54 9 5 none _ cap Tryz.underlying54 Tryz.underlying5 Tryz.underlying9]
    have hb0 : (Conv.bytesToString (Value.slice none 0 cap)).run Tryz.prog w = .ok (.string (bs [])) w := by
      simp [Conv.bytesToString, loadCells, loadCellsFrom]
      try rfl
    simpa using hb0
  · injection h0 with h2 h3 h4
    subst h2
    refine run_convert_bytes_back w 54 9 5 ⟨b', 0, none⟩ cap l Tryz.underlying54 Tryz.underlying5 Tryz.underlying9 (fun j hj => ?_)
    exact h.cells (g := b') rfl j _ (by simp [bytesOf, hj])

set_option maxHeartbeats 4000000 in
set_option maxRecDepth 100000 in
theorem rread_go (w : World) (g b1 b2 : Nat) (s : St) (h : RA w g b1 b2 s) (hs : s.Ok) (A C : Nat) (hd : s.dead = false) (hat : A + C ≤ s.n) : RReadC w g s A C := by
  have HE := hid (show s.read A C = (cat (fun i => sec s (A + i)) C, 0) by rw [St.read, if_neg (by simp [hd]), if_neg (by omega)]; rfl)
  have HA := hid h
  have HS := hid hs
  obtain ⟨⟨c1, c2, kv', h1, h2⟩, _⟩ := h
  have c4 : w.cell? ⟨g, 4, none⟩ = some (.bool false) := hd ▸ cell_at h1 4
  have c0 : w.cell? ⟨g, 0, none⟩ = some (.slice (some ⟨b1, 0, none⟩) s.n c1) := cell_at h1 0
  have hn : s.n ≤ 4096 := hs.n2
  have hn0 : 0 < s.n := hs.n1
  obtain ⟨N, hN⟩ : ∃ N, N = s.n := ⟨_, rfl⟩
  rw [← hN] at c0 hn hn0 hat
  have HNN := hid hN
  have d1 : decide ((A : Int) < 0) = false := decide_eq_false (by omega)
  have d2 : decide (N < A) = false := decide_eq_false (by omega)
  have d3 : decide ((N : Int) - A < C) = false := decide_eq_false (by omega)
  have d4 : decide ((C : Int) < 0) = false := decide_eq_false (by omega)
  have b2' : (C : Int) ≤ (N : Int) - A := by omega
  obtain ⟨i0, hi, hz0, hz1, hz2⟩ := info_parts (show (Tryz.prog.info? 5).map (fun i => (i.zero, i.size, i.bytes)) = some (some (.int .u8 0), 1, 1) by kernel_rfl)
  have HB0 := hid (show Below w.heap.size w (w.alloc (.cells #[] 5)) from (Below.refl _ w).alloc (Nat.le_refl _) _)
  have HO0 := hid (World.ownsRow_made (base := w.heap.size) (e := 5) (size := 1) w #[] 0 (Nat.le_refl _) (Nat.zero_le _) (by simp))
  obtain ⟨f, hf⟩ : ∃ f : Nat → List UInt8, f = fun i => sec s (A + i) := ⟨_, rfl⟩
  have HFE := hid hf
  rw [← hf] at HE
  have HFL := hid (show ∀ i, i < C → (f i).length ≤ 64 from fun i hi => by
    rw [hf]
    simp only [sec]
    cases hu : s.un (A + i) with
    | none => exact piece_le _ _
    | some l => exact Nat.le_of_eq (HS.out.un _ l hu).2)
  clear h1 h2 hs hd hN hf
  unfold RReadC
  rw [HE.out]
  go_enter Tryz.func67, Tryz.ntmps67
  go_wp2_with fail
  go_loopw [8, 9] (fun v i wr => ∃ (k : Nat) (a : Option Addr) (cap : Nat), i = .int .i64 k ∧ k ≤ C ∧ v = .slice a (cat f k).length cap ∧
      Hid (wr.ownsRow w.heap.size 5 1 (.slice a (cat f k).length cap) (cat f k).length (bytesOf (cat f k))) ∧ Hid (Below w.heap.size w wr)) (fun _ i _ => C - (intOf i).toNat)
  case atStart => exact ⟨0, some ⟨w.heap.size, 0, none⟩, 0, rfl, by omega, rfl, HO0, HB0⟩
  case round =>
    obtain ⟨k, a, cap, rfl, hk, rfl, HO, HW⟩ := hrel
    have hlen := cat_len f 64 k (fun i hi => HFL.out i (by omega))
    by_cases hend : k = C
    · subst hend
      have hback := own_str (n := 0) HO.out
      go_wp2_with fail
      go_ret2
      exact ⟨rfl, below_fr HW.out (Nat.le_refl _)⟩
    · have hk' : k < C := by omega
      have HRr := hid (RC.below HA.out (Nat.le_refl _) HW.out)
      have HSEC := hid (rsector_c wr g b1 b2 s.n s.armed _ _ s.kept s.dead HRr.out HS.out.n2 (A + k) (by rw [← HNN.out]; omega))
      rw [sec_uns HS.out, show sec s (A + k) = f k by rw [HFE.out]] at HSEC
      have e3 : (((A + k : Nat)) : Int) = (A : Int) + k := by omega
      rw [e3] at HSEC
      have hl2 := HFL.out k hk'
      obtain ⟨y, hy⟩ : ∃ y, y = f k := ⟨_, rfl⟩
      rw [← hy] at hl2 HSEC
      have hz : (bs y).size = y.length := by simp [bs, ByteArray.size]
      have hbl : w.heap.size ≤ wr.heap.size := HW.out.size
      obtain ⟨v', w2, hrun, hown2, hgr2, hnil⟩ := Lib.run_append_own_string (P := Tryz.prog) wr w.heap.size 54 9 54 5 i0 Tryz.underlying54 Tryz.underlying9 hi hz0 hz1 hz2
        (.slice a (cat f k).length cap) (cat f k).length (bytesOf (cat f k)) HO.out (bs y) (by rw [hz]; unfold maxLen; omega) (by rw [hz]; omega) hbl
      have HW2 := hid (HW.out.grown hgr2 hbl (fun b hb => (HO.out.lt b hb).1))
      have e1 : cat f (k + 1) = cat f k ++ y := by rw [cat_succ, hy]
      have e2 : (cat f (k + 1)).length = (cat f k).length + (bs y).size := by rw [e1, hz]; simp
      have e3 : bytesOf (cat f (k + 1)) = bytesOf (cat f k) ++ Lib.strCells (bs y) := by rw [e1]; simp [bytesOf, Lib.strCells]
      have E := hid (And.intro e2 e3)
      obtain ⟨a', cap', rfl⟩ : ∃ a' cap', v' = .slice a' ((cat f k).length + (bs y).size) cap' := by
        rcases hown2.2 with ⟨h0, h1⟩ | ⟨b', cap2, cur, h0, _⟩
        · exact ⟨none, 0, by rw [h0, h1]⟩
        · exact ⟨_, _, h0⟩
      have HO2 := hid hown2
      have ex3 : IntKind.i64.wrap ((A : Int) + k) = (A : Int) + k := by rw [IntKind.wrap_i64]; omega
      clear hend e1 hy hown2 hgr2 e2 e3 hnil hz HRr
      go_wp2_with fail
      refine HSEC.out.mono ?_
      rintro e w5 ⟨rfl, rfl⟩
      go_wp2_with (at_builtin; refine wpList_append_run rfl (.tmp 46) (.tmp 51) 54 9 rfl _ _ _ _ rfl rfl hrun ?_)
      go_wp2_with fail
      all_goals (
        first | go_roundw | skip
        case measure => simp [intOf]; omega
        obtain ⟨e2, e3⟩ := E.out
        refine ⟨k + 1, a', cap', rfl, by omega, by rw [e2]; simp [bs, ByteArray.size], hid (by rw [e2, e3]; exact HO2.out), HW2⟩)

theorem rread_c (w : World) (g b1 b2 : Nat) (s : St) (h : RA w g b1 b2 s) (hs : s.Ok) (a c : Int) (ha : -9223372036854775808 ≤ a) (ha2 : a ≤ 9223372036854775807) : RReadC w g s a c := by
  cases hd : s.dead with
  | true => exact rread_dead w g b1 b2 s h a c hd
  | false =>
    by_cases hat : a < 0 ∨ c < 0 ∨ (s.n : Int) < a ∨ (s.n : Int) - a < c
    · exact rread_at w g b1 b2 s h hs a c ha ha2 hd hat
    · obtain ⟨A, rfl⟩ : ∃ A : Nat, a = A := ⟨a.toNat, by omega⟩
      obtain ⟨C, rfl⟩ : ∃ C : Nat, c = C := ⟨c.toNat, by omega⟩
      exact rread_go w g b1 b2 s h hs A C hd (by omega)

end Go.Proofs.YthmnchemfigneaaGreat.D
