/-
  The document's disk: Sync. No condition beyond the disk's own.
-/
import Derived.Test.YtjkhcfdflcndkaaGreatKO19
import Derived.Deep.RegionWith
import Derived.Test.YtjkhcfdflcndkaaGreatKO18
namespace Go.Proofs.YtjkhcfdflcndkaaGreat.D
open Go.RowKit Go.Maps Go.Shelf
set_option linter.unusedVariables false
set_option linter.unusedSimpArgs false

/-- The safe sectors, k of them synced. -/
def s1 (S : St) (k : Nat) (i : Nat) : List UInt8 := if i < k then sec S i else piece S.safe i
def s2 (S : St) (k : Nat) (i : Nat) : List UInt8 := if i < k then [] else uns S i

theorem s1_next (S : St) (k i : Nat) : (if i = k then sec S k else s1 S k i) = s1 S (k + 1) i := by
  unfold s1
  by_cases e : i = k
  · subst e; rw [if_pos rfl, if_pos (by omega)]
  · rw [if_neg e]
    by_cases h : i < k
    · rw [if_pos h, if_pos (by omega)]
    · rw [if_neg h, if_neg (by omega)]
theorem s2_next (S : St) (k i : Nat) : (if i = k then [] else s2 S k i) = s2 S (k + 1) i := by
  unfold s2
  by_cases e : i = k
  · subst e; rw [if_pos rfl, if_pos (by omega)]
  · rw [if_neg e]
    by_cases h : i < k
    · rw [if_pos h, if_pos (by omega)]
    · rw [if_neg h, if_neg (by omega)]

theorem becomes_image_n {S : St} (hs : S.Ok) : (S.becomes S.image).n = S.n := becomes_n (image_length hs)

def RSyncC (w : World) (g b1 b2 : Nat) (s : St) : Prop :=
  Calls Tryz.prog 56 #[.pointer (some ⟨g, 0, none⟩)] w fun e w' => e = .returned (.int .i64 s.sync.2) ∧ RTurn w g b1 b2 s.sync.1 w'

set_option maxHeartbeats 8000000 in
set_option maxRecDepth 100000 in
theorem rsync_c (w : World) (g b1 b2 : Nat) (s : St) (h : RA w g b1 b2 s) (hs : s.Ok) : RSyncC w g b1 b2 s := by
  have HA := hid h
  have HS := hid hs
  have HST := hid (ra_step w g b1 b2 s h hs)
  obtain ⟨⟨c1, c2, kv', h1, h2⟩, _⟩ := h
  unfold RSyncC
  cases hd : s.dead with
  | true =>
    have HE := hid (show s.sync = (s, 2) by rw [St.sync, if_pos hd])
    have c4 : w.cell? ⟨g, 4, none⟩ = some (.bool true) := hd ▸ cell_at h1 4
    clear h1 h2 hs hd
    rw [HE.out]
    go_enter Tryz.func56, Tryz.ntmps56
    go_wp2_with fail
    go_ret
    exact ⟨rfl, RTurn.self HA.out⟩
  | false =>
    have HD := hid hd
    have c4 : w.cell? ⟨g, 4, none⟩ = some (.bool false) := hd ▸ cell_at h1 4
    clear h1 h2 hs hd
    go_enter Tryz.func56, Tryz.ntmps56
    go_wp2_with fail
    refine HST.out.mono ?_
    rintro e w3 ⟨rfl, hA3, hf3⟩
    have HF3 := hid (hf3.mono (fun i _ e => Or.inl e) : Fr (fun i => i = g ∨ i = b1 ∨ i = b2) w w3)
    have HA3 := hid hA3
    have HO3 := hid (step_ok HS.out)
    obtain ⟨⟨d1c3, d2c3, kv3, d3, i3⟩, _⟩ := hA3
    have c3 : w3.cell? ⟨g, 3, none⟩ = some kv3 := cell_at d3 3
    cases hgo : s.step.2 with
    | true =>
      have HE := hid (show s.sync = (s.step.1.dies s.kept, 2) by rw [St.sync, if_neg (by simp [HD.out]), if_pos hgo])
      have HDIE := hid (rdie_c w3 g b1 b2 _ HA3.out HO3.out kv3 s.kept (by rw [step_kept] at i3; exact i3.toV))
      obtain ⟨ka, kc, rfl, _⟩ := i3
      clear hgo d3 hf3
      go_wp2_with fail
      refine HDIE.out.mono ?_
      rintro e w4 ⟨rfl, hA4, hf4⟩
      have HA4 := hid hA4
      have HF4 := hid hf4
      clear hA4 hf4
      go_wp2_with fail
      go_ret
      obtain ⟨b1', b2', h41, h42, h43⟩ := HA4.out
      rw [HE.out]
      exact ⟨rfl, ⟨b1', b2', h41, Or.inr (Nat.le_trans HF3.out.size h42), Or.inr (Nat.le_trans HF3.out.size h43)⟩, HF3.out.trans HF4.out (fun i _ e => Or.inl e)⟩
    | false =>
      have HE := hid (show s.sync = (s.step.1.becomes s.step.1.image, 0) by rw [St.sync, if_neg (by simp [HD.out]), if_neg (by simp [hgo])])
      obtain ⟨T, hT⟩ : ∃ T, T = s.step.1 := ⟨_, rfl⟩
      rw [← hT] at HA3 HO3 HE
      obtain ⟨N, hN⟩ : ∃ N, N = T.n := ⟨_, rfl⟩
      have hn : N ≤ 4096 := by rw [hN]; exact HO3.out.n2
      have HNN := hid hN
      have HA0 := hid (show RC w3 g b1 b2 N (s1 T 0) (s2 T 0) T.armed T.kept T.dead by
        rw [hN]
        exact HA3.out.congr (fun i _ => by simp [s1]) (fun i _ => by simp [s2]))
      clear hgo d3 hf3 i3 c3 hT hN
      go_wp2_with fail
      go_loopw [4] (fun v wr => ∃ k : Nat, v = .int .i64 k ∧ k ≤ N ∧ Hid (RC wr g b1 b2 N (s1 T k) (s2 T k) T.armed T.kept T.dead) ∧ Hid (Fr (fun i => i = g ∨ i = b1 ∨ i = b2) w wr)) (fun i _ => N - (intOf i).toNat)
      case atStart => exact ⟨0, rfl, by omega, HA0, HF3⟩
      case round =>
        obtain ⟨k, rfl, hk, HRk, HF⟩ := hrel
        obtain ⟨⟨e1, e2, kv4, m1, _⟩, m3, m4, m5⟩ := HRk.out
        have q0 : wr.cell? ⟨g, 0, none⟩ = some (.slice (some ⟨b1, 0, none⟩) N e1) := cell_at m1 0
        by_cases hend : k = N
        · subst hend
          clear m1 m3 m4 m5
          go_wp2_with fail
          go_ret
          rw [HE.out]
          refine ⟨rfl, ⟨b1, b2, ?_, Or.inl rfl, Or.inl rfl⟩, HF.out⟩
          unfold RA
          rw [becomes_image_n HO3.out, ← HNN.out]
          refine HRk.out.congr (fun i hi => ?_) (fun i hi => ?_)
          · rw [s1, if_pos hi]; exact (image_piece HO3.out i).symm
          · rw [s2, if_pos hi]; rfl
        · have hk' : k < N := by omega
          have HSEC := hid (rsector_c wr.drew g b1 b2 N T.armed _ _ T.kept T.dead (HRk.out.stay (Fr.refl _ _).drew) hn k hk')
          have hx : (if s2 T k k = [] then s1 T k k else s2 T k k) = sec T k := by
            simp only [s1, s2, Nat.lt_irrefl, if_false]
            exact sec_uns HO3.out k
          rw [hx] at HSEC
          obtain ⟨y, hy⟩ : ∃ y, y = sec T k := ⟨_, rfl⟩
          rw [← hy] at HSEC
          have q1 := m3.cell hk'
          have q2 := m3.frozen k
          have HR1 := hid (RC.stay (HRk.out.put1 hk' y) (Fr.refl _ _).drew)
          obtain ⟨⟨e12, e22, kv42, m12, _⟩, m32, m42, _⟩ := HR1.out
          have q3 : ((wr.setCell ⟨b1, k, none⟩ (.string (bs y))).drew).cell? ⟨g, 1, none⟩ = some (.slice (some ⟨b2, 0, none⟩) N e22) := cell_at m12 1
          have q4 := m42.cell hk'
          have q5 := m42.frozen k
          have HR2 := hid (HR1.out.put2 hk' [])
          have HFy := hid ((HF.out.trans (fr_set1 wr b1 k (.string (bs y))).drew (fun i _ e => Or.inr (Or.inl e))).trans (fr_set1 _ b2 k (.string (bs []))) (fun i _ e => Or.inr (Or.inr e)))
          have HY := hid hy
          clear m1 m3 m4 m5 hend hx hy m12 m32 m42
          go_wp2_with fail
          go_region_with (go_at_call 47; refine HSEC.out.mono ?_; rintro e w5 ⟨rfl, rfl⟩)
          all_goals (
            go_wp2_with fail
            first | go_roundw | skip
            case measure => simp [intOf]; omega
            exact ⟨k + 1, rfl, by omega, hid (HR2.out.congr (fun i _ => by rw [HY.out]; exact s1_next T k i) (fun i _ => s2_next T k i)), HFy⟩)

end Go.Proofs.YtjkhcfdflcndkaaGreat.D

/-
  The document's disk: Read. No condition beyond the disk's own.
-/
namespace Go.Proofs.YtjkhcfdflcndkaaGreat.D
open Go.RowKit Go.Maps Go.Shelf
set_option linter.unusedVariables false
set_option linter.unusedSimpArgs false

def RReadC (w : World) (g : Nat) (s : St) (a c : Int) : Prop :=
  Calls Tryz.prog 98 #[.pointer (some ⟨g, 0, none⟩), .int .i64 a, .int .i64 c] w fun e w' =>
      e = .returned (.tuple #[.string (bs (s.read a c).1), .int .i64 (s.read a c).2]) ∧ Fr (fun _ => False) w w'

set_option maxRecDepth 100000 in
theorem rread_dead (w : World) (g b1 b2 : Nat) (s : St) (h : RA w g b1 b2 s) (a c : Int) (hd : s.dead = true) : RReadC w g s a c := by
  have HE := hid (show s.read a c = ([], 2) by rw [St.read, if_pos hd])
  obtain ⟨⟨c1, c2, kv', h1, h2⟩, _⟩ := h
  have c4 : w.cell? ⟨g, 4, none⟩ = some (.bool true) := hd ▸ cell_at h1 4
  clear h1 h2 hd
  unfold RReadC
  rw [HE.out]
  go_enter Tryz.func98, Tryz.ntmps98
  go_wp2
  go_ret2
  exact ⟨rfl, Fr.refl _ _⟩

set_option maxRecDepth 100000 in
theorem rread_at (w : World) (g b1 b2 : Nat) (s : St) (h : RA w g b1 b2 s) (hs : s.Ok) (a c : Int) (ha : -9223372036854775808 ≤ a) (ha2 : a ≤ 9223372036854775807) (hd : s.dead = false)
    (hat : a < 0 ∨ c < 0 ∨ (s.n : Int) < a ∨ (s.n : Int) - a < c) : RReadC w g s a c := by
  have HE := hid (show s.read a c = ([], 171) by rw [St.read, if_neg (by simp [hd]), if_pos hat])
  obtain ⟨⟨c1, c2, kv', h1, h2⟩, _⟩ := h
  have c4 : w.cell? ⟨g, 4, none⟩ = some (.bool false) := hd ▸ cell_at h1 4
  have c0 : w.cell? ⟨g, 0, none⟩ = some (.slice (some ⟨b1, 0, none⟩) s.n c1) := cell_at h1 0
  have hn : s.n ≤ 4096 := hs.n2
  have hn0 : 0 < s.n := hs.n1
  obtain ⟨N, hN⟩ : ∃ N, N = s.n := ⟨_, rfl⟩
  rw [← hN] at c0 hn hn0 hat
  clear h1 h2 hs hd hN
  unfold RReadC
  rw [HE.out]
  by_cases a0 : a < 0
  · clear hat
    go_enter Tryz.func98, Tryz.ntmps98
    go_wp2
    go_ret2
    exact ⟨rfl, Fr.refl _ _⟩
  by_cases c0' : c < 0
  · clear hat
    go_enter Tryz.func98, Tryz.ntmps98
    go_wp2
    go_ret2
    exact ⟨rfl, Fr.refl _ _⟩
  by_cases a1 : (N : Int) < a
  · clear hat
    go_enter Tryz.func98, Tryz.ntmps98
    go_wp2
    go_ret2
    exact ⟨rfl, Fr.refl _ _⟩
  · have a2 : (N : Int) - a < c := by omega
    clear hat
    go_enter Tryz.func98, Tryz.ntmps98
    go_wp2
    go_ret2
    exact ⟨rfl, Fr.refl _ _⟩

set_option maxRecDepth 100000 in
theorem own_str {w : World} {B n cap : Nat} {a : Option Addr} {l : List UInt8} (h : w.ownsRow B 5 1 (.slice a l.length cap) l.length (bytesOf l)) :
    (convert 60 9 (.slice a l.length cap)).run Tryz.prog w = .ok (.string (bs l)) w := by
  rcases h.2 with ⟨h0, h1⟩ | ⟨b', cap2, cur, h0, _, hb1, _, _, _, ht⟩
  · have e0 : l = [] := List.eq_nil_of_length_eq_zero h1
    injection h0 with h2 h3 h4
    subst h2
    rw [e0, run_convert_bytes_string w 60 9 5 none _ cap Tryz.underlying60 Tryz.underlying5 Tryz.underlying9]
    have hb0 : (Conv.bytesToString (Value.slice none 0 cap)).run Tryz.prog w = .ok (.string (bs [])) w := by
      simp [Conv.bytesToString, loadCells, loadCellsFrom]
      try rfl
    simpa using hb0
  · injection h0 with h2 h3 h4
    subst h2
    refine run_convert_bytes_back w 60 9 5 ⟨b', 0, none⟩ cap l Tryz.underlying60 Tryz.underlying5 Tryz.underlying9 (fun j hj => ?_)
    exact h.cells (g := b') rfl j _ (by simp [bytesOf, hj])

set_option maxHeartbeats 4000000 in
set_option maxRecDepth 100000 in
theorem rread_go (w : World) (g b1 b2 : Nat) (s : St) (h : RA w g b1 b2 s) (hs : s.Ok) (A C : Nat) (hd : s.dead = false) (hat : A + C ≤ s.n) : RReadC w g s A C := by
  have HE := hid (show s.read A C = (cat (fun i => sec s (A + i)) C, 0) by rw [St.read, if_neg (by simp [hd]), if_neg (by omega)]; rfl)
  have HA := hid h
  have HS := hid hs
  obtain ⟨⟨c1, c2, kv', h1, h2⟩, _⟩ := h
  have c4 : w.cell? ⟨g, 4, none⟩ = some (.bool false) := hd ▸ cell_at h1 4
  have c0 : w.cell? ⟨g, 0, none⟩ = some (.slice (some ⟨b1, 0, none⟩) s.n c1) := cell_at h1 0
  have hn : s.n ≤ 4096 := hs.n2
  have hn0 : 0 < s.n := hs.n1
  obtain ⟨N, hN⟩ : ∃ N, N = s.n := ⟨_, rfl⟩
  rw [← hN] at c0 hn hn0 hat
  have HNN := hid hN
  have d1 : decide ((A : Int) < 0) = false := decide_eq_false (by omega)
  have d2 : decide (N < A) = false := decide_eq_false (by omega)
  have d3 : decide ((N : Int) - A < C) = false := decide_eq_false (by omega)
  have d4 : decide ((C : Int) < 0) = false := decide_eq_false (by omega)
  have b2' : (C : Int) ≤ (N : Int) - A := by omega
  obtain ⟨i0, hi, hz0, hz1, hz2⟩ := info_parts (show (Tryz.prog.info? 5).map (fun i => (i.zero, i.size, i.bytes)) = some (some (.int .u8 0), 1, 1) by kernel_rfl)
  have HB0 := hid (show Below w.heap.size w (w.alloc (.cells #[] 5)) from (Below.refl _ w).alloc (Nat.le_refl _) _)
  have HO0 := hid (World.ownsRow_made (base := w.heap.size) (e := 5) (size := 1) w #[] 0 (Nat.le_refl _) (Nat.zero_le _) (by simp))
  obtain ⟨f, hf⟩ : ∃ f : Nat → List UInt8, f = fun i => sec s (A + i) := ⟨_, rfl⟩
  have HFE := hid hf
  rw [← hf] at HE
  have HFL := hid (show ∀ i, i < C → (f i).length ≤ 64 from fun i hi => by
    rw [hf]
    simp only [sec]
    cases hu : s.un (A + i) with
    | none => exact piece_le _ _
    | some l => exact Nat.le_of_eq (HS.out.un _ l hu).2)
  clear h1 h2 hs hd hN hf
  unfold RReadC
  rw [HE.out]
  go_enter Tryz.func98, Tryz.ntmps98
  go_wp2_with fail
  go_loopw [8, 9] (fun v i wr => ∃ (k : Nat) (a : Option Addr) (cap : Nat), i = .int .i64 k ∧ k ≤ C ∧ v = .slice a (cat f k).length cap ∧
      Hid (wr.ownsRow w.heap.size 5 1 (.slice a (cat f k).length cap) (cat f k).length (bytesOf (cat f k))) ∧ Hid (Below w.heap.size w wr)) (fun _ i _ => C - (intOf i).toNat)
  case atStart => exact ⟨0, some ⟨w.heap.size, 0, none⟩, 0, rfl, by omega, rfl, HO0, HB0⟩
  case round =>
    obtain ⟨k, a, cap, rfl, hk, rfl, HO, HW⟩ := hrel
    have hlen := cat_len f 64 k (fun i hi => HFL.out i (by omega))
    by_cases hend : k = C
    · subst hend
      have hback := own_str (n := 0) HO.out
      go_wp2_with fail
      go_ret2
      exact ⟨rfl, below_fr HW.out (Nat.le_refl _)⟩
    · have hk' : k < C := by omega
      have HRr := hid (RC.below HA.out (Nat.le_refl _) HW.out)
      have HSEC := hid (rsector_c wr g b1 b2 s.n s.armed _ _ s.kept s.dead HRr.out HS.out.n2 (A + k) (by rw [← HNN.out]; omega))
      rw [sec_uns HS.out, show sec s (A + k) = f k by rw [HFE.out]] at HSEC
      have e3 : (((A + k : Nat)) : Int) = (A : Int) + k := by omega
      rw [e3] at HSEC
      have hl2 := HFL.out k hk'
      obtain ⟨y, hy⟩ : ∃ y, y = f k := ⟨_, rfl⟩
      rw [← hy] at hl2 HSEC
      have hz : (bs y).size = y.length := by simp [bs, ByteArray.size]
      have hbl : w.heap.size ≤ wr.heap.size := HW.out.size
      obtain ⟨v', w2, hrun, hown2, hgr2, hnil⟩ := Lib.run_append_own_string (P := Tryz.prog) wr w.heap.size 60 9 60 5 i0 Tryz.underlying60 Tryz.underlying9 hi hz0 hz1 hz2
        (.slice a (cat f k).length cap) (cat f k).length (bytesOf (cat f k)) HO.out (bs y) (by rw [hz]; unfold maxLen; omega) (by rw [hz]; omega) hbl
      have HW2 := hid (HW.out.grown hgr2 hbl (fun b hb => (HO.out.lt b hb).1))
      have e1 : cat f (k + 1) = cat f k ++ y := by rw [cat_succ, hy]
      have e2 : (cat f (k + 1)).length = (cat f k).length + (bs y).size := by rw [e1, hz]; simp
      have e3 : bytesOf (cat f (k + 1)) = bytesOf (cat f k) ++ Lib.strCells (bs y) := by rw [e1]; simp [bytesOf, Lib.strCells]
      have E := hid (And.intro e2 e3)
      obtain ⟨a', cap', rfl⟩ : ∃ a' cap', v' = .slice a' ((cat f k).length + (bs y).size) cap' := by
        rcases hown2.2 with ⟨h0, h1⟩ | ⟨b', cap2, cur, h0, _⟩
        · exact ⟨none, 0, by rw [h0, h1]⟩
        · exact ⟨_, _, h0⟩
      have HO2 := hid hown2
      have ex3 : IntKind.i64.wrap ((A : Int) + k) = (A : Int) + k := by rw [IntKind.wrap_i64]; omega
      clear hend e1 hy hown2 hgr2 e2 e3 hnil hz HRr
      go_wp2_with fail
      refine HSEC.out.mono ?_
      rintro e w5 ⟨rfl, rfl⟩
      go_wp2_with (at_builtin; refine wpList_append_run rfl (.tmp 46) (.tmp 51) 60 9 rfl _ _ _ _ rfl rfl hrun ?_)
      go_wp2_with fail
      all_goals (
        first | go_roundw | skip
        case measure => simp [intOf]; omega
        obtain ⟨e2, e3⟩ := E.out
        refine ⟨k + 1, a', cap', rfl, by omega, by rw [e2]; simp [bs, ByteArray.size], hid (by rw [e2, e3]; exact HO2.out), HW2⟩)

theorem rread_c (w : World) (g b1 b2 : Nat) (s : St) (h : RA w g b1 b2 s) (hs : s.Ok) (a c : Int) (ha : -9223372036854775808 ≤ a) (ha2 : a ≤ 9223372036854775807) : RReadC w g s a c := by
  cases hd : s.dead with
  | true => exact rread_dead w g b1 b2 s h a c hd
  | false =>
    by_cases hat : a < 0 ∨ c < 0 ∨ (s.n : Int) < a ∨ (s.n : Int) - a < c
    · exact rread_at w g b1 b2 s h hs a c ha ha2 hd hat
    · obtain ⟨A, rfl⟩ : ∃ A : Nat, a = A := ⟨a.toNat, by omega⟩
      obtain ⟨C, rfl⟩ : ∃ C : Nat, c = C := ⟨c.toNat, by omega⟩
      exact rread_go w g b1 b2 s h hs A C hd (by omega)

end Go.Proofs.YtjkhcfdflcndkaaGreat.D

/-
  Both disks in one memory. No condition.
-/
namespace Go.Proofs.YtjkhcfdflcndkaaGreat.D
open Go.RowKit Go.Maps Go.Shelf
set_option linter.unusedVariables false
set_option linter.unusedSimpArgs false

theorem other_cells {w : World} {b c : Nat} {x y : Array Value} {T U : TypeId} (h1 : w.heap[b]? = some (.cells x T)) (h2 : w.heap[c]? = some (.cells y U)) (hT : T ≠ U) : b ≠ c := by
  rintro rfl
  rw [h1] at h2
  injection h2 with h2
  injection h2 with _ e
  exact hT e

theorem rcells_apart {w : World} {m b1 b2 b : Nat} {s : St} {c : Array Value} {T : TypeId} (h : RA w m b1 b2 s) (hb : w.heap[b]? = some (.cells c T)) (hT : T ≠ 84) (hT2 : T ≠ 9) : ¬ (b = m ∨ b = b1 ∨ b = b2) := by
  obtain ⟨⟨c1, c2, kv, h1, _⟩, ⟨x, h3, _⟩, ⟨y, h4, _⟩, _⟩ := h
  rintro (e | e | e)
  · exact other_cells hb h1 hT e
  · exact other_cells hb h3 hT2 e
  · exact other_cells hb h4 hT2 e

/-- The document's disk stays while the program's turns. -/
theorem RC.beside {w w' : World} {g bm m b1 b2 : Nat} {s r : St} (h : RA w m b1 b2 r) (hd : At w g bm s) (hf : Fr (fun i => i = g ∨ i = bm) w w') : RA w' m b1 b2 r := by
  obtain ⟨⟨c1, c2, kv, h1, hi⟩, h3, h4, h5⟩ := h
  refine ⟨⟨c1, c2, kv, hf.at h1 (cells_apart hd h1 (by decide)), hi.beside hd hf⟩, ?_, ?_, h5⟩
  · obtain ⟨x, h3, hx⟩ := h3
    exact ⟨x, hf.at h3 (cells_apart hd h3 (by decide)), hx⟩
  · obtain ⟨x, h3, hx⟩ := h4
    exact ⟨x, hf.at h3 (cells_apart hd h3 (by decide)), hx⟩

/-- The program's disk stays while the document's turns. -/
theorem At.besideR {w w' : World} {g bm m b1 b2 : Nat} {s r : St} (hd : At w g bm s) (h : RA w m b1 b2 r) (hf : Fr (fun i => i = m ∨ i = b1 ∨ i = b2) w w') : At w' g bm s := by
  have hd' := hd
  obtain ⟨⟨kv, a1, _⟩, mm, D, ⟨es, clock, a2, _⟩, _⟩ := hd'
  refine hd.keep hf (rcells_apart h a1 (by decide) (by decide)) ?_ (fun b cur hb => rcells_apart h hb (by decide) (by decide))
  obtain ⟨⟨c1, c2, kv', h1, _⟩, ⟨x, h3, _⟩, ⟨y, h4, _⟩, _⟩ := h
  rintro (e | e | e)
  · subst e; rw [h1] at a2; cases a2
  · subst e; rw [h3] at a2; cases a2
  · subst e; rw [h4] at a2; cases a2

structure DJ (W w : World) (g bm m b1 b2 N : Nat) (S R : St) : Prop where
  at_ : At w g bm S
  ra : RA w m b1 b2 R
  ok : S.Ok
  rok : R.Ok
  n : S.n = N ∧ R.n = N
  fr : Fr (fun _ => False) W w
  low : W.heap.size ≤ g ∧ W.heap.size ≤ bm ∧ W.heap.size ≤ m ∧ W.heap.size ≤ b1 ∧ W.heap.size ≤ b2

theorem DJ.stay {W w w' : World} {g bm m b1 b2 N : Nat} {S R : St} (h : DJ W w g bm m b1 b2 N S R) (hf : Fr (fun _ => False) w w') : DJ W w' g bm m b1 b2 N S R :=
  ⟨h.at_.stay hf, RC.stay h.ra hf, h.ok, h.rok, h.n, h.fr.trans hf (fun _ _ f => f), h.low⟩
theorem DJ.d {W w w' : World} {g bm bm' m b1 b2 N : Nat} {S S' R : St} (h : DJ W w g bm m b1 b2 N S R) (hA : At w' g bm' S') (hb : bm' = bm ∨ w.heap.size ≤ bm') (hf : Fr (fun i => i = g ∨ i = bm) w w') (hok : S'.Ok) (hn : S'.n = S.n) : DJ W w' g bm' m b1 b2 N S' R := by
  have hs := h.fr.size
  have hl := h.low
  exact ⟨hA, RC.beside h.ra h.at_ hf, hok, h.rok, ⟨hn.trans h.n.1, h.n.2⟩, h.fr.trans hf (fun i hi e => by rcases e with e | e <;> omega), ⟨hl.1, by rcases hb with hb | hb <;> omega, hl.2.2⟩⟩
theorem DJ.r {W w w' : World} {g bm m b1 b2 N : Nat} {S R R' : St} (h : DJ W w g bm m b1 b2 N S R) (hT : RTurn w m b1 b2 R' w') (hok : R'.Ok) (hn : R'.n = R.n) : ∃ b1' b2', DJ W w' g bm m b1' b2' N S R' := by
  obtain ⟨⟨b1', b2', hR, l1, l2⟩, hf⟩ := hT
  have hs := h.fr.size
  have hl := h.low
  exact ⟨b1', b2', h.at_.besideR h.ra hf, hR, h.ok, hok, ⟨h.n.1, hn.trans h.n.2⟩, h.fr.trans hf (fun i hi e => by rcases e with e | e | e <;> omega), ⟨hl.1, hl.2.1, hl.2.2.1, by rcases l1 with l1 | l1 <;> omega, by rcases l2 with l2 | l2 <;> omega⟩⟩

/-- A third disk turns. -/
theorem DJ.other {W w w' : World} {g bm m b1 b2 N g0 bm0 : Nat} {S R S0 : St} (h : DJ W w g bm m b1 b2 N S R) (h0 : At w g0 bm0 S0) (hf : Fr (fun i => i = g0 ∨ i = bm0) w w') (n1 : g ≠ g0) (n2 : bm ≠ bm0) (l0 : W.heap.size ≤ g0 ∧ W.heap.size ≤ bm0) : DJ W w' g bm m b1 b2 N S R :=
  ⟨h.at_.beside h0 hf n1 n2, RC.beside h.ra h0 hf, h.ok, h.rok, h.n, h.fr.trans hf (fun i hi e => by rcases e with e | e <;> omega), h.low⟩

theorem RAt.ra {w : World} {B g : Nat} {l : List UInt8} (hl : IsImage l) (h : RAt w B g { safe := chunks l (l.length / 64), written := List.replicate (l.length / 64) [], armed := 0, kept := [], dead := false }) :
    ∃ b1 b2, RA w g b1 b2 (news l) ∧ B ≤ g ∧ B ≤ b1 ∧ B ≤ b2 := by
  obtain ⟨h0, sv, wv, kv, h1, h2, h3, h4, h5⟩ := h
  obtain ⟨l1, l2, l3⟩ := hl
  obtain ⟨n, hn⟩ : ∃ n, n = l.length / 64 := ⟨_, rfl⟩
  have hnn : (news l).n = n := hn.symm
  rw [← hn] at h2 h3
  simp only [show (chunks l n).length = n by simp [chunks], List.length_replicate] at h2 h3
  obtain ⟨b1, c1, rfl⟩ := Joins.ownsRow_form h2 (by omega)
  obtain ⟨b2, c2, rfl⟩ := Joins.ownsRow_form h3 (by omega)
  refine ⟨b1, b2, ⟨⟨c1, c2, kv, by rw [hnn]; exact h1, h5⟩, ?_, ?_, fun e => h4 b1 rfl (by rw [e]; rfl)⟩, h0, (h2.lt b1 rfl).1, (h3.lt b2 rfl).1⟩
  · rw [hnn]
    refine RowP.of_own h2 (fun i hi => ?_)
    simp [strs, chunks, hi, chunk, piece, news]
  · rw [hnn]
    refine RowP.of_own h3 (fun i hi => ?_)
    simp [strs, hi, uns, news]

/-- A row of numbers that a call owns. -/
theorem own_ints {w : World} {B n cap : Nat} {a : Option Addr} {L : List Nat} (hl : n = L.length) (hn : n ≤ 4096) (h : w.ownsRow B 3 1 (.slice a n cap) n (ivals L)) : IntsV w (.slice a n cap) (L.map (fun (i : Nat) => (i : Int))) := by
  have hm : (L.map (fun (i : Nat) => (i : Int))).length = n := by simp [hl]
  refine ⟨a, cap, by rw [hm], by rw [hm]; omega, ?_⟩
  rcases h.2 with ⟨h0, h1⟩ | ⟨b, c, cur, h0, _⟩
  · left
    have : L = [] := List.eq_nil_of_length_eq_zero (by omega)
    rw [this]; rfl
  · right
    injection h0 with h0 _ _
    subst h0
    refine ⟨b, 0, rfl, fun j hj => ?_⟩
    rw [hm] at hj
    have := h.cells (g := b) rfl j (.int .i64 (L.getD j 0)) (by simp [ivals, List.getD_eq_getElem?_getD, List.getElem?_eq_getElem (show j < L.length by omega)])
    have e1 : (⟨b, 0, none⟩ : Addr).add j = ⟨b, 0 + j, none⟩ := by unfold Addr.add; split <;> simp_all
    rw [e1] at this
    rw [this]
    simp [List.getD_eq_getElem?_getD, List.getElem?_eq_getElem (show j < L.length by omega)]

theorem runsafe_v (w : World) (m b1 b2 : Nat) (S : St) (h : RA w m b1 b2 S) (hs : S.Ok) :
    Calls Tryz.prog 18 #[.pointer (some ⟨m, 0, none⟩)] w fun e w' => ∃ v, e = .returned v ∧ IntsV w' v (S.unl.map (fun (i : Nat) => (i : Int))) ∧ Fr (fun _ => False) w w' := by
  refine (runsafe_c w m b1 b2 S.n S.armed _ _ S.kept S.dead h hs.n2).mono ?_
  rintro e w' ⟨a, cap, rfl, hO, hB⟩
  have hle := ul_le (uns S) S.n
  rw [ul_unl hs] at hO hle ⊢
  exact ⟨_, rfl, own_ints rfl (by have := hs.n2; omega) hO, below_fr hB (Nat.le_refl _)⟩

end Go.Proofs.YtjkhcfdflcndkaaGreat.D
