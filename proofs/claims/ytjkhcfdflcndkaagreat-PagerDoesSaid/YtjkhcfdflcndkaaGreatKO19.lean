/-
  The document's disk: Crash, Arm, Same. No condition beyond the disk's own.
-/
import Derived.Test.YtjkhcfdflcndkaaGreatKO18
namespace Go.Proofs.YtjkhcfdflcndkaaGreat.D
open Go.RowKit Go.Maps Go.Shelf
set_option linter.unusedVariables false
set_option linter.unusedSimpArgs false

/-- The document's disk turns into S. -/
def RTurn (w : World) (g b1 b2 : Nat) (S : St) (w' : World) : Prop :=
  (∃ b1' b2', RA w' g b1' b2' S ∧ (b1' = b1 ∨ w.heap.size ≤ b1') ∧ (b2' = b2 ∨ w.heap.size ≤ b2')) ∧ Fr (fun i => i = g ∨ i = b1 ∨ i = b2) w w'

theorem RTurn.self {w : World} {g b1 b2 : Nat} {S : St} (h : RA w g b1 b2 S) : RTurn w g b1 b2 S w := ⟨⟨b1, b2, h, Or.inl rfl, Or.inl rfl⟩, Fr.refl _ _⟩

theorem rcrash_c (w : World) (g b1 b2 : Nat) (S : St) (h : RA w g b1 b2 S) (hs : S.Ok) (kv : Value) (ks : List Int) (hk : IntsV w kv ks) :
    Calls Tryz.prog 32 #[.pointer (some ⟨g, 0, none⟩), kv] w fun e w' => e = .returned (.int .i64 (S.crash ks).2) ∧ RTurn w g b1 b2 (S.crash ks).1 w' := by
  have HD := hid (rdie_c w g b1 b2 S h hs kv ks hk)
  have HR := hid h
  obtain ⟨⟨c1, c2, kv', h1, h2⟩, _⟩ := h
  cases hd : S.dead with
  | true =>
    have HE := hid (show S.crash ks = (S, 2) by rw [St.crash, if_pos hd])
    have k4 : w.cell? ⟨g, 4, none⟩ = some (.bool true) := hd ▸ cell_at h1 4
    clear h1 h2 hd hs hk
    rw [HE.out]
    go_enter Tryz.func32, Tryz.ntmps32
    go_wp2_with fail
    go_ret
    exact ⟨rfl, RTurn.self HR.out⟩
  | false =>
    have HE := hid (show S.crash ks = (S.dies ks, 0) by rw [St.crash, if_neg (by simp [hd])])
    have k4 : w.cell? ⟨g, 4, none⟩ = some (.bool false) := hd ▸ cell_at h1 4
    clear h1 h2 hd hs hk
    rw [HE.out]
    go_enter Tryz.func32, Tryz.ntmps32
    go_wp2_with fail
    refine HD.out.mono ?_
    rintro e w2 ⟨rfl, ⟨b1', b2', hR, l1, l2⟩, hf⟩
    have HQ := hid (show RTurn w g b1 b2 (S.dies ks) w2 from ⟨⟨b1', b2', hR, Or.inr l1, Or.inr l2⟩, hf.mono (fun _ _ e => Or.inl e)⟩)
    clear hR hf l1 l2
    go_wp2_with fail
    go_ret
    exact ⟨rfl, HQ.out⟩

/-- Numbers appended onto a new, empty row. -/
theorem append_ints (w : World) (kv : Value) (ks : List Int) (hk : IntsV w kv ks) (hkl : ks.length * 8 ≤ 140737488355328) :
    ∃ v' w', (Builtin.append_ #[38, 38] 38 #[.slice (some ⟨w.heap.size, 0, none⟩) 0 0, kv]).run Tryz.prog (w.alloc (.cells #[] 3)) = .ok v' w' ∧ IntsAt w' v' ks ∧ (∃ a n c, v' = .slice a n c) ∧ Fr (fun _ => False) w w' := by
  obtain ⟨i0, hi, hz0, hz1, hz2⟩ := info_parts (show (Tryz.prog.info? 3).map (fun i => (i.zero, i.size, i.bytes)) = some (some (.int .i64 0), 1, 8) by kernel_rfl)
  have hF0 : Fr (fun _ => False) w (w.alloc (.cells #[] 3)) := (Fr.refl _ w).alloc _
  obtain ⟨a, cap, rfl, hlen, hr⟩ := hk.stay hF0
  have hown := World.ownsRow_made (base := w.heap.size) (e := 3) (size := 1) w #[] 0 (Nat.le_refl _) (Nat.zero_le _) (by simp)
  have fin : ∀ (ad : Addr), a = some ad → (∀ j u, (ks.map (Value.int .i64))[j]? = some u → (w.alloc (.cells #[] 3)).cell? (ad.add j) = some u) →
      ∃ v' w', (Builtin.append_ #[38, 38] 38 #[.slice (some ⟨w.heap.size, 0, none⟩) 0 0, .slice (some ad) ks.length cap]).run Tryz.prog (w.alloc (.cells #[] 3)) = .ok v' w' ∧ IntsAt w' v' ks ∧ (∃ a n c, v' = .slice a n c) ∧ Fr (fun _ => False) w w' := by
    intro ad _ hcell
    obtain ⟨v', w2, hrun, hown2, hgr2, hnil⟩ := run_append_own (P := Tryz.prog) (w.alloc (.cells #[] 3)) w.heap.size 38 38 3 i0 (.int .i64 0) 1 8 Tryz.underlying38 hi hz0 hz1 hz2 rfl (by decide)
      (.slice (some ⟨w.heap.size, 0, none⟩) 0 0) 0 [] hown ad ks.length cap (ks.map (Value.int .i64)) (by simp) hcell (by
        intro u hu
        obtain ⟨x, _, rfl⟩ := List.mem_map.1 hu
        rfl) (by unfold maxLen; omega) (by omega) (by simp)
    refine ⟨v', w2, hrun, ?_, ?_, hF0.grown hgr2 (by intro k hk hl; simp [Value.ownBlock] at hk; omega)⟩
    · rw [Nat.zero_add, List.nil_append] at hown2
      rcases hown2.2 with ⟨h0, _⟩ | ⟨b2, cap2, cur, rfl, hb1, hb2, hb3, hb4, hb5, hb6⟩
      · exact absurd (hnil.1 h0).1 (by simp)
      · refine ⟨some ⟨b2, 0, none⟩, cap2, rfl, hlen, Or.inr ⟨b2, 0, cur, rfl, hb2, fun j hj => ?_⟩, fun x hx => by cases hx; rfl⟩
        have h5 : (cur.toList.take (ks.length * 1))[j]? = (ks.map (Value.int .i64))[j]? := by rw [hb6]
        rw [List.getElem?_take_of_lt (by omega)] at h5
        rw [Nat.zero_add]
        have h6 : cur[j]? = cur.toList[j]? := by simp
        rw [h6, h5]
        simp [hj, List.getD_eq_getElem?_getD]
    · rcases hown2.2 with ⟨h0, _⟩ | ⟨b2, cap2, cur, rfl, _⟩
      · exact ⟨_, _, _, h0⟩
      · exact ⟨_, _, _, rfl⟩
  cases a with
  | some ad =>
    refine fin ad rfl ?_
    rcases hr with hr | ⟨b, o, e0, h5⟩
    · subst hr
      intro j u hj
      simp at hj
    · injection e0 with e0
      subst e0
      intro j u hj
      have hj' : j < ks.length := by have := (List.getElem?_eq_some_iff.1 hj).1; simpa using this
      have e1 : (⟨b, o, none⟩ : Addr).add j = ⟨b, o + j, none⟩ := by unfold Addr.add; split <;> simp_all
      rw [e1, h5 j hj']
      simp [hj'] at hj
      rw [← hj]
      simp [List.getD_eq_getElem?_getD, hj']
  | none =>
    have hk0 : ks = [] := by
      rcases hr with hr | ⟨b, o, e, _⟩
      · exact hr
      · cases e
    subst hk0
    refine ⟨.slice (some ⟨w.heap.size, 0, none⟩) 0 0, w.alloc (.cells #[] 3), ?_, ⟨some ⟨w.heap.size, 0, none⟩, 0, rfl, by simp, Or.inl rfl, fun x hx => by cases hx; rfl⟩, ⟨_, _, _, rfl⟩, hF0⟩
    have ht := run_underlying (P := Tryz.prog) Tryz.underlying38
    simp [Builtin.append_, ht, sizeOf, typeInfo, hi, Builtin.lenOf, Builtin.firstCells, loadCells, loadCellsFrom, storeCells]

set_option maxHeartbeats 4000000 in
theorem rarm_c (w : World) (g b1 b2 : Nat) (S : St) (h : RA w g b1 b2 S) (hs : S.Ok) (n : Int) (hn1 : -9223372036854775808 ≤ n) (hn : n ≤ 9223372036854775807) (kv : Value) (ks : List Int) (hk : IntsV w kv ks) (hkl : ks.length * 8 ≤ 140737488355328)
    (hkg : ks ≠ [] → ∀ a m c, kv = .slice (some a) m c → a.block ≠ g) :
    Calls Tryz.prog 30 #[.pointer (some ⟨g, 0, none⟩), .int .i64 n, kv] w fun e w' => e = .returned (.int .i64 (S.arm n ks).2) ∧ RTurn w g b1 b2 (S.arm n ks).1 w' := by
  have HR := hid h
  obtain ⟨⟨c1, c2, kv', h1, h2⟩, _⟩ := h
  have H1 := hid h1
  cases hd : S.dead with
  | true =>
    have HE := hid (show S.arm n ks = (S, 2) by rw [St.arm, if_pos hd])
    have k4 : w.cell? ⟨g, 4, none⟩ = some (.bool true) := hd ▸ cell_at h1 4
    obtain ⟨a, cap, rfl, _⟩ := hk
    clear h1 h2 hd hs hkg
    rw [HE.out]
    go_enter Tryz.func30, Tryz.ntmps30
    go_wp2_with fail
    go_ret
    exact ⟨rfl, RTurn.self HR.out⟩
  | false =>
    have k4 : w.cell? ⟨g, 4, none⟩ = some (.bool false) := hd ▸ cell_at h1 4
    by_cases n0 : n < 0
    · have HE := hid (show S.arm n ks = (S, 1) by rw [St.arm, if_neg (by simp [hd]), if_pos n0])
      obtain ⟨a, cap, rfl, _⟩ := hk
      clear h1 h2 hd hs hkg
      rw [HE.out]
      go_enter Tryz.func30, Tryz.ntmps30
      go_wp2_with fail
      go_ret
      exact ⟨rfl, RTurn.self HR.out⟩
    · have HE := hid (show S.arm n ks = ({ S with armed := n.toNat, kept := ks }, 0) by rw [St.arm, if_neg (by simp [hd]), if_neg n0])
      have hwz : (w.setCell ⟨g, 2, none⟩ (.int .i64 n)).heap.size = w.heap.size := by simp [World.setCell]
      have hk2 : IntsV (w.setCell ⟨g, 2, none⟩ (.int .i64 n)) kv ks := by
        obtain ⟨a, cap, rfl, hlen, hr⟩ := hk
        refine ⟨a, cap, rfl, hlen, ?_⟩
        rcases hr with hr | ⟨b, o, rfl, h5⟩
        · exact Or.inl hr
        · refine Or.inr ⟨b, o, rfl, fun j hj => ?_⟩
          have h6 := h5 j hj
          have hk0 : ks ≠ [] := fun e => by rw [e] at hj; simp at hj
          rw [World.cell?_of_block (w := w) (Below.heap_setCell _ _ _ _ (hkg hk0 _ _ _ rfl))]
          exact h6
      obtain ⟨v', w2, hrun, hi2, ⟨va, vn, vc, rfl⟩, hf2⟩ := append_ints _ kv ks hk2 hkl
      rw [hwz] at hrun
      have d2 := hf2.at (set_at h1 2 (.int .i64 n)) (fun f => f)
      have z2 : w.frozen? ⟨g, 2, none⟩ = false := frozen_at h1 2
      have k2 : w.cell? ⟨g, 2, none⟩ = some (.int .i64 S.armed) := cell_at h1 2
      have z3 : w2.frozen? ⟨g, 3, none⟩ = false := frozen_at d2 3
      have k3 : w2.cell? ⟨g, 3, none⟩ = some kv' := cell_at d2 3
      have D2 := hid d2
      have HI2 := hid hi2
      have HF2 := hid hf2
      obtain ⟨a, cap, rfl, _⟩ := hk
      clear h1 h2 hd hs hkg hi2 hf2 d2 hk2
      rw [HE.out]
      go_enter Tryz.func30, Tryz.ntmps30
      go_wp2_with (at_builtin; refine wpList_append_run rfl (.tmp 18) (.tmp 19) 38 38 rfl _ _ _ _ rfl rfl hrun ?_)
      go_wp2_with fail
      go_ret
      have en : (n : Int) = (n.toNat : Int) := by omega
      have hfa : Fr (· = g) w w2 := (fr_set1 w g 2 (.int .i64 n)).trans HF2.out (fun _ _ f => f.elim)
      have hfb : Fr (· = g) w2 (w2.setCell ⟨g, 3, none⟩ (.slice va vn vc)) := fr_set1 _ _ _ _
      have hfc : Fr (· = g) w (w2.setCell ⟨g, 3, none⟩ (.slice va vn vc)) := hfa.trans hfb (fun _ _ e => e)
      have hR := HR.out
      refine ⟨rfl, ⟨b1, b2, ⟨⟨c1, c2, .slice va vn vc, ?_, HI2.out.keep hfb (fun b cur hb => int_apart D2.out hb (by decide))⟩, hR.safe.keep hfc (rowP_apart hR.safe H1.out (by decide)).symm, hR.writ.keep hfc (rowP_apart hR.writ H1.out (by decide)).symm, hR.ne⟩, Or.inl rfl, Or.inl rfl⟩, hfc.mono (fun _ _ e => Or.inl e)⟩
      rw [set_at D2.out 3 _, en]
      rfl

end Go.Proofs.YtjkhcfdflcndkaaGreat.D

/-
  The document's disk: Write. No condition beyond the disk's own.
-/
namespace Go.Proofs.YtjkhcfdflcndkaaGreat.D
open Go.RowKit Go.Maps Go.Shelf
set_option linter.unusedVariables false
set_option linter.unusedSimpArgs false

theorem ra_step (w : World) (g b1 b2 : Nat) (S : St) (h : RA w g b1 b2 S) (hs : S.Ok) :
    Calls Tryz.prog 93 #[.pointer (some ⟨g, 0, none⟩)] w fun e w' => e = .returned (.bool S.step.2) ∧ RA w' g b1 b2 S.step.1 ∧ Fr (· = g) w w' := by
  refine (rstep_c w g b1 b2 S.n S.armed _ _ S.kept S.dead h hs.armed).mono ?_
  rintro e w' ⟨rfl, hR, hf⟩
  by_cases h0 : S.armed = 0
  · have e1 : S.step = (S, false) := by simp [St.step, h0]
    rw [e1, h0]
    refine ⟨rfl, ?_, hf⟩
    unfold RA
    rw [h0]
    simpa [h0] using hR
  · have e1 : S.step = ({ S with armed := S.armed - 1 }, S.armed == 1) := by simp [St.step, h0]
    rw [e1]
    exact ⟨rfl, hR, hf⟩

theorem ra_wr1 {w : World} {g b1 b2 k : Nat} {S : St} (h : RA w g b1 b2 S) (hk : k < S.n) (l : List UInt8) : RA (w.setCell ⟨b2, k, none⟩ (.string (bs l))) g b1 b2 (S.wr1 k l) := by
  refine (RC.put2 h hk l).congr (fun _ _ => rfl) (fun i hi => ?_)
  simp only [uns, St.wr1]
  by_cases e : i = k
  · simp [e]
  · simp [e]

def RWriteC (w : World) (g b1 b2 : Nat) (s : St) (a : Int) (l : List UInt8) : Prop :=
  Calls Tryz.prog 55 #[.pointer (some ⟨g, 0, none⟩), .int .i64 a, .string (bs l)] w fun e w' =>
      e = .returned (.int .i64 (s.write a l).2) ∧ RTurn w g b1 b2 (s.write a l).1 w'

theorem rwrite_dead (w : World) (g b1 b2 : Nat) (s : St) (h : RA w g b1 b2 s) (a : Int) (l : List UInt8) (hl : l.length ≤ 9223372036854775807) (hd : s.dead = true) : RWriteC w g b1 b2 s a l := by
  have HE := hid (show s.write a l = (s, 2) by rw [St.write, if_pos hd])
  have HA := hid h
  obtain ⟨⟨c1, c2, kv', h1, h2⟩, _⟩ := h
  have c4 : w.cell? ⟨g, 4, none⟩ = some (.bool true) := hd ▸ cell_at h1 4
  clear h1 h2 hd
  unfold RWriteC
  rw [HE.out]
  go_enter Tryz.func55, Tryz.ntmps55
  go_wp2
  go_ret
  exact ⟨rfl, RTurn.self HA.out⟩

theorem rwrite_long (w : World) (g b1 b2 : Nat) (s : St) (h : RA w g b1 b2 s) (a : Int) (l : List UInt8) (hl : l.length ≤ 9223372036854775807) (hd : s.dead = false) (hm : l.length % 64 ≠ 0) : RWriteC w g b1 b2 s a l := by
  have HE := hid (show s.write a l = (s, 172) by rw [St.write, if_neg (by simp [hd]), if_pos hm])
  have HA := hid h
  obtain ⟨⟨c1, c2, kv', h1, h2⟩, _⟩ := h
  have c4 : w.cell? ⟨g, 4, none⟩ = some (.bool false) := hd ▸ cell_at h1 4
  have n2 : ((l.length : Int) % 64 != 0) = true := by simp; omega
  clear h1 h2 hd hm
  unfold RWriteC
  rw [HE.out]
  go_enter Tryz.func55, Tryz.ntmps55
  go_wp2
  go_ret
  exact ⟨rfl, RTurn.self HA.out⟩

theorem rwrite_at (w : World) (g b1 b2 : Nat) (s : St) (h : RA w g b1 b2 s) (hs : s.Ok) (a : Int) (ha : -9223372036854775808 ≤ a) (ha2 : a ≤ 9223372036854775807) (l : List UInt8) (hl : l.length ≤ 9223372036854775807) (hd : s.dead = false) (hm : l.length % 64 = 0)
    (hat : a < 0 ∨ (s.n : Int) < a ∨ (s.n : Int) - a < (l.length / 64 : Nat)) : RWriteC w g b1 b2 s a l := by
  have HE := hid (show s.write a l = (s, 171) by rw [St.write, if_neg (by simp [hd]), if_neg (by simp [hm]), if_pos hat])
  have HA := hid h
  obtain ⟨⟨c1, c2, kv', h1, h2⟩, _⟩ := h
  have c4 : w.cell? ⟨g, 4, none⟩ = some (.bool false) := hd ▸ cell_at h1 4
  have c0 : w.cell? ⟨g, 0, none⟩ = some (.slice (some ⟨b1, 0, none⟩) s.n c1) := cell_at h1 0
  have n2 : (l.length : Int) % 64 = 0 := by omega
  have hn : s.n ≤ 4096 := hs.n2
  have hn0 : 0 < s.n := hs.n1
  obtain ⟨N, hN⟩ : ∃ N, N = s.n := ⟨_, rfl⟩
  rw [← hN] at c0 hn hn0 hat
  clear h1 h2 hs hd hm hN
  unfold RWriteC
  rw [HE.out]
  by_cases a0 : a < 0
  · clear hat
    go_enter Tryz.func55, Tryz.ntmps55
    go_wp2
    go_ret
    exact ⟨rfl, RTurn.self HA.out⟩
  · by_cases a1 : (N : Int) < a
    · clear hat
      go_enter Tryz.func55, Tryz.ntmps55
      go_wp2
      go_ret
      exact ⟨rfl, RTurn.self HA.out⟩
    · have a2 : (N : Int) - a < (l.length : Int) / 64 := by omega
      clear hat
      go_enter Tryz.func55, Tryz.ntmps55
      go_wp2
      go_ret
      exact ⟨rfl, RTurn.self HA.out⟩

set_option maxHeartbeats 4000000 in
set_option maxRecDepth 100000 in
theorem rwrite_go (w : World) (g b1 b2 : Nat) (s : St) (h : RA w g b1 b2 s) (hs : s.Ok) (A : Nat) (l : List UInt8) (hd : s.dead = false) (hm : l.length % 64 = 0)
    (hat : A + l.length / 64 ≤ s.n) : RWriteC w g b1 b2 s A l := by
  have HE := hid (show s.write A l = ((wrs (l.length / 64) A l s).1, errOf (wrs (l.length / 64) A l s).2) by
    rw [St.write, if_neg (by simp [hd]), if_neg (by simp [hm]), if_neg (by omega)]; simp)
  have HA := hid h
  obtain ⟨⟨c1, c2, kv', h1, h2⟩, _⟩ := h
  have c4 : w.cell? ⟨g, 4, none⟩ = some (.bool false) := hd ▸ cell_at h1 4
  have c0 : w.cell? ⟨g, 0, none⟩ = some (.slice (some ⟨b1, 0, none⟩) s.n c1) := cell_at h1 0
  have n2 : ((l.length : Int) % 64 != 0) = false := by simp; omega
  have hn : s.n ≤ 4096 := hs.n2
  have hn0 : 0 < s.n := hs.n1
  obtain ⟨m, hmm⟩ : ∃ m, m = l.length / 64 := ⟨_, rfl⟩
  have n3 : (l.length : Int) / 64 = m := by omega
  have hlm : l.length = 64 * m := by omega
  have HLM := hid hlm
  rw [← hmm] at HE hat
  have HS := hid hs
  obtain ⟨N, hN⟩ : ∃ N, N = s.n := ⟨_, rfl⟩
  rw [← hN] at c0 hn hn0 hat
  have hA4096 : A ≤ 4096 := by omega
  have hlen : l.length ≤ 9223372036854775807 := by omega
  have hm2 : m ≤ 4096 := by omega
  have b1' : (A : Int) ≤ N := by omega
  have b2' : (m : Int) ≤ (N : Int) - A := by omega
  have d1 : decide ((A : Int) < 0) = false := decide_eq_false (by omega)
  have d2 : decide (N < A) = false := decide_eq_false (by omega)
  have d3 : decide ((N : Int) - A < m) = false := decide_eq_false (by omega)
  have HNN := hid hN
  clear h1 h2 hs hd hm hlm hmm hN
  unfold RWriteC
  rw [HE.out]
  go_enter Tryz.func55, Tryz.ntmps55
  go_wp2_with fail
  go_loopw [7, 6] (fun v v6 wr => ∃ k : Nat, v = .int .i64 k ∧ v6 = .int .i64 0 ∧ k ≤ m ∧ ∃ sk : St, Hid (wrs (m - k) (A + k) (l.drop (64 * k)) sk = wrs m A l s) ∧ Hid sk.Ok ∧ Hid (sk.n = s.n) ∧ Hid (RA wr g b1 b2 sk) ∧ Hid (Fr (fun i => i = g ∨ i = b1 ∨ i = b2) w wr)) (fun i _ _ => m - (intOf i).toNat)
  case atStart => exact ⟨0, rfl, rfl, by omega, s, hid (by simp), HS, hid rfl, HA, hid (Fr.refl _ _)⟩
  case round =>
    obtain ⟨k, rfl, rfl, hk, sk, HW, HSK, HN, HAK, HF⟩ := hrel
    by_cases hend : k = m
    · subst hend
      have hw := HW.out
      rw [Nat.sub_self, wrs] at hw
      have HW2 := hid hw
      clear hw
      go_wp2_with fail
      go_ret
      rw [← HW2.out]
      exact ⟨rfl, ⟨b1, b2, HAK.out, Or.inl rfl, Or.inl rfl⟩, HF.out⟩
    · have hk' : k < m := by omega
      obtain ⟨q, hq⟩ : ∃ q, m - k = q + 1 := ⟨m - k - 1, by omega⟩
      have hw := HW.out
      have HQ := hid hq
      rw [hq, wrs_step] at hw
      have h64 : 64 * k + 64 ≤ l.length := by have := HLM.out; omega
      have hl64 : ((l.drop (64 * k)).take 64).length = 64 := by rw [List.length_take, List.length_drop]; omega
      have hAk : A + k < sk.n := by have := HN.out; have := HNN.out; omega
      have hsl := slice_str (P := Tryz.prog) 9 Tryz.underlying9 wr.drew l (64 * (k : Int)) (64 * (k : Int) + 64) (by omega) (by omega) (by omega)
      have e1 : (64 * (k : Int)).toNat = 64 * k := by omega
      have e2 : (64 * (k : Int) + 64).toNat - 64 * k = 64 := by omega
      rw [e1, e2] at hsl
      obtain ⟨⟨d1c, d2c, kv', m1, _⟩, m3, m4, m5⟩ := HAK.out
      have q1 : wr.cell? ⟨g, 1, none⟩ = some (.slice (some ⟨b2, 0, none⟩) N d2c) := by rw [HNN.out, ← HN.out]; exact cell_at m1 1
      have q2 : wr.cell? ⟨b2, A + k, none⟩ = some (.string (bs (uns sk (A + k)))) := m4.cell hAk
      have q3 : wr.frozen? ⟨b2, A + k, none⟩ = false := m4.frozen _
      have hOk2 : (sk.wr1 (A + k) ((l.drop (64 * k)).take 64)).Ok := wr1_ok HSK.out hAk hl64
      obtain ⟨L, hL⟩ : ∃ L, L = (l.drop (64 * k)).take 64 := ⟨_, rfl⟩
      rw [← hL] at hsl hOk2 hw
      have hA2 : RA ((wr.setCell ⟨b2, A + k, none⟩ (.string (bs L))).drew) g b1 b2 (sk.wr1 (A + k) L) := RC.stay (ra_wr1 HAK.out hAk L) (Fr.refl _ _).drew
      have HF2 := hid (HF.out.trans (fr_set1 wr b2 (A + k) (.string (bs L))).drew (fun i _ e => Or.inr (Or.inr e)))
      have HST := hid (ra_step _ g b1 b2 _ hA2 hOk2)
      have HO2 := hid hOk2
      have HW2 := hid hw
      have HLL := hid hL
      have ex1 : IntKind.i64.wrap (64 * (k : Int)) = 64 * (k : Int) := by rw [IntKind.wrap_i64]; omega
      have ex2 : IntKind.i64.wrap (64 * (k : Int) + 64) = 64 * (k : Int) + 64 := by rw [IntKind.wrap_i64]; omega
      have ex3 : IntKind.i64.wrap ((A : Int) + k) = (A : Int) + k := by rw [IntKind.wrap_i64]; omega
      clear hw hL m1 m3 m4 m5 hOk2 hA2 e1 e2 hend hq hl64
      go_wp2_with fail
      go_region
      go_wp2_with fail
      refine HST.out.mono ?_
      rintro e w3 ⟨rfl, hA3, hf3⟩
      have HF3 := hid (HF2.out.trans hf3 (fun i _ e => Or.inl e))
      have HA3 := hid hA3
      have HO3 := hid (step_ok HO2.out)
      obtain ⟨⟨d1c3, d2c3, kv3, d3, i3⟩, _⟩ := hA3
      have c3 : w3.cell? ⟨g, 3, none⟩ = some kv3 := cell_at d3 3
      have hw := HW2.out
      cases hgo : (sk.wr1 (A + k) L).step.2 with
      | true =>
        rw [hgo, if_pos rfl] at hw
        have HW3 := hid hw
        have HDIE := hid (rdie_c w3 g b1 b2 _ HA3.out HO3.out kv3 sk.kept (by rw [step_kept] at i3; exact i3.toV))
        obtain ⟨ka, kc, rfl, _⟩ := i3
        clear hw hgo d3 hf3
        go_wp2_with fail
        refine HDIE.out.mono ?_
        rintro e w4 ⟨rfl, hA4, hf4⟩
        have HA4 := hid hA4
        have HF4 := hid hf4
        clear hA4 hf4
        go_wp2_with fail
        go_ret
        obtain ⟨b1', b2', h41, h42, h43⟩ := HA4.out
        rw [← HW3.out]
        exact ⟨rfl, ⟨b1', b2', h41, Or.inr (Nat.le_trans HF3.out.size h42), Or.inr (Nat.le_trans HF3.out.size h43)⟩, HF3.out.trans HF4.out (fun i _ e => Or.inl e)⟩
      | false =>
        rw [hgo, if_neg (by simp)] at hw
        have HW3 := hid hw
        clear hw hgo d3 hf3 i3 c3
        go_wp2_with fail
        have hs3 : (sk.wr1 (A + k) L).step.1.n = sk.n := step_n _
        have e5 : m - (k + 1) = q := by have := HQ.out; omega
        go_roundw
        case rel =>
          have hw5 : wrs (m - (k + 1)) (A + (k + 1)) (l.drop (64 * (k + 1))) (sk.wr1 (A + k) L).step.1 = wrs m A l s := by
            rw [e5, ← HW3.out, List.drop_drop]
            congr 1
          first
            | exact ⟨k + 1, rfl, rfl, by omega, _, hid hw5, HO3, hid (hs3.trans HN.out), HA3, HF3⟩
            | ((repeat apply Exists.intro); exact ⟨⟨k + 1, rfl, rfl, by omega, _, hid hw5, HO3, hid (hs3.trans HN.out), HA3, HF3⟩, rfl⟩)
        case measure => simp [intOf]; omega

theorem rwrite_c (w : World) (g b1 b2 : Nat) (s : St) (h : RA w g b1 b2 s) (hs : s.Ok) (a : Int) (ha : -9223372036854775808 ≤ a) (ha2 : a ≤ 9223372036854775807) (l : List UInt8) (hl : l.length ≤ 9223372036854775807) : RWriteC w g b1 b2 s a l := by
  cases hd : s.dead with
  | true => exact rwrite_dead w g b1 b2 s h a l hl hd
  | false =>
    by_cases hm : l.length % 64 = 0
    · by_cases hat : a < 0 ∨ (s.n : Int) < a ∨ (s.n : Int) - a < (l.length / 64 : Nat)
      · exact rwrite_at w g b1 b2 s h hs a ha ha2 l hl hd hm hat
      · obtain ⟨A, rfl⟩ : ∃ A : Nat, a = A := ⟨a.toNat, by omega⟩
        exact rwrite_go w g b1 b2 s h hs A l hd hm (by omega)
    · exact rwrite_long w g b1 b2 s h a l hl hd hm

end Go.Proofs.YtjkhcfdflcndkaaGreat.D
