/-
  The document's pager: Commit, whole; Format. No condition beyond the sizes that are named.
-/
import Derived.Test.YtjkhcfdflcndkaaGreatKO28
namespace Go.Proofs.YtjkhcfdflcndkaaGreat.D
open Go.RowKit Go.Maps Go.Shelf
set_option linter.unusedVariables false
set_option linter.unusedSimpArgs false

theorem rpcommit_c (w : World) (q m ub b1 b2 : Nat) (P : PSt) (S : St) (h : RPD w q m ub b1 b2 P S) (hS : S.Ok) (hP : P.Ok S.n) (root fr : Int) (v : Value) (l : List Int) (hv : IntsV w v l)
    (hst : ∀ W, Fr (fun i => i = q ∨ i = m ∨ i = b1 ∨ i = b2) w W → IntsV W v l) : RCommitC w q m ub b1 b2 P S root fr v l := by
  by_cases hno : P.dead = true ∨ P.mayCommit root l = false ∨ fr < 1 ∨ 1152921504606846976 < fr ∨ 1152921504606846976 ≤ P.gen
  · exact rpcommit_pre w q m ub b1 b2 P S h hS hP root fr v l hv hno
  have hd : P.dead = false := by
    cases e : P.dead with
    | true => exact absurd (Or.inl e) hno
    | false => rfl
  have hm : P.mayCommit root l = true := by
    cases e : P.mayCommit root l with
    | false => exact absurd (Or.inr (Or.inl e)) hno
    | true => rfl
  have h1 : 1 ≤ fr := by omega
  have h2 : fr ≤ 1152921504606846976 := by omega
  have h3 : P.gen < 1152921504606846976 := by omega
  rcases rsync_two S with hc1 | hc1
  · have hs1 := sync_ok hS
    have hw : (P.head S.sync.1 root fr).2 = 0 ∨ (P.head S.sync.1 root fr).2 = 2 := by
      unfold PSt.head
      refine write_two (by rw [headB_len]) (by omega) ?_
      rw [headB_len, hs1.2]
      have := hP.area
      have := hP.f2
      omega
    rcases hw with hc2 | hc2
    · rcases rsync_two (P.head S.sync.1 root fr).1 with hc3 | hc3
      · exact rpcommit_go4 w q m ub b1 b2 P S h hS hP root fr v l hv hst hd hm h1 h2 h3 hc1 hc2 hc3
      · exact rpcommit_go3 w q m ub b1 b2 P S h hS hP root fr v l hv hd hm h1 h2 h3 hc1 hc2 hc3
    · exact rpcommit_go2 w q m ub b1 b2 P S h hS hP root fr v l hv hd hm h1 h2 h3 hc1 hc2
  · exact rpcommit_go1 w q m ub b1 b2 P S h hS hP root fr v l hv hd hm h1 h2 h3 hc1

theorem RTurn.pre {w w1 w' : World} {m b1 b2 : Nat} {S : St} (hf : Fr (fun _ => False) w w1) (h : RTurn w1 m b1 b2 S w') : RTurn w m b1 b2 S w' := by
  obtain ⟨⟨c1, c2, h1, h2, h3⟩, h4⟩ := h
  have := hf.size
  exact ⟨⟨c1, c2, h1, by omega, by omega⟩, (fr_no hf).trans h4 (fun _ _ e => e)⟩
theorem RTurn.post {w w1 w' : World} {m b1 b2 : Nat} {S : St} (h : RTurn w m b1 b2 S w1) (hf : Fr (fun _ => False) w1 w') : RTurn w m b1 b2 S w' := by
  obtain ⟨⟨c1, c2, h1, h2, h3⟩, h4⟩ := h
  exact ⟨⟨c1, c2, RC.stay h1 hf, h2, h3⟩, h4.trans hf (fun _ _ f => f.elim)⟩
theorem RTurn.then {w w1 w' : World} {m b1 b2 c1 c2 : Nat} {S : St} (h2 : c1 = b1 ∨ w.heap.size ≤ c1) (h3 : c2 = b2 ∨ w.heap.size ≤ c2) (h4 : Fr (fun i => i = m ∨ i = b1 ∨ i = b2) w w1) (h : RTurn w1 m c1 c2 S w') : RTurn w m b1 b2 S w' := by
  obtain ⟨⟨d1, d2, k1, k2, k3⟩, k4⟩ := h
  have := h4.size
  exact ⟨⟨d1, d2, k1, by omega, by omega⟩, h4.trans k4 (fun i hi e => by omega)⟩

/-! ### Format -/
def RFmtPost (w : World) (m b1 b2 : Nat) (S : St) (f c n : Int) (e : Ending) (w' : World) : Prop :=
  Fr (fun i => i = m ∨ i = b1 ∨ i = b2) w w' ∧
    (∀ P, (formatP S f c n).1 = some P → ∃ q ub b1' b2', e = .returned (.tuple #[.pointer (some ⟨q, 0, none⟩), .int .i64 0]) ∧ RPD w' q m ub b1' b2' P (formatP S f c n).2.1 ∧ w.heap.size ≤ q ∧ w.heap.size ≤ ub ∧ (b1' = b1 ∨ w.heap.size ≤ b1') ∧ (b2' = b2 ∨ w.heap.size ≤ b2')) ∧
    ((formatP S f c n).1 = none → e = .returned (.tuple #[.pointer none, .int .i64 (formatP S f c n).2.2]) ∧ RTurn w m b1 b2 (formatP S f c n).2.1 w')
def RFmtC (w : World) (m b1 b2 : Nat) (S : St) (f c n : Int) : Prop := Calls Tryz.prog 13 #[.pointer (some ⟨m, 0, none⟩), .int .i64 f, .int .i64 c, .int .i64 n] w (RFmtPost w m b1 b2 S f c n)

set_option maxRecDepth 100000 in
theorem rpformat_bad (w : World) (m b1 b2 : Nat) (S : St) (h : RA w m b1 b2 S) (hs : S.Ok) (f c n : Int) (hf : -9223372036854775808 ≤ f) (hf2 : f ≤ 9223372036854775807) (he : pchk S f c n ≠ 0) : RFmtC w m b1 b2 S f c n := by
  have HC := hid (rform_c w m b1 b2 S h hs f c n hf hf2)
  have HE := hid (show formatP S f c n = (none, S, pchk S f c n) by unfold formatP; rw [if_pos he])
  have HA := hid h
  unfold RFmtC
  clear h hs
  obtain ⟨C, hC⟩ : ∃ C, C = pchk S f c n := ⟨_, rfl⟩
  rw [← hC] at HC HE he
  have q : (C == 0) = false := by simpa using he
  have q2 : (C != 0) = true := by simpa using he
  clear hC he
  go_enter Tryz.func13, Tryz.ntmps13
  go_wp2_with fail
  refine HC.out.mono ?_
  rintro e w2 ⟨rfl, rfl⟩
  go_wp2_with fail
  go_ret2
  refine ⟨Fr.refl _ _, fun P hP => ?_, fun _ => ?_⟩
  · rw [HE.out] at hP; cases hP
  · rw [HE.out]; exact ⟨rfl, RTurn.self HA.out⟩

theorem RFmtPost.no {w : World} {m b1 b2 : Nat} {S S' : St} {f c n : Int} {w' : World} (HE : formatP S f c n = (none, S', 2)) (h : RTurn w m b1 b2 S' w') : RFmtPost w m b1 b2 S f c n (.returned (.tuple #[.pointer none, .int .i64 2])) w' := by
  refine ⟨h.2, fun P hP => ?_, fun _ => ?_⟩
  · rw [HE] at hP; cases hP
  · rw [HE]; exact ⟨rfl, h⟩

set_option maxHeartbeats 8000000 in
set_option maxRecDepth 100000 in
theorem rpformat_go (w : World) (m b1 b2 : Nat) (S : St) (h : RA w m b1 b2 S) (hs : S.Ok) (f c n : Int) (hf : -9223372036854775808 ≤ f) (hf2 : f ≤ 9223372036854775807) (he : pchk S f c n = 0) : RFmtC w m b1 b2 S f c n := by
  have HC := hid (rform_c w m b1 b2 S h hs f c n hf hf2)
  rw [he] at HC
  obtain ⟨p1, p2, p3, p4, p5, p6, p7⟩ := pchk_ok he
  obtain ⟨F, rfl⟩ : ∃ F : Nat, f = F := ⟨f.toNat, by omega⟩
  obtain ⟨N, rfl⟩ : ∃ N : Nat, c = N := ⟨c.toNat, by omega⟩
  obtain ⟨M, rfl⟩ : ∃ M : Nat, n = M := ⟨n.toNat, by omega⟩
  have HA := hid h
  obtain ⟨Z, hZ⟩ : ∃ Z, Z = zero 64 := ⟨_, rfl⟩
  have lz : Z.length = 64 := by rw [hZ]; simp [zero]
  obtain ⟨H, hH⟩ : ∃ H : List UInt8, H = headB 2 0 M := ⟨_, rfl⟩
  have lh : H.length = 64 := by rw [hH, headB_len]
  obtain ⟨R1, hR1⟩ : ∃ R, R = S.write 1 Z := ⟨_, rfl⟩
  obtain ⟨R2, hR2⟩ : ∃ R, R = R1.1.write 0 H := ⟨_, rfl⟩
  obtain ⟨R3, hR3⟩ : ∃ R, R = R2.1.sync := ⟨_, rfl⟩
  have ok1 : R1.1.Ok ∧ R1.1.n = S.n := hR1 ▸ write_ok hs 1 Z
  have ok2 : R2.1.Ok ∧ R2.1.n = R1.1.n := hR2 ▸ write_ok ok1.1 0 H
  have t1 : R1.2 = 0 ∨ R1.2 = 2 := by rw [hR1]; exact write_two (by rw [lz]) (by omega) (by rw [lz]; omega)
  have t2 : R2.2 = 0 ∨ R2.2 = 2 := by rw [hR2]; exact write_two (by rw [lh]) (by omega) (by rw [lh, ok1.2]; omega)
  have t3 : R3.2 = 0 ∨ R3.2 = 2 := by rw [hR3]; exact rsync_two _
  have HE := hid (show formatP S (F : Int) (N : Int) (M : Int) = if R1.2 ≠ 0 then (none, R1.1, 2) else if R2.2 ≠ 0 then (none, R2.1, 2) else if R3.2 ≠ 0 then (none, R3.1, 2) else (some (PSt.of F N (2, -1, M)), R3.1, 0) by
    have e0 : List.replicate 64 (0 : UInt8) = Z := by rw [hZ]; rfl
    unfold formatP
    rw [if_neg (by rw [he]; decide)]
    simp only [Int.toNat_natCast, fmtP]
    rw [e0, ← hH, ← hR1, ← hR2, ← hR3]
    split
    · simp
    · split
      · simp
      · split <;> simp)
  have HW1 := hid (fun (W : World) (c1 c2 : Nat) (hA : RA W m c1 c2 S) => show Calls Tryz.prog 55 #[.pointer (some ⟨m, 0, none⟩), .int .i64 1, .string (bs Z)] W fun e w' => e = .returned (.int .i64 R1.2) ∧ RTurn W m c1 c2 R1.1 w' from hR1 ▸ rwrite_c W m c1 c2 S hA hs 1 (by omega) (by omega) Z (by rw [lz]; decide))
  have HW2 := hid (fun (W : World) (c1 c2 : Nat) (hA : RA W m c1 c2 R1.1) => show Calls Tryz.prog 55 #[.pointer (some ⟨m, 0, none⟩), .int .i64 0, .string (bs H)] W fun e w' => e = .returned (.int .i64 R2.2) ∧ RTurn W m c1 c2 R2.1 w' from hR2 ▸ rwrite_c W m c1 c2 R1.1 hA ok1.1 0 (by omega) (by omega) H (by rw [lh]; decide))
  have HSY := hid (fun (W : World) (c1 c2 : Nat) (hA : RA W m c1 c2 R2.1) => show Calls Tryz.prog 56 #[.pointer (some ⟨m, 0, none⟩)] W fun e w' => e = .returned (.int .i64 R3.2) ∧ RTurn W m c1 c2 R3.1 w' from hR3 ▸ rsync_c W m c1 c2 R2.1 hA ok2.1)
  have HHD := hid (fun W : World => show Calls Tryz.prog 49 #[.int .i64 2, .int .i64 (-1), .int .i64 (M : Int)] W fun e w' => e = .returned (.string (bs H)) ∧ Fr (fun _ => False) W w' from hH ▸ rhead_c W 2 0 M (-1) rfl (by omega) (by omega) (by omega))
  obtain ⟨c1, hc1⟩ : ∃ c, c = R1.2 := ⟨_, rfl⟩
  obtain ⟨c2, hc2⟩ : ∃ c, c = R2.2 := ⟨_, rfl⟩
  obtain ⟨c3, hc3⟩ : ∃ c, c = R3.2 := ⟨_, rfl⟩
  rw [← hc1] at HW1 HE t1
  rw [← hc2] at HW2 HE t2
  rw [← hc3] at HSY HE t3
  have hmk : ∀ W : World, (Instr.makeSlice 60 (.int .i64 64) (.int .i64 64)).run Tryz.prog W = .ok (.slice (some ⟨W.heap.size, 0, none⟩) 64 64) (W.alloc (.cells (bytesOf Z).toArray 5)) := fun W => hZ ▸ mkz 64 (by omega) W
  have hms := fun W : World => mks 64 W
  rw [← hZ] at hms
  have hN : N ≤ 4096 := by omega
  have hmi := fun W : World => mk_ints N hN W
  unfold RFmtC
  clear h hs he p1 p2 p3 p4 p5 p6 p7 hZ hH hR1 hR2 hR3 ok1 ok2 hc1 hc2 hc3
  go_enter Tryz.func13, Tryz.ntmps13
  go_wp2_with fail
  refine HC.out.mono ?_
  rintro e w2 ⟨rfl, rfl⟩
  go_wp2_with fail
  refine (HW1.out _ b1 b2 (RC.stay HA.out ((Fr.refl _ w2).alloc _))).mono ?_
  rintro e w3 ⟨rfl, ht3⟩
  have ht3' := RTurn.pre ((Fr.refl _ w2).alloc _) ht3
  rcases t1 with rfl | rfl
  rotate_left
  · have HZ := hid (show formatP S (F : Int) (N : Int) (M : Int) = (none, R1.1, 2) by rw [HE.out, if_pos (by decide)])
    have HT := hid ht3'
    clear ht3 ht3' hmk hms hmi
    go_wp2_with fail
    go_ret2
    exact RFmtPost.no HZ.out HT.out
  obtain ⟨⟨d1, d2, hra3, hd1, hd2⟩, hf3⟩ := ht3'
  have HR3 := hid hra3
  have HF3 := hid hf3
  have HD3 := hid (⟨hd1, hd2⟩ : (d1 = b1 ∨ w2.heap.size ≤ d1) ∧ (d2 = b2 ∨ w2.heap.size ≤ d2))
  clear ht3 hra3 hf3 hd1 hd2 hmk hms
  go_wp2_with fail
  refine (HHD.out _).mono ?_
  rintro e w4 ⟨rfl, hf4⟩
  have HF4 := hid hf4
  clear hf4
  go_wp2_with fail
  refine (HW2.out _ d1 d2 (RC.stay HR3.out HF4.out)).mono ?_
  rintro e w5 ⟨rfl, ht5⟩
  have ht5' := RTurn.then HD3.out.1 HD3.out.2 HF3.out (RTurn.pre HF4.out ht5)
  rcases t2 with rfl | rfl
  rotate_left
  · have HZ := hid (show formatP S (F : Int) (N : Int) (M : Int) = (none, R2.1, 2) by rw [HE.out, if_neg (by decide), if_pos (by decide)])
    have HT := hid ht5'
    clear ht5 ht5' hmi
    go_wp2_with fail
    go_ret2
    exact RFmtPost.no HZ.out HT.out
  obtain ⟨⟨u1, u2, hra5, hu1, hu2⟩, hf5⟩ := ht5'
  have HR5 := hid hra5
  have HF5 := hid hf5
  have HD5 := hid (⟨hu1, hu2⟩ : (u1 = b1 ∨ w2.heap.size ≤ u1) ∧ (u2 = b2 ∨ w2.heap.size ≤ u2))
  clear ht5 hra5 hf5 hu1 hu2
  go_wp2_with fail
  refine (HSY.out _ u1 u2 HR5.out).mono ?_
  rintro e w6 ⟨rfl, ht6⟩
  have HT6 := hid (RTurn.then HD5.out.1 HD5.out.2 HF5.out ht6)
  clear ht6
  rcases t3 with rfl | rfl
  rotate_left
  · have HZ := hid (show formatP S (F : Int) (N : Int) (M : Int) = (none, R3.1, 2) by rw [HE.out, if_neg (by decide), if_neg (by decide), if_pos (by decide)])
    clear hmi
    go_wp2_with fail
    go_ret2
    exact RFmtPost.no HZ.out HT6.out
  have HZ := hid (show formatP S (F : Int) (N : Int) (M : Int) = (some (PSt.of F N (2, -1, M)), R3.1, 0) by rw [HE.out, if_neg (by decide), if_neg (by decide), if_neg (by decide)])
  go_wp2_with fail
  go_ret2
  obtain ⟨⟨v1, v2, hra, hv1, hv2⟩, hf6⟩ := HT6.out
  have hfa : Fr (fun _ => False) w6 (w6.alloc (.cells (Array.replicate N (.int .i64 0)) 3)) := (Fr.refl _ w6).alloc _
  have hz : (w6.alloc (.cells (Array.replicate N (.int .i64 0)) 3)).heap.size = w6.heap.size + 1 := by simp
  have hs6 := hf6.size
  refine ⟨(hf6.alloc _).alloc _, fun P hP => ?_, fun h0 => ?_⟩
  · rw [HZ.out] at hP
    injection hP with hP
    subst hP
    refine ⟨w6.heap.size + 1, w6.heap.size, v1, v2, rfl, ⟨⟨⟨N, ?_⟩, ?_⟩, ?_⟩, by omega, hs6, hv1, hv2⟩
    · have := (MapKept.heap_alloc (w6.alloc (.cells (Array.replicate N (.int .i64 0)) 3)) (.cells #[.pointer (some ⟨m, 0, none⟩), .int .i64 F, .int .i64 N, .int .i64 (-1), .int .i64 M, .int .i64 2, .slice (some ⟨w6.heap.size, 0, none⟩) N N, .bool false] 40)).1
      rw [hz] at this
      exact this
    · exact ((zeros_use w6 N).congr (fun j hj => by simp [useOf, PSt.of, none_])).keep ((Fr.refl (fun _ => False) _).alloc _) (fun f => f)
    · rw [HZ.out]
      exact RC.stay hra (hfa.alloc _)
  · rw [HZ.out] at h0; cases h0

theorem rpformat_c (w : World) (m b1 b2 : Nat) (S : St) (h : RA w m b1 b2 S) (hs : S.Ok) (f c n : Int) (hf : -9223372036854775808 ≤ f) (hf2 : f ≤ 9223372036854775807) : RFmtC w m b1 b2 S f c n := by
  by_cases he : pchk S f c n = 0
  · exact rpformat_go w m b1 b2 S h hs f c n hf hf2 he
  · exact rpformat_bad w m b1 b2 S h hs f c n hf hf2 he

end Go.Proofs.YtjkhcfdflcndkaaGreat.D
