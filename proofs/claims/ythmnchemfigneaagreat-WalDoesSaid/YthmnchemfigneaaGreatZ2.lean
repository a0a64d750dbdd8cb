/-
  The document's log: Append. No condition.
-/
import Derived.Test.YthmnchemfigneaaGreatZ1
namespace Go.Proofs.YthmnchemfigneaaGreat.D
open Go.RowKit Go.Maps Go.Shelf
set_option linter.unusedVariables false
set_option linter.unusedSimpArgs false

def RAppendC (w : World) (k m b1 b2 : Nat) (L : LSt) (s : St) (r : List UInt8) : Prop :=
  Calls Tryz.prog 9 #[.pointer (some ⟨k, 0, none⟩), .string (bs r)] w fun e w' => e = .returned (.int .i64 (L.append s r).2.2) ∧ RLTurn w k m b1 b2 (L.append s r).1 (L.append s r).2.1 w'

theorem RLTurn.self {w : World} {k m b1 b2 : Nat} {L : LSt} {S : St} (h : RLogAt w k m L) (hd : RA w m b1 b2 S) : RLTurn w k m b1 b2 L S w := ⟨h, ⟨b1, b2, hd, Or.inl rfl, Or.inl rfl⟩, Fr.refl _ _⟩

theorem RLogAt.drewN {w : World} {k g n : Nat} {L : LSt} (h : RLogAt w k g L) : RLogAt (w.drewN n) k g L := h
theorem RA.drewN {w : World} {m b1 b2 n : Nat} {s : St} (h : RA w m b1 b2 s) : RA (w.drewN n) m b1 b2 s := RC.stay h fr_drewN
theorem RLTurn.before {w w1 w' : World} {k m b1 b2 : Nat} {L : LSt} {S : St} (hf : Fr (fun _ => False) w w1) (h : RLTurn w1 k m b1 b2 L S w') : RLTurn w k m b1 b2 L S w' := by
  obtain ⟨h1, ⟨b1', b2', h2, l1, l2⟩, h4⟩ := h
  have := hf.size
  exact ⟨h1, ⟨b1', b2', h2, by rcases l1 with l1 | l1 <;> omega, by rcases l2 with l2 | l2 <;> omega⟩, (fr_no hf).trans h4 (fun _ _ e => e)⟩
theorem RLTurn.stay {w w' w2 : World} {k m b1 b2 : Nat} {L : LSt} {S : St} (h : RLTurn w k m b1 b2 L S w') (hf : Fr (fun _ => False) w' w2) : RLTurn w k m b1 b2 L S w2 := by
  obtain ⟨h1, ⟨b1', b2', h2, l⟩, h4⟩ := h
  exact ⟨h1.stay hf, ⟨b1', b2', RC.stay h2 hf, l⟩, h4.trans hf (fun _ _ e => e.elim)⟩

theorem rappend_dead (w : World) (k m b1 b2 : Nat) (L : LSt) (s : St) (r : List UInt8) (h : RLogAt w k m L) (hd : RA w m b1 b2 s) (hdd : L.dead = true) : RAppendC w k m b1 b2 L s r := by
  have HT := hid (RLTurn.self h hd)
  have c5 : w.cell? ⟨k, 5, none⟩ = some (.bool true) := hdd ▸ cell_at h 5
  have HE := hid (show L.append s r = (L, s, 2) by unfold LSt.append; rw [if_pos hdd])
  unfold RAppendC
  rw [HE.out]
  clear h hd hdd
  go_enter Tryz.func9, Tryz.ntmps9
  go_wp2_with fail
  go_ret
  exact ⟨rfl, HT.out⟩

theorem rappend_long (w : World) (k m b1 b2 : Nat) (L : LSt) (s : St) (r : List UInt8) (h : RLogAt w k m L) (hd : RA w m b1 b2 s) (hr : r.length ≤ 4611686018427387904) (hdd : L.dead = false) (hl : 16384 < r.length) : RAppendC w k m b1 b2 L s r := by
  have HT := hid (RLTurn.self h hd)
  have c5 : w.cell? ⟨k, 5, none⟩ = some (.bool false) := hdd ▸ cell_at h 5
  have HE := hid (show L.append s r = (L, s, 181) by unfold LSt.append; rw [if_neg (by simp [hdd]), if_pos hl])
  unfold RAppendC
  rw [HE.out]
  clear h hd hdd
  go_enter Tryz.func9, Tryz.ntmps9
  go_wp2_with fail
  go_ret
  exact ⟨rfl, HT.out⟩

set_option maxRecDepth 100000 in
theorem rappend_full (w : World) (k m b1 b2 : Nat) (L : LSt) (s : St) (r : List UInt8) (h : RLogAt w k m L) (hd : RA w m b1 b2 s) (hL : L.Ok s.n) (hn : s.n ≤ 4096) (hdd : L.dead = false) (hl : ¬ 16384 < r.length) (hf : L.count - L.at_ < many r.length ∨ 1152921504606846976 ≤ L.next) : RAppendC w k m b1 b2 L s r := by
  have HT := hid (RLTurn.self h hd)
  have c5 : w.cell? ⟨k, 5, none⟩ = some (.bool false) := hdd ▸ cell_at h 5
  have c2 : w.cell? ⟨k, 2, none⟩ = some (.int .i64 L.count) := cell_at h 2
  have c3 : w.cell? ⟨k, 3, none⟩ = some (.int .i64 L.at_) := cell_at h 3
  have c4 : w.cell? ⟨k, 4, none⟩ = some (.int .i64 L.next) := cell_at h 4
  have HE := hid (show L.append s r = (L, s, 182) by unfold LSt.append; rw [if_neg (by simp [hdd]), if_neg hl, if_pos hf])
  obtain ⟨M, hm⟩ : ∃ M, M = many r.length := ⟨_, rfl⟩
  have hm2 : M ≤ 342 := by rw [hm]; unfold many; omega
  have HM := hid (fun q => show Calls Tryz.prog 39 #[.string (bs r)] (w.drewN q) fun e w' => e = .returned (.int .i64 (M : Int)) ∧ w' = w.drewN q from
    (many_r (w.drewN q) r (by omega)).mono (fun e w' x => ⟨by rw [x.1, hm], x.2.symm⟩))
  rw [← hm] at hf
  unfold RAppendC
  rw [HE.out]
  have b1' := hL.at_
  have b2' : L.count ≤ 4096 := by have := hL.area; omega
  have b3' := hL.n2
  have x1 : IntKind.i64.wrap ((L.at_ : Int) + (M : Int)) = (L.at_ : Int) + (M : Int) := by rw [IntKind.wrap_i64]; omega
  clear h hd hdd hL hm
  by_cases h1 : (L.count : Int) < (L.at_ : Int) + (M : Int)
  · have d1 : decide ((L.count : Int) < (L.at_ : Int) + (M : Int)) = true := by simpa using h1
    clear hf b3'
    go_enter Tryz.func9, Tryz.ntmps9
    go_wp2_with fail
    go_quiet (first | (go_at_call 39; exact Calls.quiet_of_same (HM.out _)))
    go_wp2_with fail
    go_ret
    exact ⟨rfl, HT.out.stay fr_drewN⟩
  · have d1 : decide ((L.count : Int) < (L.at_ : Int) + (M : Int)) = false := by simpa using h1
    obtain ⟨N, hN⟩ : ∃ N : Int, N = (L.next : Int) := ⟨_, rfl⟩
    have h2 : N = 1152921504606846976 := by omega
    have d2 : (N == 1152921504606846976) = true := by simpa using h2
    rw [← hN] at c4
    clear hf hN b3' h2
    go_enter Tryz.func9, Tryz.ntmps9
    go_wp2_with fail
    go_quiet (first | (go_at_call 39; exact Calls.quiet_of_same (HM.out _)))
    go_wp2_with fail
    go_ret
    exact ⟨rfl, HT.out.stay fr_drewN⟩

theorem wrs_two (m k : Nat) (l : List UInt8) (s : St) : errOf (wrs m k l s).2 = 0 ∨ errOf (wrs m k l s).2 = 2 := by
  cases (wrs m k l s).2
  · exact Or.inl rfl
  · exact Or.inr rfl
theorem lwrite_two {s : St} (hs : s.Ok) {L : LSt} (hL : L.Ok s.n) {r : List UInt8} (hf : ¬ (L.count - L.at_ < many r.length ∨ 1152921504606846976 ≤ L.next)) : (s.write (L.first + L.at_ : Nat) (secsOf L.next r)).2 = 0 ∨ (s.write (L.first + L.at_ : Nat) (secsOf L.next r)).2 = 2 := by
  have h1 := secsOf_len L.next r
  have h2 := hL.area
  have h3 := hL.at_
  have e : (secsOf L.next r).length / 64 = many r.length := by omega
  unfold St.write
  split
  · exact Or.inr rfl
  rw [if_neg (by omega), if_neg (by rw [e]; omega)]
  exact wrs_two _ _ _ _

theorem rlogCells {w : World} {k m : Nat} {L : LSt} (h : RLogAt w k m L) :
    w.cell? ⟨k, 0, none⟩ = some (.pointer (some ⟨m, 0, none⟩)) ∧ w.cell? ⟨k, 1, none⟩ = some (.int .i64 L.first) ∧ w.cell? ⟨k, 3, none⟩ = some (.int .i64 L.at_) :=
  ⟨cell_at h 0, cell_at h 1, cell_at h 3⟩

set_option maxHeartbeats 4000000 in
set_option maxRecDepth 100000 in
theorem rappend_go (w : World) (k m b1 b2 : Nat) (L : LSt) (s : St) (r : List UInt8) (h : RLogAt w k m L) (hd : RA w m b1 b2 s) (hs : s.Ok) (hL : L.Ok s.n) (hn : s.n ≤ 4096) (hdd : L.dead = false) (hl : ¬ 16384 < r.length) (hf : ¬ (L.count - L.at_ < many r.length ∨ 1152921504606846976 ≤ L.next)) : RAppendC w k m b1 b2 L s r := by
  have HL := hid h
  have HA := hid hd
  have c5 : w.cell? ⟨k, 5, none⟩ = some (.bool false) := hdd ▸ cell_at h 5
  have c2 : w.cell? ⟨k, 2, none⟩ = some (.int .i64 L.count) := cell_at h 2
  have c3 : w.cell? ⟨k, 3, none⟩ = some (.int .i64 L.at_) := cell_at h 3
  have c4 : w.cell? ⟨k, 4, none⟩ = some (.int .i64 L.next) := cell_at h 4
  have htwo := lwrite_two hs hL hf
  obtain ⟨sc, hsc⟩ : ∃ sc, sc = secsOf L.next r := ⟨_, rfl⟩
  obtain ⟨res, hres⟩ : ∃ res, res = s.write (L.first + L.at_ : Nat) sc := ⟨_, rfl⟩
  rw [← hsc, ← hres] at htwo
  have HE := hid (show L.append s r = if res.2 ≠ 0 then (L.told res.2, res.1, res.2) else ({ L with at_ := L.at_ + many r.length, next := L.next + 1 }, res.1, 0) by
    unfold LSt.append; rw [if_neg (by simp [hdd]), if_neg hl, if_neg hf, ← hsc, ← hres])
  obtain ⟨M, hm⟩ : ∃ M, M = many r.length := ⟨_, rfl⟩
  have hm2 : M ≤ 342 := by rw [hm]; unfold many; omega
  have HM := hid (fun W => show Calls Tryz.prog 39 #[.string (bs r)] W fun e w' => e = .returned (.int .i64 (M : Int)) ∧ w' = W from
    (many_r W r (by omega)).mono (fun e w' x => ⟨by rw [x.1, hm], x.2.symm⟩))
  rw [← hm] at hf HE
  have y1 := hL.at_
  have y2 : L.count ≤ 4096 := by have := hL.area; omega
  have y3 : L.first ≤ 4096 := by have := hL.area; omega
  have x1 : IntKind.i64.wrap ((L.at_ : Int) + (M : Int)) = (L.at_ : Int) + (M : Int) := by rw [IntKind.wrap_i64]; omega
  have d1 : decide ((L.count : Int) < (L.at_ : Int) + (M : Int)) = false := decide_eq_false (by omega)
  obtain ⟨N, hN⟩ : ∃ N : Int, N = (L.next : Int) := ⟨_, rfl⟩
  have d2 : (N == 1152921504606846976) = false := by simp; omega
  have HNX := hid (show L.next < 1152921504606846976 by omega)
  have hN1 := hL.n1
  have HSEC := hid (fun W : World => show Calls Tryz.prog 40 #[.int .i64 N, .string (bs r)] W fun e w' => e = .returned (.tuple #[.string (bs sc), .int .i64 0]) ∧ Fr (fun _ => False) W w' from by
    have h1 := rsectors_c W N r (by omega)
    have h2 : secsR N r = (sc, 0) := by
      unfold secsR
      rw [hN, if_neg (by omega), if_neg hl, hsc, Int.toNat_natCast]
    rw [h2] at h1
    exact h1)
  have hscl : sc.length ≤ 9223372036854775807 := by rw [hsc, secsOf_len, ← hm]; omega
  have HWR := hid (fun (W : World) (hA : RA W m b1 b2 s) => show Calls Tryz.prog 41 #[.pointer (some ⟨m, 0, none⟩), .int .i64 ((L.first : Int) + L.at_), .string (bs sc)] W fun e w' => e = .returned (.int .i64 res.2) ∧ RTurn W m b1 b2 res.1 w' from by
    have := rwrite_c W m b1 b2 s hA hs ((L.first + L.at_ : Nat) : Int) (by omega) (by omega) sc hscl
    unfold RWriteC at this
    rw [← hres] at this
    exact_mod_cast this)
  have x2 : IntKind.i64.wrap ((L.first : Int) + L.at_) = (L.first : Int) + L.at_ := by rw [IntKind.wrap_i64]; omega
  have HND := hid hdd
  rw [← hN] at c4
  unfold RAppendC
  obtain ⟨C, hC⟩ : ∃ C, C = res.2 := ⟨_, rfl⟩
  obtain ⟨s', hs'⟩ : ∃ s', s' = res.1 := ⟨_, rfl⟩
  rw [← hC] at htwo
  rw [← hC, ← hs'] at HE
  rw [← hC, ← hs'] at HWR
  have HNN := hid hN
  clear h hd hs hL hm hf hsc hres hscl hdd hN1 hN hC hs'
  go_enter Tryz.func9, Tryz.ntmps9
  go_wp2_with fail
  go_quiet (first | (go_at_call 39; exact Calls.quiet_of_same (HM.out _)))
  have hw0 : Fr (fun _ => False) w (w.drewN nq) := fr_drewN
  obtain ⟨W0, eW0⟩ : ∃ W0, W0 = w.drewN nq := ⟨_, rfl⟩
  rw [← eW0] at hw0 ⊢
  have HW0 := hid hw0
  have e4 : W0.cell? ⟨k, 4, none⟩ = some (.int .i64 N) := by rw [eW0]; exact c4
  clear eW0 hw0 c2 c3 c4 c5
  go_wp2_with fail
  refine (HSEC.out _).mono ?_
  rintro e w1 ⟨rfl, hf1⟩
  have HW1 := hid (HW0.out.trans hf1 (fun _ _ f => f))
  have HL1 := hid (HL.out.stay HW1.out)
  have HA1 := hid (RC.stay HA.out HW1.out : RA w1 m b1 b2 s)
  clear hf1 e4
  go_wp2_with fail
  obtain ⟨k0, k1, k3⟩ := rlogCells HL1.out
  have hA1 : RA w1.drew m b1 b2 s := RC.stay HA1.out (Fr.refl _ _).drew
  go_region_held3 (fun w' => w'.cell? ⟨k, 0, none⟩ = some (.pointer (some ⟨m, 0, none⟩)) ∧ w'.cell? ⟨k, 1, none⟩ = some (.int .i64 L.first) ∧ w'.cell? ⟨k, 3, none⟩ = some (.int .i64 L.at_))
    (first | exact ⟨k0, k1, k3⟩ | exact rlogCells (by assumption) | go_keep)
    (first
      | (go_at_call 41; refine (HWR.out _ hA1).mono ?_; rintro e w2 ⟨rfl, hT2⟩; have hTT := RLTurn.of (show RLogAt w1.drew k m L from HL1.out) hA1 hT2; have hL2 : RLogAt w2 k m L := hTT.1))
  have HT := hid (RLTurn.before HW1.out.drew hTT)
  rename_i hHeld
  obtain ⟨p0, p1, p3⟩ := hHeld
  have f5 : w2.frozen? ⟨k, 5, none⟩ = false := frozen_at HT.out.1 5
  have p5 : w2.cell? ⟨k, 5, none⟩ = some (.bool L.dead) := cell_at HT.out.1 5
  have f3 : w2.frozen? ⟨k, 3, none⟩ = false := frozen_at HT.out.1 3
  have f4 : w2.frozen? ⟨k, 4, none⟩ = false := frozen_at HT.out.1 4
  have p4' : w2.cell? ⟨k, 4, none⟩ = some (.int .i64 (L.next : Int)) := cell_at HT.out.1 4
  clear hTT hT2 hL2 k0 k1 k3 hA1 HSEC HWR x2 d2 d1
  rcases htwo with rfl | rfl
  · have HZ := hid (show L.append s r = ({ L with at_ := L.at_ + M, next := L.next + 1 }, s', 0) by rw [HE.out, if_neg (by simp)])
    have p4 : w2.cell? ⟨k, 4, none⟩ = some (.int .i64 N) := by rw [HNN.out]; exact p4'
    have x4 : IntKind.i64.wrap (N + 1) = N + 1 := by have := HNX.out; have := HNN.out; rw [IntKind.wrap_i64]; omega
    clear HE p4' p5 f5 p0 p1
    go_wp2_with fail
    go_region_with (go_at_call 39; refine (HM.out _).mono ?_; rintro e wm ⟨rfl, rfl⟩)
    all_goals
      go_wp2_with fail
      go_ret
      rw [HZ.out]
      refine ⟨rfl, HT.out.set ?_ ((fr_set2 w2 k 3 4 (.int .i64 ((L.at_ : Int) + M)) (.int .i64 (N + 1))).drew)⟩
      show RLogAt ((w2.setCell ⟨k, 3, none⟩ (.int .i64 ((L.at_ : Int) + M))).setCell ⟨k, 4, none⟩ (.int .i64 (N + 1))) k m _
      unfold RLogAt
      rw [set_at (set_at HT.out.1 3 _) 4 _, HNN.out]
      simp [lcells]
  · have HZ := hid (show L.append s r = (L.told 2, s', 2) by rw [HE.out, if_pos (by decide)])
    clear HE p4' p0 p1 p3 f3 f4
    go_wp2_with fail
    go_ret
    rw [HZ.out]
    refine ⟨rfl, HT.out.set ?_ (fr_set1 _ _ _ _)⟩
    have := set_at HT.out.1 5 (.bool true)
    unfold RLogAt LSt.told
    rw [this]
    simp [lcells]

theorem rappend_c (w : World) (k m b1 b2 : Nat) (L : LSt) (s : St) (r : List UInt8) (h : RLogAt w k m L) (hd : RA w m b1 b2 s) (hs : s.Ok) (hL : L.Ok s.n) (hr : r.length ≤ 4611686018427387904) : RAppendC w k m b1 b2 L s r := by
  cases hdd : L.dead with
  | true => exact rappend_dead w k m b1 b2 L s r h hd hdd
  | false =>
    by_cases hl : 16384 < r.length
    · exact rappend_long w k m b1 b2 L s r h hd hr hdd hl
    · by_cases hf : L.count - L.at_ < many r.length ∨ 1152921504606846976 ≤ L.next
      · exact rappend_full w k m b1 b2 L s r h hd hL hs.n2 hdd hl hf
      · exact rappend_go w k m b1 b2 L s r h hd hs hL hs.n2 hdd hl hf

end Go.Proofs.YthmnchemfigneaaGreat.D
