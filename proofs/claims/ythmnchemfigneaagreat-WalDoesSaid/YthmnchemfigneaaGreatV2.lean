/-
  The document's Sectors. No condition beyond the sizes that are named.
-/
import Derived.Test.YthmnchemfigneaaGreatV1
namespace Go.Proofs.YthmnchemfigneaaGreat.D
open Go.RowKit Go.Maps Go.Shelf
set_option linter.unusedVariables false
set_option linter.unusedSimpArgs false

theorem own_stay {w w' : World} {B n : Nat} {e : TypeId} {v : Value} {xs : List Value} (h : w.ownsRow B e 1 v n xs) (hf : Fr (fun _ => False) w w') : w'.ownsRow B e 1 v n xs := by
  have hg : w.grownBy w' none := ⟨hf.os, hf.tape, hf.output, hf.size, fun k hk _ => hf.block k hk (fun f => f)⟩
  exact h.kept hg (by cases hv : v.ownBlock <;> simp)
theorem addBs (l m : List UInt8) : (bs l) ++ (bs m) = bs (l ++ m) := by
  apply ByteArray.ext
  simp [bs]

set_option maxHeartbeats 8000000 in
set_option maxRecDepth 100000 in
theorem rsectors_go (w : World) (n : Nat) (r : List UInt8) (h1 : 1 ≤ n) (hn : n ≤ 1152921504606846976) (hr : r.length ≤ 16384) :
    Calls Tryz.prog 40 #[.int .i64 n, .string (bs r)] w fun e w' => e = .returned (.tuple #[.string (bs (secsOf n r)), .int .i64 0]) ∧ Fr (fun _ => False) w w' := by
  have hz : (bs r).size = r.length := by simp [bs, ByteArray.size]
  obtain ⟨NI, hNI⟩ : ∃ NI : Int, NI = (n : Int) := ⟨_, rfl⟩
  have n1 : ¬ NI < 1 := by omega
  have n2 : ¬ (1152921504606846976 : Int) < NI := by omega
  obtain ⟨m, hm⟩ : ∃ m, m = many r.length := ⟨_, rfl⟩
  have hm2 : m ≤ 342 := by rw [hm]; unfold many; omega
  have HMR := hid (fun W : World => show Calls Tryz.prog 39 #[.string (bs r)] W fun e w' => e = .returned (.int .i64 (m : Int)) ∧ W = w' from hm ▸ many_r W r (by omega))
  have HB8 := hid (fun W : World => show Calls Tryz.prog 64 #[.int .i64 NI, .int .i64 8] W fun e w' => e = .returned (.string (bs (be 8 n))) ∧ Fr (fun _ => False) W w' from hNI ▸ rbig_c W n 8 8 rfl (by omega) (by omega))
  have HB2 := hid (fun (W : World) (x : Nat) (hx : x ≤ 100000) => rbig_c W x 2 2 rfl (by omega) (by omega))
  have HNN := hid (show n ≤ 9223372036854775807 by omega)
  have HM := hid hm
  have HNI := hid hNI
  have HO0 := hid (World.ownsRow_made (base := w.heap.size) (e := 5) (size := 1) w #[] 0 (Nat.le_refl _) (Nat.zero_le _) (by simp))
  have HBe := hid (show Below w.heap.size w (w.alloc (.cells #[] 5)) from (Below.refl _ w).alloc (Nat.le_refl _) _)
  obtain ⟨i0, hi, hz0, hz1, hz2⟩ := info_parts (show (Tryz.prog.info? 5).map (fun i => (i.zero, i.size, i.bytes)) = some (some (.int .u8 0), 1, 1) by kernel_rfl)
  rw [← hNI]
  clear hm hNI hn h1
  go_enter Tryz.func40, Tryz.ntmps40
  go_wp2_with (first | fail | (go_at_call 39; refine (HMR.out _).mono ?_; rintro e w' ⟨rfl, rfl⟩))
  go_loopw [6, 8] (fun v i wr => ∃ (j g cap : Nat), i = .int .i64 j ∧ j ≤ m ∧ v = .slice (some ⟨g, 0, none⟩) (64 * j) cap ∧
      Hid (wr.ownsRow w.heap.size 5 1 (.slice (some ⟨g, 0, none⟩) (64 * j) cap) (64 * j) (bytesOf (cat (one n m r) j))) ∧ Hid (Below w.heap.size w wr)) (fun _ i _ => m - (intOf i).toNat)
  case atStart => exact ⟨0, w.heap.size, 0, rfl, by omega, rfl, HO0, HBe⟩
  case round =>
    obtain ⟨j, g, cap, rfl, hj, rfl, HO, HW⟩ := hrel
    have hbl : w.heap.size ≤ wr.heap.size := HW.out.size
    have hcl : (cat (one n m r) j).length = 64 * j := flat_len _ 64 (one_len n m r) j
    by_cases hend : j = m
    · subst hend
      have ho := HO.out
      rw [← hcl] at ho
      have hback := own_str (n := 0) ho
      rw [hcl] at hback
      have E := hid (show cat (one n j r) j = secsOf n r by rw [secsOf, ← HM.out]; rfl)
      clear ho hcl
      go_wp2_with fail
      go_ret2
      exact ⟨by rw [E.out]; rfl, below_fr HW.out (Nat.le_refl _)⟩
    · have hj' : j < m := by omega
      obtain ⟨P, hP⟩ : ∃ P, P = part r j := ⟨_, rfl⟩
      have hpl : P.length ≤ 48 := by rw [hP, part_len]; omega
      have hjr : 48 * j ≤ r.length := by have := HM.out; unfold many at this; omega
      obtain ⟨q, hq⟩ : ∃ q, q = min r.length (48 * j + 48) := ⟨_, rfl⟩
      have hmin : ∀ w, (Builtin.min_ #[3, 3] 3 #[.int .i64 (r.length : Int), .int .i64 (48 * (j : Int) + 48)]).run Tryz.prog w = .ok (.int .i64 (q : Int)) w := by
        intro w
        rw [run_min_int2]
        congr 2
        split <;> omega
      have hs1 := slice_bs (P := Tryz.prog) 9 Tryz.underlying9 wr r (48 * j) q (by omega) (by omega) (48 * (j : Int)) (q : Int) (by omega) rfl
      rw [show (r.drop (48 * j)).take (q - 48 * j) = P by
        rw [hP, ← part_eq, List.length_drop, hq]; congr 1; omega] at hs1
      have HP := hid hP
      have l8 : (be 8 n).length ≤ 8 := by rw [be_length]; exact Nat.le_refl _
      have lj : (be 2 j).length ≤ 2 := by rw [be_length]; exact Nat.le_refl _
      have lm : (be 2 m).length ≤ 2 := by rw [be_length]; exact Nat.le_refl _
      have lp : (be 2 P.length).length ≤ 2 := by rw [be_length]; exact Nat.le_refl _
      clear hq hend hP
      go_wp2_with fail
      refine (HB8.out _).mono ?_
      rintro e w1 ⟨rfl, hf1⟩
      have HF1 := hid hf1
      clear hf1
      go_wp2_with fail
      refine (HB2.out _ j (by omega)).mono ?_
      rintro e w2 ⟨rfl, hf2⟩
      have HF2 := hid (HF1.out.trans hf2 (fun _ _ f => f))
      clear hf2
      go_wp2_with fail
      refine (HB2.out _ m (by omega)).mono ?_
      rintro e w3 ⟨rfl, hf3⟩
      have HF3 := hid (HF2.out.trans hf3 (fun _ _ f => f))
      clear hf3
      go_wp2_with fail
      refine (HB2.out _ P.length (by omega)).mono ?_
      rintro e w4 ⟨rfl, hf4⟩
      have HF4 := hid (HF3.out.trans hf4 (fun _ _ f => f))
      clear hf4
      obtain ⟨y, hy⟩ : ∃ y, y = be 8 n ++ be 2 j ++ be 2 m ++ be 2 P.length ++ [82, 87] ++ P := ⟨_, rfl⟩
      have hyl : y.length = 16 + P.length := by rw [hy]; simp [be_length]; omega
      have hst : Value.string (bs (be 8 n) ++ bs (be 2 j) ++ bs (be 2 m) ++ bs (be 2 P.length) ++ bs [82, 87] ++ bs P) = Value.string (bs y) := by
        simp only [addBs]; rw [hy]
      have hzy : (bs y).size = 16 + P.length := by simp [bs, ByteArray.size, hyl]
      have hb4 : w.heap.size ≤ w4.heap.size := Nat.le_trans hbl HF4.out.size
      obtain ⟨v5, w5, hrun5, hown5, hgr5, _⟩ := Lib.run_append_own_string (P := Tryz.prog) w4 w.heap.size 54 9 54 5 i0 Tryz.underlying54 Tryz.underlying9 hi hz0 hz1 hz2
        (.slice (some ⟨g, 0, none⟩) (64 * j) cap) (64 * j) _ (own_stay HO.out HF4.out) (bs y) (by rw [hzy]; unfold maxLen; omega) (by rw [hzy]; omega) hb4
      rw [hzy] at hown5
      obtain ⟨g5, cap5, rfl⟩ := Joins.ownsRow_form hown5 (by omega)
      have hb5 : w.heap.size ≤ w5.heap.size := Nat.le_trans hb4 hgr5.size
      obtain ⟨v6, w6, hrun6, hown6, hgr6⟩ := run_append_own_zeros w5 w.heap.size g5 (64 * j + (16 + P.length)) cap5 _ hown5 (48 - P.length) (by omega) (by omega) hb5 54
      have e6 : 64 * j + (16 + P.length) + (48 - P.length) = 64 * (j + 1) := by omega
      rw [e6] at hown6
      obtain ⟨g6, cap6, rfl⟩ := Joins.ownsRow_form hown6 (by omega)
      have hx6 : (((48 - P.length : Nat)) : Int) = 48 - (P.length : Int) := by omega
      rw [hx6] at hrun6
      have e7 : bytesOf (cat (one n m r) j) ++ Lib.strCells (bs y) ++ bytesOf (List.replicate (48 - P.length) 0) = bytesOf (cat (one n m r) (j + 1)) := by
        have : one n m r j = y ++ List.replicate (48 - P.length) 0 := by rw [hy, HP.out]; simp [one, hdr]
        rw [cat_succ, this]
        simp [bytesOf, Lib.strCells, List.append_assoc]
      rw [e7] at hown6
      have HW6 := hid (((HW.out.trans (HF4.out.toBelow hbl (fun i f => f.elim))).grown hgr5 hb4 (fun b hb => (HO.out.lt b hb).1)).grown hgr6 hb5 (fun b hb => (hown5.lt b hb).1))
      have HO6 := hid hown6
      have HST := hid hst
      have HR5 := hid hrun5
      have HR6 := hid hrun6
      clear hy hyl hst hzy hb4 hrun5 hown5 hgr5 hb5 hrun6 hown6 hgr6 e7 e6 hx6 hcl
      go_wp2_with (first
        | (at_builtin; refine Lib.wpList_append_run _ rfl _ _ _ _ rfl _ _ rfl HST.out _ _ HR5.out ?_)
        | (at_builtin; refine Lib.wpList_append_run _ rfl _ _ _ _ rfl _ _ rfl rfl _ _ HR6.out ?_))
      refine ⟨⟨j + 1, g6, cap6, by go_num, by omega, rfl, HO6, HW6⟩, by simp [intOf]; omega⟩

/-- The document's Sectors. -/
theorem rsectors_c (w : World) (n : Int) (r : List UInt8) (hr : r.length ≤ 9223372036854775807) :
    Calls Tryz.prog 40 #[.int .i64 n, .string (bs r)] w fun e w' => e = .returned (.tuple #[.string (bs (secsR n r).1), .int .i64 (secsR n r).2]) ∧ Fr (fun _ => False) w w' := by
  have hz : (bs r).size = r.length := by simp [bs, ByteArray.size]
  by_cases b0 : n < 1
  · have HE := hid (show secsR n r = ([], 1) by unfold secsR; rw [if_pos (Or.inl b0)])
    rw [HE.out]
    go_enter Tryz.func40, Tryz.ntmps40
    go_wp2_with fail
    go_ret2
    exact ⟨rfl, Fr.refl _ _⟩
  by_cases b1 : 1152921504606846976 < n
  · have HE := hid (show secsR n r = ([], 1) by unfold secsR; rw [if_pos (Or.inr b1)])
    rw [HE.out]
    go_enter Tryz.func40, Tryz.ntmps40
    go_wp2_with fail
    go_ret2
    exact ⟨rfl, Fr.refl _ _⟩
  by_cases hl : 16384 < r.length
  · have HE := hid (show secsR n r = ([], 181) by unfold secsR; rw [if_neg (by omega), if_pos hl])
    rw [HE.out]
    go_enter Tryz.func40, Tryz.ntmps40
    go_wp2_with fail
    go_ret2
    exact ⟨rfl, Fr.refl _ _⟩
  · obtain ⟨N, hN⟩ : ∃ N : Nat, n = N := ⟨n.toNat, by omega⟩
    subst hN
    have HE := hid (show secsR (N : Int) r = (secsOf N r, 0) by unfold secsR; rw [if_neg (by omega), if_neg (by omega)]; simp)
    rw [HE.out]
    exact rsectors_go w N r (by omega) (by omega) (by omega)

end Go.Proofs.YthmnchemfigneaaGreat.D
