/-
  The record that stands ahead: whole. No condition beyond the sizes that are named.
-/
import Derived.Test.YthmnchemfigneaaGreatW3
namespace Go.Proofs.YthmnchemfigneaaGreat.D
open Go.RowKit Go.Maps Go.Shelf
set_option linter.unusedVariables false
set_option linter.unusedSimpArgs false

def wres (o : Option (List UInt8)) : List UInt8 × Nat := match o with | some r => (r, many r.length) | none => ([], 0)

theorem body_len (a : List UInt8) (i : Nat) : (body a i).length ≤ 48 := by
  unfold body
  rw [List.length_take]
  omega
theorem val2 (l : List UInt8) : val (l.take 2) < 65536 := by
  have h1 := val_lt (l.take 2)
  have h2 : (l.take 2).length ≤ 2 := by rw [List.length_take]; omega
  exact Nat.lt_of_lt_of_le h1 (Nat.pow_le_pow_right (n := 256) (by omega) h2)

/-- How many sectors the first one tells. -/
def told (a : List UInt8) : Nat := val ((a.drop 10).take 2)
def mk (a : List UInt8) : List UInt8 := (a.drop 14).take 2

theorem slice_bs {P : Program} (t : TypeId) (ht : P.underlying t = some .string) (w : World) (l : List UInt8) (a b : Nat) (h1 : a ≤ b) (h2 : b ≤ l.length) (A B : Int) (hA : A = (a : Int)) (hB : B = (b : Int)) :
    (Instr.slice t (.string (bs l)) (some (.int .i64 A)) (some (.int .i64 B)) none).run P w = .ok (.string (bs ((l.drop a).take (b - a)))) w := by
  subst hA hB
  have := slice_str t ht w l (a : Int) (b : Int) (by omega) (by omega) (by omega)
  simpa using this

set_option maxHeartbeats 4000000 in
set_option maxRecDepth 100000 in
theorem whole_c (w : World) (a : List UInt8) (n : Nat) (ha : a.length ≤ 262144) (hn : n ≤ 9223372036854775807) :
    Calls Tryz.prog 60 #[.string (bs a), .int .i64 n] w fun e w' => e = .returned (.tuple #[.string (bs (wres (ahead a n)).1), .int .i64 (wres (ahead a n)).2]) ∧ Fr (fun _ => False) w w' := by
  have hz : (bs a).size = a.length := by simp [bs, ByteArray.size]
  obtain ⟨R, hR⟩ : ∃ R, R = wres (ahead a n) := ⟨_, rfl⟩
  rw [← hR]
  have HR := hid hR
  clear hR
  by_cases h64 : a.length < 64
  · have HE := hid (show R = ([], 0) by rw [HR.out]; unfold ahead; rw [if_pos (Or.inl h64)]; rfl)
    rw [HE.out]
    go_enter Tryz.func60, Tryz.ntmps60
    go_wp2_with fail
    go_ret2
    exact ⟨rfl, Fr.refl _ _⟩
  have hs1 := slice_bs (P := Tryz.prog) 9 Tryz.underlying9 w a 14 16 (by omega) (by omega) 14 16 rfl rfl
  have hs2 := slice_bs (P := Tryz.prog) 9 Tryz.underlying9 w a 10 12 (by omega) (by omega) 10 12 rfl rfl
  by_cases hm : (a.drop 14).take 2 = [82, 87]
  case neg =>
    have HE := hid (show R = ([], 0) by rw [HR.out]; unfold ahead; rw [if_pos (Or.inr hm)]; rfl)
    rw [HE.out]
    obtain ⟨M, hM⟩ : ∃ M, M = (a.drop 14).take (16 - 14) := ⟨_, rfl⟩
    have hm' : M ≠ [82, 87] := by rw [hM]; exact hm
    rw [← hM] at hs1
    have q1 : (M == [82, 87]) = false := by simpa using hm'
    have q2 : (!M == [82, 87]) = true := by rw [q1]; rfl
    clear hM hm hs2 hm'
    go_enter Tryz.func60, Tryz.ntmps60
    go_wp2_with fail
    go_ret2
    exact ⟨rfl, Fr.refl _ _⟩
  obtain ⟨k, hk⟩ : ∃ k, k = told a := ⟨_, rfl⟩
  have hk2 : k < 65536 := by rw [hk]; exact val2 _
  have q1 : (([82, 87] : List UInt8) == [82, 87]) = true := by rfl
  have q2 : (!([82, 87] : List UInt8) == [82, 87]) = false := by rfl
  have e14 : (a.drop 14).take (16 - 14) = [82, 87] := hm
  rw [e14] at hs1
  obtain ⟨Kb, hKb⟩ : ∃ Kb, Kb = (a.drop 10).take (12 - 10) := ⟨_, rfl⟩
  rw [← hKb] at hs2
  have HSM := hid (show ∀ w, Calls Tryz.prog 59 #[.string (bs Kb)] w fun e w' => e = .returned (.int .u64 (k : Int)) ∧ w = w' from fun w => by
    refine (small_c w Kb (by rw [hKb, List.length_take]; omega)).mono ?_
    rintro e w' ⟨rfl, rfl⟩
    exact ⟨by rw [show val Kb = k by rw [hk, hKb]; rfl], rfl⟩)
  have HK := hid hk
  clear hKb hk
  by_cases hlong : a.length < 64 * k
  · have HE := hid (show R = ([], 0) by
      rw [HR.out]; unfold ahead; rw [if_neg (fun h => h.elim h64 (fun h => h hm))]
      have e : a.length < 64 * val ((a.drop 10).take 2) := by have := HK.out; unfold told at this; rw [← this]; exact hlong
      simp only [e, if_true]
      rfl)
    rw [HE.out]
    clear hm e14
    go_enter Tryz.func60, Tryz.ntmps60
    go_wp2_with (go_at_call 59; refine (HSM.out _).mono ?_; rintro e w' ⟨rfl, rfl⟩)
    go_ret2
    exact ⟨rfl, Fr.refl _ _⟩
  have HR2 := hid (show R = wres (if (cat (body a) k).length ≤ 16384 ∧ 0 < k ∧ secsOf n (cat (body a) k) = a.take (64 * many (cat (body a) k).length) then some (cat (body a) k) else none) by
    rw [HR.out]; unfold ahead; rw [if_neg (fun h => h.elim h64 (fun h => h hm))]
    have hke : val ((a.drop 10).take 2) = k := HK.out.symm
    simp only [hke]
    rw [if_neg hlong]
    rfl)
  obtain ⟨i0, hi, hz0, hz1, hz2⟩ := info_parts (show (Tryz.prog.info? 5).map (fun i => (i.zero, i.size, i.bytes)) = some (some (.int .u8 0), 1, 1) by kernel_rfl)
  have HZ := hid hz
  have HO0 := hid (World.ownsRow_nil w w.heap.size 5 1)
  have hlong' : 64 * k ≤ a.length := by omega
  clear hm e14 hlong hz
  go_enter Tryz.func60, Tryz.ntmps60
  go_wp2_with (first | fail | (go_at_call 59; refine (HSM.out _).mono ?_; rintro e w' ⟨rfl, rfl⟩))
  go_loopw [7, 29] (fun v i wr => ∃ (j : Nat) (p : Option Addr) (cap : Nat), i = .int .i64 j ∧ j ≤ k ∧ v = .slice p (cat (body a) j).length cap ∧
      Hid (wr.ownsRow w.heap.size 5 1 (.slice p (cat (body a) j).length cap) (cat (body a) j).length (bytesOf (cat (body a) j))) ∧ Hid (Below w.heap.size w wr)) (fun _ i _ => k - (intOf i).toNat)
  case atStart => exact ⟨0, none, 0, rfl, by omega, rfl, hid HO0.out, hid (Below.refl _ _)⟩
  case round =>
    obtain ⟨j, p, cap, rfl, hj, rfl, HO, HW⟩ := hrel
    have hbl : w.heap.size ≤ wr.heap.size := HW.out.size
    by_cases hend : j = k
    · subst hend
      obtain ⟨B, hB⟩ : ∃ B, B = cat (body a) j := ⟨_, rfl⟩
      rw [← hB] at HO
      have hHR2 := HR2.out
      rw [← hB] at hHR2 ⊢
      have HR3 := hid hHR2
      have hback := own_str (n := 0) HO.out
      have hBl : B.length ≤ 48 * j := by rw [hB]; exact cat_len _ 48 j (fun i _ => body_len a i)
      have hzB : (bs B).size = B.length := by simp [bs, ByteArray.size]
      have HF := hid (below_fr HW.out (Nat.le_refl _))
      clear hHR2 hB HR2
      by_cases hl : 16384 < B.length
      · have HE := hid (show R = ([], 0) by rw [HR3.out, if_neg (by omega)]; rfl)
        have q3 : decide ((B.length : Int) ≤ 16384) = false := by simp; omega
        have q4 : decide (B.length ≤ 16384) = false := by simp; omega
        go_wp2_with fail
        go_ret2
        rw [HE.out]
        exact ⟨rfl, HF.out⟩
      by_cases hj0 : j = 0
      · have HE := hid (show R = ([], 0) by rw [HR3.out, if_neg (by omega)]; rfl)
        subst hj0
        go_wp2_with fail
        go_ret2
        rw [HE.out]
        exact ⟨rfl, HF.out⟩
      · obtain ⟨m, hm⟩ : ∃ m, m = many B.length := ⟨_, rfl⟩
        have hm2 : m ≤ 342 := by rw [hm]; unfold many; omega
        obtain ⟨T, hT⟩ : ∃ T, T = secsOf n B := ⟨_, rfl⟩
        obtain ⟨U, hU⟩ : ∃ U, U = a.take (64 * m) := ⟨_, rfl⟩
        obtain ⟨q, hq⟩ : ∃ q, q = min a.length (64 * m) := ⟨_, rfl⟩
        have HSC := hid (fun W : World => show Calls _ _ _ W fun e w' => e = .returned (.string (bs T)) ∧ Fr (fun _ => False) W w' from hT ▸ sectors_c W n B hn (by omega))
        have HMN := hid (fun W : World => show Calls Tryz.prog 35 #[.int .i64 (B.length : Int)] W fun e w' => e = .returned (.int .i64 (m : Int)) ∧ W = w' from (many_c W B.length (by omega)).mono (by rintro e w' ⟨rfl, rfl⟩; exact ⟨by rw [hm], rfl⟩))
        have hmin : ∀ w, (Builtin.min_ #[3, 3] 3 #[.int .i64 (a.length : Int), .int .i64 ((m : Int) * 64)]).run Tryz.prog w = .ok (.int .i64 (q : Int)) w := by
          intro w
          rw [run_min_int2]
          congr 2
          split <;> omega
        have eU : a.take q = U := by
          rw [hU, hq]
          by_cases h : a.length ≤ 64 * m
          · rw [Nat.min_eq_left h, List.take_length, List.take_of_length_le h]
          · rw [Nat.min_eq_right (by omega)]
        have hs5 : ∀ w, (Instr.slice 9 (.string (bs a)) none (some (.int .i64 (q : Int))) none).run Tryz.prog w = .ok (.string (bs U)) w := fun w => by
          have := slice_to (P := Tryz.prog) 9 Tryz.underlying9 w a (q : Int) (by omega) (by omega)
          rwa [Int.toNat_natCast, eU] at this
        have hR4 : R = wres (if T = U then some B else none) := by
          rw [HR3.out, ← hm, ← hT, ← hU]
          by_cases h : T = U
          · rw [if_pos h, if_pos ⟨by omega, by omega, h⟩]
          · rw [if_neg h, if_neg (fun x => h x.2.2)]
        have HM := hid hm
        have hq1 : q ≤ 262144 := by rw [hq]; exact Nat.le_trans (Nat.min_le_left _ _) ha
        clear hm hT hU hq eU HR3
        have q3 : decide ((B.length : Int) ≤ 16384) = true := by simp; omega
        by_cases hTU : T = U
        · have HE := hid (show R = (B, m) by rw [hR4, if_pos hTU, HM.out]; rfl)
          have qq : (T == U) = true := by simpa using hTU
          clear hR4 hTU
          go_wp2_with (first | fail | (go_at_call 38; refine (HSC.out _).mono ?_; rintro e w5 ⟨rfl, hf5⟩) | (go_at_call 35; refine (HMN.out _).mono ?_; rintro e w' ⟨rfl, rfl⟩))
          go_ret2
          rw [HE.out]
          exact ⟨rfl, HF.out.trans hf5 (fun _ _ f => f)⟩
        · have HE := hid (show R = ([], 0) by rw [hR4, if_neg hTU]; rfl)
          have qq : (T == U) = false := by simpa using hTU
          clear hR4 hTU
          go_wp2_with (first | fail | (go_at_call 38; refine (HSC.out _).mono ?_; rintro e w5 ⟨rfl, hf5⟩) | (go_at_call 35; refine (HMN.out _).mono ?_; rintro e w' ⟨rfl, rfl⟩))
          go_ret2
          rw [HE.out]
          exact ⟨rfl, HF.out.trans hf5 (fun _ _ f => f)⟩
    · have hj' : j < k := by omega
      have hlen := cat_len (body a) 48 j (fun i _ => body_len a i)
      obtain ⟨S, hS⟩ : ∃ S, S = piece a j := ⟨_, rfl⟩
      have hSl : S.length = 64 := by rw [hS]; simp only [piece, List.length_take, List.length_drop]; omega
      have hs6 := slice_bs (P := Tryz.prog) 9 Tryz.underlying9 wr a (64 * j) (64 * j + 64) (by omega) (by omega) ((j : Int) * 64) ((j : Int) * 64 + 64) (by omega) (by omega)
      rw [show (a.drop (64 * j)).take (64 * j + 64 - 64 * j) = S by rw [hS]; simp [piece]] at hs6
      have hs7 := slice_bs (P := Tryz.prog) 9 Tryz.underlying9 wr S 12 14 (by omega) (by omega) 12 14 rfl rfl
      obtain ⟨V, hV⟩ : ∃ V, V = (S.drop 12).take (14 - 12) := ⟨_, rfl⟩
      rw [← hV] at hs7
      obtain ⟨v2, hv2⟩ : ∃ v2, v2 = val V := ⟨_, rfl⟩
      have hv3 : v2 < 65536 := by rw [hv2, hV]; exact val2 _
      have HSV := hid (show Calls Tryz.prog 59 #[.string (bs V)] wr fun e w' => e = .returned (.int .u64 (v2 : Int)) ∧ wr = w' from by
        refine (small_c wr V (by rw [hV, List.length_take]; omega)).mono ?_
        rintro e w' ⟨rfl, rfl⟩
        exact ⟨by rw [hv2], rfl⟩)
      obtain ⟨q, hq⟩ : ∃ q, q = min 48 v2 := ⟨_, rfl⟩
      have hmin : ∀ w, (Builtin.min_ #[3, 3] 3 #[.int .i64 48, .int .i64 (v2 : Int)]).run Tryz.prog w = .ok (.int .i64 (q : Int)) w := by
        intro w
        rw [run_min_int2]
        congr 2
        split <;> omega
      have hq1 : q ≤ 48 := by omega
      obtain ⟨y, hy⟩ : ∃ y, y = body a j := ⟨_, rfl⟩
      have hs8 := slice_bs (P := Tryz.prog) 9 Tryz.underlying9 wr S 16 (16 + q) (by omega) (by omega) 16 (16 + (q : Int)) rfl (by omega)
      rw [show (S.drop 16).take (16 + q - 16) = y by
        rw [hy, show 16 + q - 16 = q by omega, hq, hv2, hV, hS]; rfl] at hs8
      have hyl : y.length ≤ 48 := by rw [hy]; exact body_len a j
      have hz : (bs y).size = y.length := by simp [bs, ByteArray.size]
      obtain ⟨v', w2, hrun, hown2, hgr2, hnil⟩ := Lib.run_append_own_string (P := Tryz.prog) wr w.heap.size 54 9 54 5 i0 Tryz.underlying54 Tryz.underlying9 hi hz0 hz1 hz2
        (.slice p (cat (body a) j).length cap) (cat (body a) j).length (bytesOf (cat (body a) j)) HO.out (bs y) (by rw [hz]; unfold maxLen; omega) (by rw [hz]; omega) hbl
      have HW2 := hid (HW.out.grown hgr2 hbl (fun b hb => (HO.out.lt b hb).1))
      have e1 : cat (body a) (j + 1) = cat (body a) j ++ y := by rw [cat_succ, hy]
      have e2 : (cat (body a) (j + 1)).length = (cat (body a) j).length + (bs y).size := by rw [e1, hz]; simp
      have e3 : bytesOf (cat (body a) (j + 1)) = bytesOf (cat (body a) j) ++ Lib.strCells (bs y) := by rw [e1]; simp [bytesOf, Lib.strCells]
      have E := hid (And.intro e2 e3)
      obtain ⟨a', cap', rfl⟩ : ∃ a' cap', v' = .slice a' ((cat (body a) j).length + (bs y).size) cap' := by
        rcases hown2.2 with ⟨h0, h1⟩ | ⟨b', cap2, cur, h0, _⟩
        · exact ⟨none, 0, by rw [h0, h1]⟩
        · exact ⟨_, _, h0⟩
      have HO2 := hid hown2
      have HRUN := hid hrun
      clear hend e1 hy hown2 hgr2 e2 e3 hnil hz hq hv2 hV hS hrun HR2
      go_wp2_with (first
        | (go_at_call 59; refine HSV.out.mono ?_; rintro e w' ⟨rfl, rfl⟩)
        | (at_builtin; refine Lib.wpList_append_run _ rfl _ _ _ _ rfl _ _ rfl rfl _ _ HRUN.out ?_))
      obtain ⟨e2, e3⟩ := E.out
      refine ⟨⟨j + 1, a', cap', by go_num, by omega, by rw [e2]; simp [bs, ByteArray.size], hid (by rw [e2, e3]; exact HO2.out), HW2⟩, by simp [intOf]; omega⟩

end Go.Proofs.YthmnchemfigneaaGreat.D
