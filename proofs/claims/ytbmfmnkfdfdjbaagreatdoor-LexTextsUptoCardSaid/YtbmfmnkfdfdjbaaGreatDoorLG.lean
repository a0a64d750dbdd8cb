/-
  The next token: the walk. The library's variables are as they were laid.
-/
import Derived.Test.YtbmfmnkfdfdjbaaGreatDoorLF
import Derived.Test.YtbmfmnkfdfdjbaaGreatDoorL6
namespace Go.Proofs.YtbmfmnkfdfdjbaaGreatDoor.D
open Go.RowKit Go.Shelf
set_option linter.unusedVariables false
set_option linter.unusedSimpArgs false

def punB : List UInt8 := [33, 36, 38, 40, 41, 58, 61, 64, 91, 93, 123, 124, 125]
def dotsB : List UInt8 := [46, 46, 46]
/-- The token at a place: its kind, what it says, its end; or the error's number. -/
def tok1 (s : List UInt8) (i : Nat) : Except Int (Int × List UInt8 × Nat) :=
  if hasP s i dotsB then .ok (0, (s.drop i).take (i + 3 - i), i + 3)
  else if punB.contains (pk s i) then .ok (0, (s.drop i).take (i + 1 - i), i + 1)
  else if letB.contains (pk s i) then .ok (1, (s.drop i).take (i + runN (letB ++ digB) (s.drop i) - i), i + runN (letB ++ digB) (s.drop i))
  else if pk s i == 45 || digB.contains (pk s i) then
    match num s i with
    | none => .error 51
    | some (e, k) => .ok (k, (s.drop i).take (e - i), e)
  else if hasP s i qqqB then
    match blockS s i with
    | none => .error 52
    | some (l, e) => .ok (4, l, e)
  else if pk s i == 34 then
    match textP s (i + 1) with
    | none => .error 52
    | some (l, e) => .ok (4, l, e)
  else .error 50
def tokV (k : Int) (l : List UInt8) (i e : Nat) : Value := .agg #[.int .i64 k, .string (bs l), .int .i64 i, .int .i64 e]
def TokPost (w : World) (r : Nat) (s : List UInt8) (i f n : Nat) (x : Ending) (w' : World) : Prop :=
  Fr (· = r) w w' ∧ (∀ k l e, tok1 s i = .ok (k, l, e) → x = .returned (tokV k l i e) ∧ RdAt w' r s e f (n + 1)) ∧ (∀ c, tok1 s i = .error c → x = .panicked (wrongAt f c))
theorem tok_dots {s : List UInt8} {i : Nat} (h : hasP s i dotsB = true) : tok1 s i = .ok (0, (s.drop i).take (i + 3 - i), i + 3) := by simp [tok1, h]
theorem tok_pun {s : List UInt8} {i : Nat} (h : hasP s i dotsB = false) (h2 : punB.contains (pk s i) = true) : tok1 s i = .ok (0, (s.drop i).take (i + 1 - i), i + 1) := by
  unfold tok1; rw [if_neg (by rw [h]; decide), if_pos h2]
theorem tok_let {s : List UInt8} {i : Nat} (h : hasP s i dotsB = false) (h2 : punB.contains (pk s i) = false) (h3 : letB.contains (pk s i) = true) :
    tok1 s i = .ok (1, (s.drop i).take (i + runN (letB ++ digB) (s.drop i) - i), i + runN (letB ++ digB) (s.drop i)) := by
  unfold tok1; rw [if_neg (by rw [h]; decide), if_neg (by rw [h2]; decide), if_pos h3]
theorem tok_num {s : List UInt8} {i : Nat} (h : hasP s i dotsB = false) (h2 : punB.contains (pk s i) = false) (h3 : letB.contains (pk s i) = false) (h4 : (pk s i == 45 || digB.contains (pk s i)) = true) :
    tok1 s i = match num s i with | none => .error 51 | some (e, k) => .ok (k, (s.drop i).take (e - i), e) := by
  unfold tok1; rw [if_neg (by rw [h]; decide), if_neg (by rw [h2]; decide), if_neg (by rw [h3]; decide), if_pos h4]
theorem tok_blk {s : List UInt8} {i : Nat} (h : hasP s i dotsB = false) (h2 : punB.contains (pk s i) = false) (h3 : letB.contains (pk s i) = false) (h4 : (pk s i == 45 || digB.contains (pk s i)) = false) (h5 : hasP s i qqqB = true) :
    tok1 s i = match blockS s i with | none => .error 52 | some (l, e) => .ok (4, l, e) := by
  unfold tok1; rw [if_neg (by rw [h]; decide), if_neg (by rw [h2]; decide), if_neg (by rw [h3]; decide), if_neg (by rw [h4]; decide), if_pos h5]
theorem tok_txt {s : List UInt8} {i : Nat} (h : hasP s i dotsB = false) (h2 : punB.contains (pk s i) = false) (h3 : letB.contains (pk s i) = false) (h4 : (pk s i == 45 || digB.contains (pk s i)) = false) (h5 : hasP s i qqqB = false) (h6 : (pk s i == 34) = true) :
    tok1 s i = match textP s (i + 1) with | none => .error 52 | some (l, e) => .ok (4, l, e) := by
  unfold tok1; rw [if_neg (by rw [h]; decide), if_neg (by rw [h2]; decide), if_neg (by rw [h3]; decide), if_neg (by rw [h4]; decide), if_neg (by rw [h5]; decide), if_pos h6]
theorem tok_bad {s : List UInt8} {i : Nat} (h : hasP s i dotsB = false) (h2 : punB.contains (pk s i) = false) (h3 : letB.contains (pk s i) = false) (h4 : (pk s i == 45 || digB.contains (pk s i)) = false) (h5 : hasP s i qqqB = false) (h6 : (pk s i == 34) = false) :
    tok1 s i = .error 50 := by
  unfold tok1; rw [if_neg (by rw [h]; decide), if_neg (by rw [h2]; decide), if_neg (by rw [h3]; decide), if_neg (by rw [h4]; decide), if_neg (by rw [h5]; decide), if_neg (by rw [h6]; decide)]
theorem digs_lt {s : List UInt8} {i j : Nat} (hi : i ≤ s.length) (h : digs s i = some j) : i < j := by
  unfold digs at h
  split at h
  · injection h with h; omega
  · cases h
theorem sgn_ge (s : List UInt8) (i : Nat) (c : UInt8) : i ≤ sgn s i c := by unfold sgn; split <;> omega
theorem esgn_ge (s : List UInt8) (i : Nat) : i ≤ esgn s i := by unfold esgn; split; omega; exact sgn_ge _ _ _
theorem pk_lt {s : List UInt8} {i : Nat} (h : pk s i ≠ 0) : i < s.length := by
  have h1 : ¬ s.length ≤ i := fun e => by
    have : pk s i = 0 := by unfold pk; rw [List.getD_eq_getElem?_getD, List.getElem?_eq_none e]; rfl
    exact h this
  omega
theorem esgn_le {s : List UInt8} {i : Nat} (hi : i ≤ s.length) : esgn s i ≤ s.length := by
  unfold esgn
  split
  next h => exact skips_lt h
  · exact skips_le hi
theorem num_le {s : List UInt8} {i e : Nat} {k : Int} (hi : i ≤ s.length) (h : num s i = some (e, k)) : i < e ∧ e ≤ s.length ∧ (k = 2 ∨ k = 3) := by
  unfold num at h
  have h0 := sgn_ge s i 45
  have h0' := skips_le (c := 45) hi
  obtain ⟨j, h1, h⟩ := Option.bind_eq_some_iff.1 h
  have g1 : sgn s i 45 < j ∧ j ≤ s.length := by
    unfold num2 at h1
    split at h1
    next h48 =>
      injection h1 with h1
      have := pk_lt (s := s) (i := sgn s i 45) (by rw [h48]; decide)
      omega
    · exact ⟨digs_lt h0' h1, digs_le h0' h1⟩
  obtain ⟨⟨j2, k2⟩, h2, h⟩ := Option.bind_eq_some_iff.1 h
  have g2 : j ≤ j2 ∧ j2 ≤ s.length ∧ (k2 = 2 ∨ k2 = 3) := by
    unfold num3 at h2
    split at h2
    next hh =>
      obtain ⟨a, ha, hb⟩ := Option.map_eq_some_iff.1 h2
      injection hb with hb hc
      have := skips_lt hh
      have := digs_lt this ha
      have := digs_le (skips_lt hh) ha
      omega
    · injection h2 with h2; injection h2 with h2 h3; omega
  obtain ⟨⟨j3, k3⟩, h3, h⟩ := Option.bind_eq_some_iff.1 h
  have g3 : j2 ≤ j3 ∧ j3 ≤ s.length ∧ (k3 = 2 ∨ k3 = 3) := by
    unfold num4 at h3
    split at h3
    next hh =>
      obtain ⟨a, ha, hb⟩ := Option.map_eq_some_iff.1 h3
      injection hb with hb hc
      have hl : j2 + 1 ≤ s.length := by
        rcases Bool.or_eq_true_iff.1 hh with hh | hh
        · exact skips_lt hh
        · exact skips_lt hh
      have a1 := esgn_ge s (j2 + 1)
      have a2 := esgn_le hl
      have := digs_lt a2 ha
      have := digs_le a2 ha
      omega
    · injection h3 with h3; injection h3 with h3 h4; omega
  simp only at h
  split at h
  · injection h with h; injection h with h h5; simp only at *; omega
  · cases h
/-- Block b is a token. -/
def TAt (w : World) (b : Nat) (k : Int) (l : List UInt8) (i e : Nat) : Prop :=
  w.heap[b]? = some (.cells #[.int .i64 k, .string (bs l), .int .i64 i, .int .i64 e] 30)

theorem results_cell {fn : Func} {p : Tmp} {ty : TypeId} (h : fn.results = #[.cell p ty]) (tmps : Array Value) (P : Program) (w : World) :
    (results fn tmps).run P w = ((asAddr (tmps.getD p undef)).run P w).andThen fun a w₁ => (loadVar ty a).run P w₁ := by
  simp only [results, h]
  simp [Sem.run_bind, Result.andThen]
theorem TAt.same {w : World} {b : Nat} {k : Int} {l : List UInt8} {i e : Nat} (h : TAt w b k l i e) : TAt (w.setCell ⟨b, 0, none⟩ (.int .i64 k)) b k l i e ∧ TAt (w.setCell ⟨b, 1, none⟩ (.string (bs l))) b k l i e ∧ TAt (w.setCell ⟨b, 2, none⟩ (.int .i64 (i : Int))) b k l i e ∧ TAt (w.setCell ⟨b, 3, none⟩ (.int .i64 (e : Int))) b k l i e := by
  refine ⟨?_, ?_, ?_, ?_⟩
  · unfold TAt; rw [set_at h 0]; rfl
  · unfold TAt; rw [set_at h 1]; rfl
  · unfold TAt; rw [set_at h 2]; rfl
  · unfold TAt; rw [set_at h 3]; rfl

set_option maxHeartbeats 2000000 in
set_option maxRecDepth 100000 in
theorem token_c (w : World) (r : Nat) (s : List UInt8) (i f n : Nat) (h : RdAt w r s i f n) (hV : Vars w) (hr : 2 < r) (hi : i < s.length) (hs : s.length ≤ 1000000) (hn : n < 2048) :
    Calls Tryz.prog 40 #[.pointer (some ⟨r, 0, none⟩)] w (TokPost w r s i f n) := by
  obtain ⟨b, hb⟩ : ∃ b, b = w.heap.size := ⟨_, rfl⟩
  obtain ⟨w1, hw1⟩ : ∃ w1, w1 = w.alloc (.cells #[.int .i64 0, .string ⟨#[]⟩, .int .i64 0, .int .i64 0] 30) := ⟨_, rfl⟩
  have hf1 : Fr (fun _ => False) w w1 := hw1 ▸ (Fr.refl _ w).alloc _
  have T1 := hid (show TAt w1 b 0 [] 0 0 from by rw [hw1, hb]; exact Array.getElem?_push_size)
  have H1 := hid (h.stay hf1)
  have hrb : r < b := hb ▸ lt_of_at h
  have c3 : w1.cell? ⟨r, 3, none⟩ = some (.int .i64 n) := cell_at H1.out 3
  have f3 : w1.frozen? ⟨r, 3, none⟩ = false := frozen_at H1.out 3
  have hlt : decide ((n : Int) < 2048) = true := decide_eq_true (by omega)
  have HM0 := hid (must_c w1 r s i f n H1.out 53)
  have HW1 := hid hw1
  rw [hw1] at c3 f3
  have HV := hid hV
  have HRR := hid hr
  have HI := hid hi
  have HS := hid hs
  have HB := hid hrb
  have HF1 := hid hf1
  have HBE := hid hb
  clear h hV hr hi hs hf1 hb hw1 hrb
  go_enter Tryz.func40, Tryz.ntmps40
  go_wp2_with fail
  rw [← HW1.out, ← HBE.out]
  refine HM0.out.mono ?_
  rintro e wx ⟨rfl, hwx⟩
  rw [hwx]
  clear hwx c3 f3
  obtain ⟨n1, hn1⟩ : ∃ n1, n1 = n + 1 := ⟨_, rfl⟩
  have HN1 := hid hn1
  have c3 : w1.cell? ⟨r, 3, none⟩ = some (.int .i64 n) := cell_at H1.out 3
  have f3 : w1.frozen? ⟨r, 3, none⟩ = false := frozen_at H1.out 3
  have H2 := hid (show RdAt (w1.setCell ⟨r, 3, none⟩ (.int .i64 ((n : Int) + 1))) r s i f n1 by have := RdAt.count H1.out n1; rw [hn1] at this ⊢; simpa using this)
  have T2 := hid (show TAt (w1.setCell ⟨r, 3, none⟩ (.int .i64 ((n : Int) + 1))) b 0 [] 0 0 from (fr_set1 w1 r 3 _).at T1.out (by have := HB.out; show ¬ b = r; omega))
  have HF2 := hid (show Fr (· = r) w (w1.setCell ⟨r, 3, none⟩ (.int .i64 ((n : Int) + 1))) from (fr_no HF1.out).trans (fr_set1 _ r 3 _) (fun _ _ e => e))
  go_upto_region 3 with fail
  obtain ⟨w2, hw2⟩ : ∃ w2, w2 = w1.setCell ⟨r, 3, none⟩ (.int .i64 ((n : Int) + 1)) := ⟨_, rfl⟩
  rw [← hw2] at H2 T2 HF2 ⊢
  clear hw2 c3 f3 hn hlt
  have c1 : w2.cell? ⟨r, 1, none⟩ = some (.int .i64 i) := cell_at H2.out 1
  have g2 : w2.frozen? ⟨b, 2, none⟩ = false := frozen_at T2.out 2
  have k2 : w2.cell? ⟨b, 2, none⟩ = some (.int .i64 0) := cell_at T2.out 2
  have H3 := hid (show RdAt (w2.setCell ⟨b, 2, none⟩ (.int .i64 (i : Int))) r s i f n1 from H2.out.keep (fr_set1 w2 b 2 _) (by have := HB.out; omega))
  have T3 := hid (show TAt (w2.setCell ⟨b, 2, none⟩ (.int .i64 (i : Int))) b 0 [] i 0 by unfold TAt; rw [set_at T2.out 2]; rfl)
  have HF3 := hid (show Fr (· = r) w (w2.setCell ⟨b, 2, none⟩ (.int .i64 (i : Int))) from HF2.out.setCell _ (fun h => by have h : b < w.heap.size := h; have := HBE.out; omega) _)
  go_upto_region 4 with fail
  obtain ⟨w3, hw3⟩ : ∃ w3, w3 = w2.setCell ⟨b, 2, none⟩ (.int .i64 (i : Int)) := ⟨_, rfl⟩
  rw [← hw3] at H3 T3 HF3 ⊢
  clear hw3 c1 g2 k2
  have hz := size_bs s
  have c0 : w3.cell? ⟨r, 0, none⟩ = some (.string (bs s)) := cell_at H3.out 0
  have c1 : w3.cell? ⟨r, 1, none⟩ = some (.int .i64 i) := cell_at H3.out 1
  have hil : i < s.length := HI.out
  have his : s.length ≤ 1000000 := HS.out
  obtain ⟨v, hv⟩ : ∃ v : Int, v = ((pk s i).toNat : Int) := ⟨_, rfl⟩
  have HV0 := hid hv
  have hx : ∀ w, (Instr.index 9 (.string (bs s)) (.int .i64 (i : Int))).run Tryz.prog w = .ok (.int .u8 v) w := fun w => hv ▸ idx_bs _ Tryz.underlying9 w s _ i (by omega) hil
  clear hv
  go_wp2_with fail
  go_quiet (fail)
  clear hx c0 c1
  obtain ⟨w4, hw4⟩ : ∃ w4, w4 = w3.drewN nq := ⟨_, rfl⟩
  rw [← hw4]
  have hf4 : Fr (fun _ => False) w3 w4 := hw4 ▸ fr_drewN
  have H4 := hid (H3.out.stay hf4)
  have T4 := hid (show TAt w4 b 0 [] i 0 from hf4.at T3.out (fun f => f))
  have HF4 := hid (HF3.out.trans (fr_no (S := (· = r)) hf4) (fun _ _ e => e))
  clear hw4 hf4
  clear H1 H2 H3 T1 T2 T3 HF1 HF2 HF3 HM0 HW1
  go_upto_block 0 with fail
  go_cut [3] (fun s3 wy => s3 = .int .u8 v ∧ ∃ (k : Int) (l : List UInt8) (q : Nat), Hid (RdAt wy r s q f n1) ∧ Hid (TAt wy b k l i 0) ∧ Hid (Fr (· = r) w wy) ∧ Hid (tok1 s i = .ok (k, if k = 4 then l else (s.drop i).take (q - i), q)) ∧ Hid (k ≠ 4 → i ≤ q ∧ q ≤ s.length))
  case first =>
    go_wp2_with fail
    refine (show Calls Tryz.prog 49 #[.pointer (some ⟨r, 0, none⟩), .string (bs [46, 46, 46])] w4 _ from has_c w4 r s i f n1 H4.out (by omega) (by omega) dotsB).mono ?_
    rintro e w5 ⟨rfl, hf5⟩
    have H5 := hid (H4.out.stay hf5)
    have T5 := hid (show TAt w5 b 0 [] i 0 from hf5.at T4.out (fun f => f))
    have HF5 := hid (HF4.out.trans (fr_no (S := (· = r)) hf5) (fun _ _ e => e))
    have HV5 := hid (HV.out.one HF5.out HRR.out)
    clear hf5
    obtain ⟨D1, hD1⟩ : ∃ D1, D1 = hasP s i dotsB := ⟨_, rfl⟩
    rw [← hD1]
    have HD1 := hid hD1.symm
    clear hD1 H4 T4 HF4
    have c1 : w5.cell? ⟨r, 1, none⟩ = some (.int .i64 i) := cell_at H5.out 1
    have d1 : w5.frozen? ⟨r, 1, none⟩ = false := frozen_at H5.out 1
    have e0 : w5.frozen? ⟨b, 0, none⟩ = false := frozen_at T5.out 0
    have k0 : w5.cell? ⟨b, 0, none⟩ = some (.int .i64 0) := cell_at T5.out 0
    cases D1 with
    | true =>
      as_aux_lemma =>
        have HRM := hid (show i + 3 ≤ s.length from has_room HD1.out (by decide))
        go_wp2_with fail
        go_meet
        exact ⟨rfl, 0, [], i + 3, hid (by have := RdAt.move H5.out (i + 3); simpa using this), hid ((fr_set1 w5 r 1 _).at T5.out (by have := HB.out; show ¬ b = r; omega)), hid (HF5.out.trans (fr_set1 _ r 1 _) (fun _ _ e => e)), hid (tok_dots HD1.out), hid (fun _ => ⟨by omega, HRM.out⟩)⟩
    | false =>
      have HC2 := hid (fun W => ib_c W punB (pk s i))
      cases hp2 : punB.contains (pk s i) with
      | true =>
        as_aux_lemma =>
          obtain ⟨m, hm, hml⟩ := ib_in hp2
          have HP2 := hid hp2
          have HC : Hid (∀ W, Calls Tryz.prog 48 #[.string (bs [33, 36, 38, 40, 41, 58, 61, 64, 91, 93, 123, 124, 125]), .int .u8 v] W fun e w' => e = .returned (.int .i64 m) ∧ w' = W) := HV0.out ▸ hm ▸ HC2
          have hm0 : (0 : Int) ≤ (m : Int) := by omega
          clear hp2 hm hml
          go_wp2_with fail
          refine (HC.out w5).mono ?_
          rintro e wz ⟨rfl, hwz⟩
          rw [hwz]
          clear hwz
          go_wp2_with fail
          go_meet
          exact ⟨rfl, 0, [], i + 1, hid (by have := RdAt.move H5.out (i + 1); simpa using this), hid ((fr_set1 w5 r 1 _).at T5.out (by have := HB.out; show ¬ b = r; omega)), hid (HF5.out.trans (fr_set1 _ r 1 _) (fun _ _ e => e)), hid (tok_pun HD1.out HP2.out), hid (fun _ => ⟨by omega, HI.out⟩)⟩
      | false =>
        have HP2 := hid hp2
        have HC : Hid (∀ W, Calls Tryz.prog 48 #[.string (bs [33, 36, 38, 40, 41, 58, 61, 64, 91, 93, 123, 124, 125]), .int .u8 v] W fun e w' => e = .returned (.int .i64 (-1)) ∧ w' = W) := HV0.out ▸ ib_out hp2 ▸ HC2
        clear hp2 HC2
        go_wp2_with fail
        refine (HC.out w5).mono ?_
        rintro e wz ⟨rfl, hwz⟩
        rw [hwz]
        clear hwz HC
        have HC2 := hid (fun W => ib_c W letB (pk s i))
        cases hp3 : letB.contains (pk s i) with
        | true =>
          as_aux_lemma =>
            obtain ⟨m, hm, hml⟩ := ib_in hp3
            have HP3 := hid hp3
            have HC : Hid (∀ W, Calls Tryz.prog 48 #[.string (bs [95, 97, 98, 99, 100, 101, 102, 103, 104, 105, 106, 107, 108, 109, 110, 111, 112, 113, 114, 115, 116, 117, 118, 119, 120, 121, 122, 65, 66, 67, 68, 69, 70, 71, 72, 73, 74, 75, 76, 77, 78, 79, 80, 81, 82, 83, 84, 85, 86, 87, 88, 89, 90]), .int .u8 v] W fun e w' => e = .returned (.int .i64 m) ∧ w' = W) := HV0.out ▸ hm ▸ HC2
            have hm0 : (0 : Int) ≤ (m : Int) := by omega
            have T6 := hid (show TAt (w5.setCell ⟨b, 0, none⟩ (.int .i64 1)) b 1 [] i 0 by unfold TAt; rw [set_at T5.out 0]; rfl)
            have H6 := hid (show RdAt (w5.setCell ⟨b, 0, none⟩ (.int .i64 1)) r s i f n1 from H5.out.keep (fr_set1 w5 b 0 _) (by have := HB.out; omega))
            have HF6 := hid (show Fr (· = r) w (w5.setCell ⟨b, 0, none⟩ (.int .i64 1)) from HF5.out.setCell _ (fun h => by have h : b < w.heap.size := h; have := HBE.out; omega) _)
            have HRU := hid (run_c (w5.setCell ⟨b, 0, none⟩ (.int .i64 1)) r s i f n1 H6.out (by omega) (by omega) (letB ++ digB))
            clear hp3 hm hml
            go_wp2_with fail
            refine (HC.out w5).mono ?_
            rintro e wz ⟨rfl, hwz⟩
            rw [hwz]
            clear hwz
            go_wp2_with fail
            refine HRU.out.mono ?_
            rintro e w7 ⟨rfl, h7, hf7⟩
            have H7 := hid h7
            have HF7 := hid hf7
            go_wp2_with fail
            go_meet
            have hle := runN_le (letB ++ digB) s i
            exact ⟨rfl, 1, [], i + runN (letB ++ digB) (s.drop i), H7, hid (HF7.out.at T6.out (by have := HB.out; show ¬ b = r; omega)), hid (HF6.out.trans HF7.out (fun _ _ e => e)), hid (tok_let HD1.out HP2.out HP3.out), hid (fun _ => ⟨by omega, by omega⟩)⟩
        | false =>
          have HP3 := hid hp3
          have HC : Hid (∀ W, Calls Tryz.prog 48 #[.string (bs [95, 97, 98, 99, 100, 101, 102, 103, 104, 105, 106, 107, 108, 109, 110, 111, 112, 113, 114, 115, 116, 117, 118, 119, 120, 121, 122, 65, 66, 67, 68, 69, 70, 71, 72, 73, 74, 75, 76, 77, 78, 79, 80, 81, 82, 83, 84, 85, 86, 87, 88, 89, 90]), .int .u8 v] W fun e w' => e = .returned (.int .i64 (-1)) ∧ w' = W) := HV0.out ▸ ib_out hp3 ▸ HC2
          clear hp3 HC2
          go_wp2_with fail
          refine (HC.out w5).mono ?_
          rintro e wz ⟨rfl, hwz⟩
          rw [hwz]
          clear hwz HC
          have HC2 := hid (fun W => ib_c W digB (pk s i))
          have e45 : (v == 45) = (pk s i == 45) := by rw [HV0.out]; exact byte_eq _ 45
          have HNU := hid (number_c w5 r s i f n1 H5.out (by omega) (by omega))
          cases h45 : pk s i == 45 with
          | true =>
            as_aux_lemma =>
              rw [h45] at e45
              have HP4 := hid (show (pk s i == 45 || digB.contains (pk s i)) = true by rw [h45]; rfl)
              clear h45 HC2
              go_wp2_with fail
              refine HNU.out.mono ?_
              rintro e w7 ⟨hf7, hsome, hnone⟩
              have HF7 := hid (HF5.out.trans hf7 (fun _ _ e => e))
              have T7 := hid (show TAt w7 b 0 [] i 0 from hf7.at T5.out (by have := HB.out; show ¬ b = r; omega))
              have z0 : w7.frozen? ⟨b, 0, none⟩ = false := frozen_at T7.out 0
              have y0 : w7.cell? ⟨b, 0, none⟩ = some (.int .i64 0) := cell_at T7.out 0
              cases hnum : num s i with
              | none =>
                have hex := hnone hnum
                subst hex
                have HTK := hid (show tok1 s i = .error 51 by rw [tok_num HD1.out HP2.out HP3.out HP4.out, hnum])
                clear hsome hnone hnum hf7
                go_wp2_with fail
                exact ⟨rfl, HF7.out, (fun k l e he => by rw [HTK.out] at he; cases he), (fun c he => by rw [HTK.out] at he; injection he with he; rw [he])⟩
              | some p =>
                obtain ⟨e, k⟩ := p
                obtain ⟨rfl, h7⟩ := hsome e k hnum
                have H7 := hid h7
                have hb3 := num_le (by omega) hnum
                have HTK := hid (show tok1 s i = .ok (k, (s.drop i).take (e - i), e) by rw [tok_num HD1.out HP2.out HP3.out HP4.out, hnum])
                have HB3 := hid hb3
                clear hsome hnone hnum hf7 hb3
                go_wp2_with fail
                go_meet
                have hk4 : ¬ k = 4 := by have h : i < e ∧ e ≤ s.length ∧ (k = 2 ∨ k = 3) := HB3.out; omega
                exact ⟨rfl, k, [], e, hid (H7.out.keep (fr_set1 w7 b 0 _) (by have := HB.out; omega)), hid (by unfold TAt; rw [set_at T7.out 0]; rfl), hid (HF7.out.setCell _ (fun h => by have h : b < w.heap.size := h; have := HBE.out; omega) _), hid (by rw [if_neg hk4]; exact HTK.out), hid (fun _ => by have h : i < e ∧ e ≤ s.length ∧ (k = 2 ∨ k = 3) := HB3.out; omega)⟩
          | false =>
            rw [h45] at e45
            have H45 := hid h45
            clear h45
            cases hp4 : digB.contains (pk s i) with
            | true =>
              as_aux_lemma =>
                obtain ⟨m, hm, hml⟩ := ib_in hp4
                have HC : Hid (∀ W, Calls Tryz.prog 48 #[.string (bs [48, 49, 50, 51, 52, 53, 54, 55, 56, 57]), .int .u8 v] W fun e w' => e = .returned (.int .i64 m) ∧ w' = W) := HV0.out ▸ hm ▸ HC2
                have hm0 : (0 : Int) ≤ (m : Int) := by omega
                have HP4 := hid (show (pk s i == 45 || digB.contains (pk s i)) = true by rw [H45.out, hp4]; rfl)
                clear hp4 hm hml
                go_wp2_with fail
                refine (HC.out w5).mono ?_
                rintro e wz ⟨rfl, hwz⟩
                rw [hwz]
                clear hwz
                go_wp2_with fail
                refine HNU.out.mono ?_
                rintro e w7 ⟨hf7, hsome, hnone⟩
                have HF7 := hid (HF5.out.trans hf7 (fun _ _ e => e))
                have T7 := hid (show TAt w7 b 0 [] i 0 from hf7.at T5.out (by have := HB.out; show ¬ b = r; omega))
                have z0 : w7.frozen? ⟨b, 0, none⟩ = false := frozen_at T7.out 0
                have y0 : w7.cell? ⟨b, 0, none⟩ = some (.int .i64 0) := cell_at T7.out 0
                cases hnum : num s i with
                | none =>
                  have hex := hnone hnum
                  subst hex
                  have HTK := hid (show tok1 s i = .error 51 by rw [tok_num HD1.out HP2.out HP3.out HP4.out, hnum])
                  clear hsome hnone hnum hf7
                  go_wp2_with fail
                  exact ⟨rfl, HF7.out, (fun k l e he => by rw [HTK.out] at he; cases he), (fun c he => by rw [HTK.out] at he; injection he with he; rw [he])⟩
                | some p =>
                  obtain ⟨e, k⟩ := p
                  obtain ⟨rfl, h7⟩ := hsome e k hnum
                  have H7 := hid h7
                  have hb3 := num_le (by omega) hnum
                  have HTK := hid (show tok1 s i = .ok (k, (s.drop i).take (e - i), e) by rw [tok_num HD1.out HP2.out HP3.out HP4.out, hnum])
                  have HB3 := hid hb3
                  clear hsome hnone hnum hf7 hb3
                  go_wp2_with fail
                  go_meet
                  have hk4 : ¬ k = 4 := by have h : i < e ∧ e ≤ s.length ∧ (k = 2 ∨ k = 3) := HB3.out; omega
                  exact ⟨rfl, k, [], e, hid (H7.out.keep (fr_set1 w7 b 0 _) (by have := HB.out; omega)), hid (by unfold TAt; rw [set_at T7.out 0]; rfl), hid (HF7.out.setCell _ (fun h => by have h : b < w.heap.size := h; have := HBE.out; omega) _), hid (by rw [if_neg hk4]; exact HTK.out), hid (fun _ => by have h : i < e ∧ e ≤ s.length ∧ (k = 2 ∨ k = 3) := HB3.out; omega)⟩
            | false =>
              have HC : Hid (∀ W, Calls Tryz.prog 48 #[.string (bs [48, 49, 50, 51, 52, 53, 54, 55, 56, 57]), .int .u8 v] W fun e w' => e = .returned (.int .i64 (-1)) ∧ w' = W) := HV0.out ▸ ib_out hp4 ▸ HC2
              have HP4 := hid (show (pk s i == 45 || digB.contains (pk s i)) = false by rw [H45.out, hp4]; rfl)
              clear hp4 HC2 HNU
              go_wp2_with fail
              refine (HC.out w5).mono ?_
              rintro e wz ⟨rfl, hwz⟩
              rw [hwz]
              clear hwz HC
              go_wp2_with fail
              refine (show Calls Tryz.prog 49 #[.pointer (some ⟨r, 0, none⟩), .string (bs [34, 34, 34])] w5 _ from has_c w5 r s i f n1 H5.out (by omega) (by omega) qqqB).mono ?_
              rintro e w7 ⟨rfl, hf7⟩
              have H7 := hid (H5.out.stay hf7)
              have T7 := hid (show TAt w7 b 0 [] i 0 from hf7.at T5.out (fun f => f))
              have HF7 := hid (HF5.out.trans (fr_no (S := (· = r)) hf7) (fun _ _ e => e))
              have HV7 := hid (HV.out.one HF7.out HRR.out)
              clear hf7
              obtain ⟨D5, hD5⟩ : ∃ D5, D5 = hasP s i qqqB := ⟨_, rfl⟩
              rw [← hD5]
              have HD5 := hid hD5.symm
              clear hD5 c1 d1 e0 k0 e45
              cases D5 with
              | true =>
                as_aux_lemma =>
                  have HTX := hid (block_c w7 r s i f n1 H7.out HV7.out HRR.out (has_room HD5.out (by decide)) his)
                  go_wp2_with fail
                  refine HTX.out.mono ?_
                  rintro e w8 ⟨hf8, hsome, hnone⟩
                  have HF8 := hid (HF7.out.trans hf8 (fun _ _ e => e))
                  have T8 := hid (show TAt w8 b 0 [] i 0 from hf8.at T7.out (by have := HB.out; show ¬ b = r; omega))
                  have z0 : w8.frozen? ⟨b, 0, none⟩ = false := frozen_at T8.out 0
                  have y0 : w8.cell? ⟨b, 0, none⟩ = some (.int .i64 0) := cell_at T8.out 0
                  have z1 : w8.frozen? ⟨b, 1, none⟩ = false := frozen_at T8.out 1
                  have y1 : w8.cell? ⟨b, 1, none⟩ = some (.string (bs [])) := cell_at T8.out 1
                  cases htx : blockS s i with
                  | none =>
                    have hex := hnone htx
                    subst hex
                    have HTK := hid (show tok1 s i = .error 52 by rw [tok_blk HD1.out HP2.out HP3.out HP4.out HD5.out, htx])
                    clear hsome hnone htx hf8
                    go_wp2_with fail
                    exact ⟨rfl, HF8.out, (fun k l e he => by rw [HTK.out] at he; cases he), (fun c he => by rw [HTK.out] at he; injection he with he; rw [he])⟩
                  | some p =>
                    obtain ⟨l, e⟩ := p
                    obtain ⟨rfl, h8⟩ := hsome l e htx
                    have H8 := hid h8
                    have HTK := hid (show tok1 s i = .ok (4, l, e) by rw [tok_blk HD1.out HP2.out HP3.out HP4.out HD5.out, htx])
                    have z1 : (w8.setCell ⟨b, 0, none⟩ (.int .i64 4)).frozen? ⟨b, 1, none⟩ = false := frozen_at (set_at T8.out 0 _) 1
                    have y1 : (w8.setCell ⟨b, 0, none⟩ (.int .i64 4)).cell? ⟨b, 1, none⟩ = some (.string (bs [])) := cell_at (set_at T8.out 0 _) 1
                    clear hsome hnone htx hf8
                    go_wp2_with fail
                    go_meet
                    have F9 : Fr (· = b) w8 ((w8.setCell ⟨b, 0, none⟩ (.int .i64 4)).setCell ⟨b, 1, none⟩ (.string (bs l))) := (fr_set1 w8 b 0 _).trans (fr_set1 _ b 1 _) (fun _ _ e => e)
                    exact ⟨rfl, 4, l, e, hid (H8.out.keep F9 (by have := HB.out; omega)), hid (by unfold TAt; rw [set_at (set_at T8.out 0 _) 1]; rfl), hid (HF8.out.trans F9 (fun j hj e => absurd hj (by have h0 : b = w.heap.size := HBE.out; have e : j = b := e; omega))), hid (by rw [if_pos rfl]; exact HTK.out), hid (fun h => absurd rfl h)⟩
              | false =>
                have e34 : (v == 34) = (pk s i == 34) := by rw [HV0.out]; exact byte_eq _ 34
                cases h34 : pk s i == 34 with
                | true =>
                  as_aux_lemma =>
                    rw [h34] at e34
                    have H34 := hid h34
                    have HTX := hid (text_c w7 r s i f n1 H7.out HV7.out HRR.out hil (by omega))
                    clear h34
                    go_wp2_with fail
                    refine HTX.out.mono ?_
                    rintro e w8 ⟨hf8, hsome, hnone⟩
                    have HF8 := hid (HF7.out.trans hf8 (fun _ _ e => e))
                    have T8 := hid (show TAt w8 b 0 [] i 0 from hf8.at T7.out (by have := HB.out; show ¬ b = r; omega))
                    have z0 : w8.frozen? ⟨b, 0, none⟩ = false := frozen_at T8.out 0
                    have y0 : w8.cell? ⟨b, 0, none⟩ = some (.int .i64 0) := cell_at T8.out 0
                    have z1 : w8.frozen? ⟨b, 1, none⟩ = false := frozen_at T8.out 1
                    have y1 : w8.cell? ⟨b, 1, none⟩ = some (.string (bs [])) := cell_at T8.out 1
                    cases htx : textP s (i + 1) with
                    | none =>
                      have hex := hnone htx
                      subst hex
                      have HTK := hid (show tok1 s i = .error 52 by rw [tok_txt HD1.out HP2.out HP3.out HP4.out HD5.out H34.out, htx])
                      clear hsome hnone htx hf8
                      go_wp2_with fail
                      exact ⟨rfl, HF8.out, (fun k l e he => by rw [HTK.out] at he; cases he), (fun c he => by rw [HTK.out] at he; injection he with he; rw [he])⟩
                    | some p =>
                      obtain ⟨l, e⟩ := p
                      obtain ⟨rfl, h8⟩ := hsome l e htx
                      have H8 := hid h8
                      have HTK := hid (show tok1 s i = .ok (4, l, e) by rw [tok_txt HD1.out HP2.out HP3.out HP4.out HD5.out H34.out, htx])
                      have z1 : (w8.setCell ⟨b, 0, none⟩ (.int .i64 4)).frozen? ⟨b, 1, none⟩ = false := frozen_at (set_at T8.out 0 _) 1
                      have y1 : (w8.setCell ⟨b, 0, none⟩ (.int .i64 4)).cell? ⟨b, 1, none⟩ = some (.string (bs [])) := cell_at (set_at T8.out 0 _) 1
                      clear hsome hnone htx hf8
                      go_wp2_with fail
                      go_meet
                      have F9 : Fr (· = b) w8 ((w8.setCell ⟨b, 0, none⟩ (.int .i64 4)).setCell ⟨b, 1, none⟩ (.string (bs l))) := (fr_set1 w8 b 0 _).trans (fr_set1 _ b 1 _) (fun _ _ e => e)
                      exact ⟨rfl, 4, l, e, hid (H8.out.keep F9 (by have := HB.out; omega)), hid (by unfold TAt; rw [set_at (set_at T8.out 0 _) 1]; rfl), hid (HF8.out.trans F9 (fun j hj e => absurd hj (by have h0 : b = w.heap.size := HBE.out; have e : j = b := e; omega))), hid (by rw [if_pos rfl]; exact HTK.out), hid (fun h => absurd rfl h)⟩
                | false =>
                  rw [h34] at e34
                  have HTK := hid (tok_bad HD1.out HP2.out HP3.out HP4.out HD5.out h34)
                  have HMU := hid (must_not w7 r s i f n1 H7.out 50)
                  clear h34
                  go_wp2_with fail
                  refine HMU.out.mono ?_
                  rintro e wm ⟨rfl, hwm⟩
                  rw [hwm]
                  clear hwm
                  go_wp2_with fail
                  exact ⟨rfl, HF7.out, (fun k l e he => by rw [HTK.out] at he; cases he), (fun c he => by rw [HTK.out] at he; injection he with he; rw [he])⟩
  case rest =>
    obtain ⟨rfl, k, l, q, H6, T6, HF6, HT, HQ⟩ := hcut
    obtain ⟨wd, hwd⟩ : ∃ wd, wd = wc := ⟨_, rfl⟩
    rw [← hwd] at H6 T6 HF6 ⊢
    clear hwd
    have c1 : wd.cell? ⟨r, 1, none⟩ = some (.int .i64 q) := cell_at H6.out 1
    have z3 : wd.frozen? ⟨b, 3, none⟩ = false := frozen_at T6.out 3
    have y3 : wd.cell? ⟨b, 3, none⟩ = some (.int .i64 0) := cell_at T6.out 3
    have T7 := hid (show TAt (wd.setCell ⟨b, 3, none⟩ (.int .i64 (q : Int))) b k l i q by unfold TAt; rw [set_at T6.out 3]; rfl)
    have H7 := hid (show RdAt (wd.setCell ⟨b, 3, none⟩ (.int .i64 (q : Int))) r s q f n1 from H6.out.keep (fr_set1 wd b 3 _) (by have := HB.out; omega))
    have HF7 := hid (show Fr (· = r) w (wd.setCell ⟨b, 3, none⟩ (.int .i64 (q : Int))) from HF6.out.setCell _ (fun h => by have h : b < w.heap.size := h; have := HBE.out; omega) _)
    go_upto_region 20 with fail
    obtain ⟨we, hwe⟩ : ∃ we, we = wd.setCell ⟨b, 3, none⟩ (.int .i64 (q : Int)) := ⟨_, rfl⟩
    rw [← hwe] at H7 T7 HF7 ⊢
    clear hwe c1 z3 y3 H6 T6 HF6
    have m0 : we.cell? ⟨b, 0, none⟩ = some (.int .i64 k) := cell_at T7.out 0
    have m1 : we.cell? ⟨b, 1, none⟩ = some (.string (bs l)) := cell_at T7.out 1
    have m2 : we.cell? ⟨b, 2, none⟩ = some (.int .i64 i) := cell_at T7.out 2
    have m3 : we.cell? ⟨b, 3, none⟩ = some (.int .i64 q) := cell_at T7.out 3
    by_cases hk : k = 4
    · subst hk
      have HT4 := hid (show tok1 s i = .ok (4, l, q) from HT.out)
      clear m0 m1 m2 m3
      have m0 : we.cell? ⟨b, 0, none⟩ = some (.int .i64 4) := cell_at T7.out 0
      have m1 : we.cell? ⟨b, 1, none⟩ = some (.string (bs l)) := cell_at T7.out 1
      have m2 : we.cell? ⟨b, 2, none⟩ = some (.int .i64 i) := cell_at T7.out 2
      have m3 : we.cell? ⟨b, 3, none⟩ = some (.int .i64 q) := cell_at T7.out 3
      have S1 := T7.out.same.1
      have S2 := S1.same.2.1
      have S3 := S2.same.2.2.1
      have S4 := S3.same.2.2.2
      have FR : Fr (· = b) we ((((we.setCell ⟨b, 0, none⟩ (.int .i64 4)).setCell ⟨b, 1, none⟩ (.string (bs l))).setCell ⟨b, 2, none⟩ (.int .i64 (i : Int))).setCell ⟨b, 3, none⟩ (.int .i64 (q : Int))) := (((fr_set1 we b 0 _).trans (fr_set1 _ b 1 _) (fun _ _ e => e)).trans (fr_set1 _ b 2 _) (fun _ _ e => e)).trans (fr_set1 _ b 3 _) (fun _ _ e => e)
      have HZ := hid (show RdAt ((((we.setCell ⟨b, 0, none⟩ (.int .i64 4)).setCell ⟨b, 1, none⟩ (.string (bs l))).setCell ⟨b, 2, none⟩ (.int .i64 (i : Int))).setCell ⟨b, 3, none⟩ (.int .i64 (q : Int))) r s q f n1 from H7.out.keep FR (by have := HB.out; omega))
      have HFZ := hid (show Fr (· = r) w ((((we.setCell ⟨b, 0, none⟩ (.int .i64 4)).setCell ⟨b, 1, none⟩ (.string (bs l))).setCell ⟨b, 2, none⟩ (.int .i64 (i : Int))).setCell ⟨b, 3, none⟩ (.int .i64 (q : Int))) from HF7.out.trans FR (fun j hj e => absurd hj (by have h0 : b = w.heap.size := HBE.out; have e : j = b := e; omega)))
      have a0 : we.frozen? ⟨b, 0, none⟩ = false := frozen_at T7.out 0
      have a1 := frozen_at S1 1
      have a2 := frozen_at S2 2
      have a3 := frozen_at S3 3
      have b1 := cell_at S1 1
      have b2 := cell_at S2 2
      have b3 := cell_at S3 3
      have d0 := cell_at S4 0
      have d1 := cell_at S4 1
      have d2 := cell_at S4 2
      have d3 := cell_at S4 3
      clear S1 S2 S3 S4 FR
      go_wp2_with fail
      refine bodyPost_ret (v := tokV 4 l i q) ?_ rfl ?_
      · rw [results_cell rfl]
        simp [asAddr, Result.andThen, go_sem, d0, d1, d2, d3, tokV]
      exact ⟨HFZ.out, (fun k l e he => by rw [HT4.out] at he; injection he with he; injection he with e1 e2; injection e2 with e2 e3; subst e1 e2 e3; exact ⟨rfl, HN1.out ▸ HZ.out⟩), (fun c he => by rw [HT4.out] at he; cases he)⟩
    · have hkb : (k == 4) = false := by simp [hk]
      have hq := HQ.out hk
      have HTK := hid (show tok1 s i = .ok (k, (s.drop i).take (q - i), q) by have := HT.out; rwa [if_neg hk] at this)
      have sl : ∀ W, (Instr.slice 9 (.string (bs s)) (some (.int .i64 (i : Int))) (some (.int .i64 (q : Int))) none).run Tryz.prog W = .ok (.string (bs ((s.drop i).take (q - i)))) W := fun W => by
        rw [slice_str 9 Tryz.underlying9 W s (i : Int) (q : Int) (by omega) (by omega) (by omega)]
        rw [Int.toNat_natCast, Int.toNat_natCast]
      obtain ⟨L, hL⟩ : ∃ L, L = (s.drop i).take (q - i) := ⟨_, rfl⟩
      rw [← hL] at sl HTK
      have c0 : we.cell? ⟨r, 0, none⟩ = some (.string (bs s)) := cell_at H7.out 0
      have a1 : we.frozen? ⟨b, 1, none⟩ = false := frozen_at T7.out 1
      have T8 := hid (show TAt (we.setCell ⟨b, 1, none⟩ (.string (bs L))) b k L i q by unfold TAt; rw [set_at T7.out 1]; rfl)
      have H8 := hid (show RdAt (we.setCell ⟨b, 1, none⟩ (.string (bs L))) r s q f n1 from H7.out.keep (fr_set1 we b 1 _) (by have := HB.out; omega))
      have HF8 := hid (show Fr (· = r) w (we.setCell ⟨b, 1, none⟩ (.string (bs L))) from HF7.out.setCell _ (fun h => by have h : b < w.heap.size := h; have := HBE.out; omega) _)
      clear hL
      go_upto_region 21 with fail
      go_region
      obtain ⟨wf, hwf⟩ : ∃ wf, wf = (we.setCell ⟨b, 1, none⟩ (.string (bs L))).drew := ⟨_, rfl⟩
      rw [← hwf]
      have hff : Fr (fun _ => False) (we.setCell ⟨b, 1, none⟩ (.string (bs L))) wf := hwf ▸ (Fr.refl _ _).drew
      have T9 := hid (show TAt wf b k L i q from hff.at T8.out (fun f => f))
      have H9 := hid (H8.out.stay hff)
      have HF9 := hid (HF8.out.trans (fr_no (S := (· = r)) hff) (fun _ _ e => e))
      clear hwf hff m0 m1 m2 m3 a1 c0 T7 T8 H7 H8 HF7 HF8 sl
      have m0 : wf.cell? ⟨b, 0, none⟩ = some (.int .i64 k) := cell_at T9.out 0
      have m1 : wf.cell? ⟨b, 1, none⟩ = some (.string (bs L)) := cell_at T9.out 1
      have m2 : wf.cell? ⟨b, 2, none⟩ = some (.int .i64 i) := cell_at T9.out 2
      have m3 : wf.cell? ⟨b, 3, none⟩ = some (.int .i64 q) := cell_at T9.out 3
      have S1 := T9.out.same.1
      have S2 := S1.same.2.1
      have S3 := S2.same.2.2.1
      have S4 := S3.same.2.2.2
      have FR : Fr (· = b) wf ((((wf.setCell ⟨b, 0, none⟩ (.int .i64 k)).setCell ⟨b, 1, none⟩ (.string (bs L))).setCell ⟨b, 2, none⟩ (.int .i64 (i : Int))).setCell ⟨b, 3, none⟩ (.int .i64 (q : Int))) := (((fr_set1 wf b 0 _).trans (fr_set1 _ b 1 _) (fun _ _ e => e)).trans (fr_set1 _ b 2 _) (fun _ _ e => e)).trans (fr_set1 _ b 3 _) (fun _ _ e => e)
      have HZ := hid (show RdAt ((((wf.setCell ⟨b, 0, none⟩ (.int .i64 k)).setCell ⟨b, 1, none⟩ (.string (bs L))).setCell ⟨b, 2, none⟩ (.int .i64 (i : Int))).setCell ⟨b, 3, none⟩ (.int .i64 (q : Int))) r s q f n1 from H9.out.keep FR (by have := HB.out; omega))
      have HFZ := hid (show Fr (· = r) w ((((wf.setCell ⟨b, 0, none⟩ (.int .i64 k)).setCell ⟨b, 1, none⟩ (.string (bs L))).setCell ⟨b, 2, none⟩ (.int .i64 (i : Int))).setCell ⟨b, 3, none⟩ (.int .i64 (q : Int))) from HF9.out.trans FR (fun j hj e => absurd hj (by have h0 : b = w.heap.size := HBE.out; have e : j = b := e; omega)))
      have a0 : wf.frozen? ⟨b, 0, none⟩ = false := frozen_at T9.out 0
      have a1 := frozen_at S1 1
      have a2 := frozen_at S2 2
      have a3 := frozen_at S3 3
      have b1 := cell_at S1 1
      have b2 := cell_at S2 2
      have b3 := cell_at S3 3
      have d0 := cell_at S4 0
      have d1 := cell_at S4 1
      have d2 := cell_at S4 2
      have d3 := cell_at S4 3
      clear S1 S2 S3 S4 FR
      go_wp2_with fail
      refine bodyPost_ret (v := tokV k L i q) ?_ rfl ?_
      · rw [results_cell rfl]
        simp [asAddr, Result.andThen, go_sem, d0, d1, d2, d3, tokV]
      exact ⟨HFZ.out, (fun k l e he => by rw [HTK.out] at he; injection he with he; injection he with e1 e2; injection e2 with e2 e3; subst e1 e2 e3; exact ⟨rfl, HN1.out ▸ HZ.out⟩), (fun c he => by rw [HTK.out] at he; cases he)⟩

end Go.Proofs.YtbmfmnkfdfdjbaaGreatDoor.D
