/-
  PagerTakes. No condition.
-/
import Derived.Test.YtjkhcfdflcndkaaGT0
namespace Go.Proofs.Ytjkhcfdflcndkaa.D
open Go.RowKit Go.Maps Go.Shelf
set_option linter.unusedVariables false
set_option linter.unusedSimpArgs false

/-- A pager of n pages, of which the first k are taken. -/
def tkP (n k : Nat) : PSt := { laidP n with taken := fun j => decide (0 ≤ j) && decide (j < (k : Int)) }
theorem tk_ext (P : PSt) (f : Int → Bool) (h : f = P.taken) : { P with taken := f } = P := by
  subst h
  rfl
theorem tk_ext2 (P : PSt) (f h : Int → Bool) (e : f = h) : { P with taken := f } = { P with taken := h } := by rw [e]
theorem tk_zero (n : Nat) : tkP n 0 = laidP n := by
  refine tk_ext (laidP n) _ ?_
  funext j
  show _ = false
  rw [Bool.eq_false_iff]
  intro h
  simp at h
  omega
theorem tk_used (n k : Nat) (i : Nat) : (tkP n k).used (i : Int) = decide (i < k) := by
  show (false || (decide (0 ≤ (i : Int)) && decide ((i : Int) < (k : Int)))) = _
  rw [Bool.eq_iff_iff]
  simp
theorem tk_pick (n k : Nat) : ∀ d i, i ≤ k → k < i + d → (tkP n k).pick d i = some k
  | 0, i, h1, h2 => by omega
  | d + 1, i, h1, h2 => by
    rw [PSt.pick, tk_used]
    by_cases e : i = k
    · rw [if_neg (by simp [e]), e]
    · rw [if_pos (by simp; omega)]
      exact tk_pick n k d (i + 1) (by omega) (by omega)
theorem tk_full (n : Nat) : ∀ d i, i + d ≤ n → (tkP n n).pick d i = none
  | 0, i, h => rfl
  | d + 1, i, h => by
    rw [PSt.pick, tk_used, if_pos (by simp; omega)]
    exact tk_full n d (i + 1) (by omega)
theorem tk_alloc {n k : Nat} (h : k < n) : (tkP n k).alloc = (tkP n (k + 1), (k : Int), 0) := by
  unfold PSt.alloc
  rw [show (tkP n k).pages = n from rfl, tk_pick n k n 0 (by omega) (by omega)]
  simp only
  congr 1
  refine tk_ext2 (laidP n) _ _ ?_
  funext j
  show (j == (k : Int) || (decide (0 ≤ j) && decide (j < (k : Int)))) = (decide (0 ≤ j) && decide (j < ((k + 1 : Nat) : Int)))
  rw [Bool.eq_iff_iff]
  simp
  omega
theorem tk_alloc_full (n : Nat) : (tkP n n).alloc = (tkP n n, 0, 192) := by
  unfold PSt.alloc
  rw [show (tkP n n).pages = n from rfl, tk_full n n 0 (by omega)]
theorem tk_drop (n k : Nat) : (tkP n k).drop = tkP n 0 := by
  refine tk_ext2 (laidP n) _ _ ?_
  funext j
  rw [eq_comm, Bool.eq_false_iff]
  intro h
  simp at h
  omega
theorem tk_freeTo (n k : Nat) : ∀ i, (tkP n k).freeTo i = i - k
  | 0 => by rw [PSt.freeTo, Nat.zero_sub]
  | i + 1 => by
    rw [PSt.freeTo, tk_used, tk_freeTo n k i]
    by_cases h : i < k
    · rw [if_pos (by simpa using h)]; omega
    · rw [if_neg (by simpa using h)]; omega
theorem tk_free (n k : Nat) : (tkP n k).free = n - k := tk_freeTo n k n
theorem tk_ok {n k : Nat} (h1 : 1 ≤ n) (h2 : n ≤ 60) (h3 : k ≤ n) : (tkP n k).Ok (2 + 8 * n) := by
  refine ⟨by show 2 ≤ 2; omega, h1, by show n ≤ 4096; omega, by show 2 + 8 * n ≤ _; omega, by show (-1 : Int) ≤ -1; omega, by show (-1 : Int) < (n : Int); omega, by show 1 ≤ 1; omega, by show 1 ≤ _; omega, by show 1 ≤ 2; omega, by show 2 ≤ _; omega, (fun i hi => by cases hi), fun i hi => ?_⟩
  have hi : (decide (0 ≤ i) && decide (i < (k : Int))) = true := hi
  simp at hi
  show 0 ≤ i ∧ i < (n : Int)
  omega

set_option maxHeartbeats 8000000 in
set_option maxRecDepth 100000 in
theorem takes_law (w : World) (a b : Int) (ha : -9223372036854775808 ≤ a) (ha2 : a ≤ 9223372036854775807) (hb : -9223372036854775808 ≤ b) (hb2 : b ≤ 9223372036854775807) :
    Calls Try.prog 3 #[.int .i64 a, .int .i64 b] w fun e w' => e = .returned (.bool true) ∧ Fr (fun _ => False) w w' := by
  obtain ⟨n, hn⟩ : ∃ n : Nat, (n : Int) = max 1 (min a 60) := ⟨(max 1 (min a 60)).toNat, by omega⟩
  have h1 : 1 ≤ n := by omega
  have h2 : n ≤ 60 := by omega
  have hmin : ∀ w, (Builtin.min_ #[3, 3] 3 #[.int .i64 a, .int .i64 60]).run Try.prog w = .ok (.int .i64 (min a 60)) w := by
    intro w
    rw [run_min_int2]
    congr 2
    split <;> omega
  have hmax : ∀ w, (Builtin.max_ #[3, 3] 3 #[.int .i64 1, .int .i64 (min a 60)]).run Try.prog w = .ok (.int .i64 (n : Int)) w := by
    intro w
    rw [run_max_int2]
    congr 2
    split <;> omega
  have HLO := hid (laidOut_c w n h1 h2)
  have HN := hid hn
  obtain ⟨S, hS⟩ : ∃ S, S = (fmtP (laidS n) 1).1 := ⟨_, rfl⟩
  rw [← hS] at HLO
  have HSN := hid (show S.n = 2 + 8 * n by rw [hS, (fmt_ok (S := laidS n) (news_ok (laid_image h2)) 1).2]; exact laid_n n)
  obtain ⟨q, hq⟩ : ∃ q, q = min a 60 := ⟨_, rfl⟩
  rw [← hq] at hmin hmax
  clear hn hS hq
  go_enter Try.func3, Try.ntmps3
  go_wp2_with fail
  refine HLO.out.mono ?_
  rintro e w1 ⟨p, g, bm, ml, mt, rfl, hP1⟩
  rw [← tk_zero n] at hP1
  have HP1 := hid hP1
  clear hP1
  go_wp2_with fail
  go_loopw [7] (fun v wr => ∃ t : Nat, v = .int .i64 t ∧ t ≤ 2 ∧ Hid (PW w wr p g bm ml mt (tkP n 0) S)) (fun v _ => 2 - (intOf v).toNat)
  case atStart => exact ⟨0, rfl, by omega, HP1⟩
  case round =>
    obtain ⟨t, rfl, ht, HP⟩ := hrel
    by_cases hend : t = 2
    · subst hend
      have HX := hid (fixed_c wr)
      go_wp2_with fail
      refine HX.out.mono ?_
      rintro e w3 ⟨rfl, hf3⟩
      have HF3 := hid (HP.out.fr.trans hf3 (fun _ _ f => f))
      clear hf3
      go_wp2_with fail
      go_ret
      exact ⟨rfl, HF3.out⟩
    · have ht2 : t < 2 := by omega
      obtain ⟨wo, rfl⟩ : ∃ wo : World, wo = wr := ⟨_, rfl⟩
      clear hend ht
      go_wp2_with fail
      go_loopw [8] (fun v wr => ∃ i : Nat, v = .int .i64 i ∧ i ≤ n ∧ Hid (PW w wr p g bm ml mt (tkP n i) S)) (fun v _ => n - (intOf v).toNat)
      case atStart => exact ⟨0, rfl, by omega, HP⟩
      case round =>
        obtain ⟨i, rfl, hi, HPi⟩ := hrel
        have HDR := hid (fun (W : World) (k : Nat) (h : PW w W p g bm ml mt (tkP n k) S) => show Calls Try.prog 8 #[.pointer (some ⟨p, 0, none⟩)] W fun e w' => e = .returned (.tuple #[]) ∧ PD w' p g bm ml mt (tkP n 0) S ∧ Fr (fun i => i = mt) W w' from by
          have := pdrop_c W p g bm ml mt (tkP n k) S h.pd
          rwa [tk_drop] at this)
        have HFE := hid (fun (W : World) (k : Nat) (h : PW w W p g bm ml mt (tkP n k) S) => show Calls Try.prog 7 #[.pointer (some ⟨p, 0, none⟩)] W fun e w' => e = .returned (.int .i64 ((n - k : Nat) : Int)) ∧ Fr (fun _ => False) W w' from by
          have := free_c W p g ml mt (tkP n k) h.pd.pa (by show n ≤ 4096; omega)
          rwa [tk_free] at this)
        by_cases hin : i = n
        · subst hin
          by_cases h9 : t = 1
          · subst h9
            have HAL := hid (show Calls Try.prog 6 #[.pointer (some ⟨p, 0, none⟩)] wr fun e w' => e = .returned (.tuple #[.int .i64 0, .int .i64 192]) ∧ PD w' p g bm ml mt (tkP i i) S ∧ Fr (fun i => i = mt) wr w' from by
              have := palloc_c wr p g bm ml mt (tkP i i) S HPi.out.pd (by rw [HSN.out]; exact tk_ok h1 h2 (Nat.le_refl _))
              rwa [tk_alloc_full] at this)
            go_wp2_with fail
            refine HAL.out.mono ?_
            rintro e w4 ⟨rfl, hd4, hf4⟩
            have HP4 := hid (HPi.out.mturn hd4 hf4)
            clear hd4 hf4
            go_wp2_with fail
            refine (HDR.out _ i HP4.out).mono ?_
            rintro e w5 ⟨rfl, hd5, hf5⟩
            have HP5 := hid (HP4.out.mturn hd5 hf5)
            clear hd5 hf5
            go_wp2_with fail
            refine (HFE.out _ 0 HP5.out).mono ?_
            rintro e w6 ⟨rfl, hf6⟩
            have HP6 := hid (HP5.out.stay hf6)
            have e0 : ((i - 0 : Nat) : Int) = (i : Int) := by omega
            clear hf6
            rw [e0]
            go_wp2_with fail
            exact ⟨⟨2, rfl, by omega, HP6⟩, by simp [intOf]⟩
          · have h0 : t = 0 := by omega
            subst h0
            go_wp2_with fail
            refine (HDR.out _ i HPi.out).mono ?_
            rintro e w5 ⟨rfl, hd5, hf5⟩
            have HP5 := hid (HPi.out.mturn hd5 hf5)
            clear hd5 hf5
            go_wp2_with fail
            refine (HFE.out _ 0 HP5.out).mono ?_
            rintro e w6 ⟨rfl, hf6⟩
            have HP6 := hid (HP5.out.stay hf6)
            have e0 : ((i - 0 : Nat) : Int) = (i : Int) := by omega
            clear hf6
            rw [e0]
            go_wp2_with fail
            exact ⟨⟨1, rfl, by omega, HP6⟩, by simp [intOf]⟩
        · have hin' : i < n := by omega
          have HAL := hid (show Calls Try.prog 6 #[.pointer (some ⟨p, 0, none⟩)] wr fun e w' => e = .returned (.tuple #[.int .i64 (i : Int), .int .i64 0]) ∧ PD w' p g bm ml mt (tkP n (i + 1)) S ∧ Fr (fun i => i = mt) wr w' from by
            have := palloc_c wr p g bm ml mt (tkP n i) S HPi.out.pd (by rw [HSN.out]; exact tk_ok h1 h2 (by omega))
            rwa [tk_alloc hin'] at this)
          have e1 : ((n - (i + 1) : Nat) : Int) = (n : Int) - 1 - i := by omega
          clear hin
          go_wp2_with fail
          refine HAL.out.mono ?_
          rintro e w4 ⟨rfl, hd4, hf4⟩
          have HP4 := hid (HPi.out.mturn hd4 hf4)
          clear hd4 hf4
          go_wp2_with fail
          refine (HFE.out _ (i + 1) HP4.out).mono ?_
          rintro e w5 ⟨rfl, hf5⟩
          have HP5 := hid (HP4.out.stay hf5)
          clear hf5
          rw [e1]
          clear e1
          by_cases h9 : t = 0
          · subst h9
            by_cases hb9 : (i : Int) = b
            · have q : ((i : Int) == b) = true := by simpa using hb9
              clear hb9
              go_wp2_with fail
              refine (HDR.out _ (i + 1) HP5.out).mono ?_
              rintro e w6 ⟨rfl, hd6, hf6⟩
              have HP6 := hid (HP5.out.mturn hd6 hf6)
              clear hd6 hf6
              go_wp2_with fail
              refine (HFE.out _ 0 HP6.out).mono ?_
              rintro e w7 ⟨rfl, hf7⟩
              have HP7 := hid (HP6.out.stay hf7)
              have e0 : ((n - 0 : Nat) : Int) = (n : Int) := by omega
              clear hf7
              rw [e0]
              go_wp2_with fail
              exact ⟨⟨1, rfl, by omega, HP7⟩, by simp [intOf]⟩
            · have q : ((i : Int) == b) = false := by simpa using hb9
              clear hb9
              go_wp2_with fail
              go_roundw
              case rel => ((repeat apply Exists.intro); exact ⟨⟨i + 1, by go_num, by omega, HP5⟩, rfl⟩)
              case measure => simp [intOf]; omega
          · have h0 : t = 1 := by omega
            subst h0
            go_wp2_with fail
            go_roundw
            case rel => ((repeat apply Exists.intro); exact ⟨⟨i + 1, by go_num, by omega, HP5⟩, rfl⟩)
            case measure => simp [intOf]; omega

end Go.Proofs.Ytjkhcfdflcndkaa.D
