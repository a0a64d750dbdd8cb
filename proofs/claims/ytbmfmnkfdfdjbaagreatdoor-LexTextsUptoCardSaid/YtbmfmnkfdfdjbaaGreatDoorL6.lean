/-
  The reader reads a number. No condition beyond the sizes that are named.
-/
import Derived.Test.YtbmfmnkfdfdjbaaGreatDoorL5
import Derived.Deep.DeepCutAuto
import Derived.Deep.CutBlock
import Derived.Deep.CutRange
namespace Go.Proofs.YtbmfmnkfdfdjbaaGreatDoor.D
open Go.RowKit Go.Shelf
set_option linter.unusedVariables false
set_option linter.unusedSimpArgs false

def digB : List UInt8 := [48, 49, 50, 51, 52, 53, 54, 55, 56, 57]
def letB : List UInt8 := [95, 97, 98, 99, 100, 101, 102, 103, 104, 105, 106, 107, 108, 109, 110, 111, 112, 113, 114, 115, 116, 117, 118, 119, 120, 121, 122, 65, 66, 67, 68, 69, 70, 71, 72, 73, 74, 75, 76, 77, 78, 79, 80, 81, 82, 83, 84, 85, 86, 87, 88, 89, 90]
/-- Behind a sign, if one comes. -/
def sgn (s : List UInt8) (i : Nat) (c : UInt8) : Nat := if skips s i c then i + 1 else i
/-- Behind digits, if some come. -/
def digs (s : List UInt8) (i : Nat) : Option Nat := if 0 < runN digB (s.drop i) then some (i + runN digB (s.drop i)) else none
def num2 (s : List UInt8) (i : Nat) : Option Nat := if pk s i = 48 then some (i + 1) else digs s i
def num3 (s : List UInt8) (i : Nat) : Option (Nat × Int) := if skips s i 46 then (digs s (i + 1)).map (fun j => (j, 3)) else some (i, 2)
def esgn (s : List UInt8) (i : Nat) : Nat := if skips s i 43 then i + 1 else sgn s i 45
def num4 (s : List UInt8) (i : Nat) (k : Int) : Option (Nat × Int) := if skips s i 101 || skips s i 69 then (digs s (esgn s (i + 1))).map (fun j => (j, 3)) else some (i, k)
def numEnd (s : List UInt8) (i : Nat) : Bool := decide (i = s.length) || !((letB ++ digB ++ [46]).contains (pk s i))
/-- A number's end and kind. -/
def num (s : List UInt8) (i : Nat) : Option (Nat × Int) :=
  (num2 s (sgn s i 45)).bind fun j => (num3 s j).bind fun p => (num4 s p.1 p.2).bind fun q => if numEnd s q.1 then some q else none

def NumPost (w : World) (r : Nat) (s : List UInt8) (i f n : Nat) (x : Ending) (w' : World) : Prop :=
  Fr (· = r) w w' ∧ (∀ e k, num s i = some (e, k) → x = .returned (.int .i64 k) ∧ RdAt w' r s e f n) ∧ (num s i = none → x = .panicked (wrongAt f 51))

theorem skips_le {s : List UInt8} {i : Nat} {c : UInt8} (hi : i ≤ s.length) : sgn s i c ≤ s.length := by
  unfold sgn skips
  split
  · rename_i h
    simp at h
    omega
  · exact hi
theorem skips_lt {s : List UInt8} {i : Nat} {c : UInt8} (h : skips s i c = true) : i + 1 ≤ s.length := by
  unfold skips at h
  simp at h
  omega
theorem digs_le {s : List UInt8} {i j : Nat} (hi : i ≤ s.length) (h : digs s i = some j) : j ≤ s.length := by
  unfold digs at h
  split at h
  · injection h with h
    have := runN_le digB s i
    omega
  · cases h

/-- An operation of a drawn region taken first; its slot named. -/
theorem tkN {P : Program} {md : Region.Mode} {ops : Array Oper} {Q : Exit → Act → World → Prop} {S : World → Prop} {i : Nat} {d : Option Nat} {oi : Oper} {v : Value} {fuel : Nat} {listed : Array Bool} {a : Act} {w : World} (hi : ops[i]? = some oi) (hd : oi.dst = d)
    (hs : Region.noSelect ops = true) (hf : Region.free md ops listed i = true) (hr : (Region.ready md ops listed).contains i = true)
    (hQ : ∀ c a w, Q (.panic c) (a.put oi.dst v) w → Q (.panic c) a w) (hy : YieldsIf P ops S oi v a) (hS : S w)
    (h : wpAnyH P md ops Q S fuel (listed.setIfInBounds i true) (a.put d v) w) : wpAnyH P md ops Q S (fuel + 1) listed a w := by
  subst hd
  exact wpAnyH_take hi hs hf hr hQ hy hS h

set_option maxHeartbeats 1000000 in
set_option maxRecDepth 100000 in
theorem number_c (w : World) (r : Nat) (s : List UInt8) (i f n : Nat) (h : RdAt w r s i f n) (hi : i ≤ s.length) (hs : s.length ≤ 1048576) :
    Calls Tryz.prog 53 #[.pointer (some ⟨r, 0, none⟩)] w (NumPost w r s i f n) := by
  have H := hid h
  have HI := hid hi
  have HS := hid hs
  have SK := hid (fun (W : World) (j : Nat) (c : UInt8) (h : RdAt W r s j f n) (hj : j ≤ s.length) => skip_c W r s j f n h HS.out hj c)
  have PK := hid (fun (W : World) (j : Nat) (h : RdAt W r s j f n) (hj : j ≤ s.length) => peek_c W r s j f n h HS.out hj 0 (by omega))
  have RN := hid (fun (W : World) (j : Nat) (h : RdAt W r s j f n) (hj : j ≤ s.length) => show Calls Tryz.prog 52 #[.pointer (some ⟨r, 0, none⟩), .string (bs [48, 49, 50, 51, 52, 53, 54, 55, 56, 57])] W fun x w' => x = .returned (.int .i64 (runN digB (s.drop j))) ∧ RdAt w' r s (j + runN digB (s.drop j)) f n ∧ Fr (· = r) W w' from run_c W r s j f n h HS.out hj digB)
  clear h hi hs
  go_enter Tryz.func53, Tryz.ntmps53
  go_wp2_with fail
  refine (show Calls Tryz.prog 64 #[.pointer (some ⟨r, 0, none⟩), .int .u8 45] w _ from SK.out w i 45 H.out HI.out).mono ?_
  rintro e w1 ⟨rfl, h1, hf1⟩
  obtain ⟨i1, hi1⟩ : ∃ j, j = sgn s i 45 := ⟨_, rfl⟩
  have HI1 := hid (show i1 ≤ s.length from hi1 ▸ skips_le HI.out)
  have H1 := hid (show RdAt w1 r s i1 f n from by rw [hi1]; exact h1)
  have HF1 := hid hf1
  have HE1 := hid hi1
  clear h1 hf1 hi1
  go_upto_if 8 with fail
  refine (PK.out w1 i1 H1.out HI1.out).mono ?_
  rintro e w2 ⟨rfl, hf2⟩
  have H2 := hid (H1.out.stay hf2)
  have HF2 := hid (HF1.out.trans (fr_no (S := (· = r)) hf2) (fun _ _ e => e))
  clear hf2
  go_upto_if 8 with fail
  have HN1 := hid (show num s i = (num2 s i1).bind fun j => (num3 s j).bind fun p => (num4 s p.1 p.2).bind fun q => if numEnd s q.1 then some q else none by rw [HE1.out]; rfl)
  go_cut [3] (fun s3 wy => s3 = .int .i64 2 ∧ ∃ j : Nat, Hid (num s i = (num3 s j).bind fun p => (num4 s p.1 p.2).bind fun q => if numEnd s q.1 then some q else none) ∧ Hid (j ≤ s.length) ∧ Hid (RdAt wy r s j f n) ∧ Hid (Fr (· = r) w wy))
  case first =>
    have k1 : w2.cell? ⟨r, 1, none⟩ = some (.int .i64 i1) := cell_at H2.out 1
    have kf : w2.frozen? ⟨r, 1, none⟩ = false := frozen_at H2.out 1
    have HB1 : Hid (i1 ≤ s.length) := HI1
    have hi2 : i1 ≤ 1048576 := by have h1 : i1 ≤ s.length := HI1.out; have h2 : s.length ≤ 1048576 := HS.out; omega
    by_cases h48 : pk s i1 = 48
    · have e48 : (((pk s i1).toNat : Int) == 48) = true := by rw [h48]; rfl
      have HN2 := hid (show num2 s i1 = some (i1 + 1) by unfold num2; rw [if_pos h48])
      have HLT := hid (show i1 + 1 ≤ s.length by
        have h1 : ¬ s.length ≤ i1 := fun e => by
          have : pk s i1 = 0 := by unfold pk; rw [List.getD_eq_getElem?_getD, List.getElem?_eq_none e]; rfl
          rw [this] at h48
          cases h48
        omega)
      clear h48
      go_wp2_with fail
      go_meet
      exact ⟨rfl, i1 + 1, hid (by rw [HN1.out, HN2.out]; rfl), HLT, hid (by have := RdAt.move (w := w2) H2.out (i1 + 1); simpa using this), hid (HF2.out.trans (fr_set1 _ r 1 _) (fun _ _ e => e))⟩
    · have HP48 := hid h48
      have e48 : (((pk s i1).toNat : Int) == 48) = false := by
        have h2 : (pk s i1).toNat ≠ 48 := fun e => h48 (UInt8.toNat_inj.1 e)
        simp
        omega
      clear h48
      go_wp2_with fail
      refine (RN.out w2 (i1) H2.out HI1.out).mono ?_
      rintro e wq ⟨rfl, hq, hfq⟩
      have HLQ := hid (runN_le digB s (i1))
      obtain ⟨R, hR⟩ : ∃ R, R = runN digB (s.drop (i1)) := ⟨_, rfl⟩
      rw [← hR] at hq HLQ ⊢
      have Hq := hid hq
      have HFq := hid (HF2.out.trans hfq (fun _ _ e => e))
      by_cases hp : 0 < R
      · have HDG := hid (show digs s (i1) = some (i1 + R) by unfold digs; rw [← hR, if_pos hp])
        have hd : (0 : Int) < (R : Int) := by omega
        have HMU := hid (must_c wq r s (i1 + R) f n Hq.out 51)
        clear hq hfq hR
        go_wp2_with fail
        refine HMU.out.mono ?_
        rintro e wm ⟨rfl, rfl⟩
        go_wp2_with fail
        go_meet
        exact ⟨rfl, i1 + R, hid (by rw [HN1.out, num2, if_neg HP48.out, HDG.out]; rfl), hid (by have h1 := HLQ.out; have h2 : i1 ≤ s.length := HI1.out; omega), Hq, HFq⟩

      · have HDG := hid (show digs s (i1) = none by unfold digs; rw [← hR, if_neg hp])
        have hd : decide ((0 : Int) < (R : Int)) = false := by simp; omega
        have HMU := hid (must_not wq r s (i1 + R) f n Hq.out 51)
        clear hq hfq hR
        go_wp2_with fail
        refine HMU.out.mono ?_
        rintro e wm ⟨rfl, rfl⟩
        go_wp2_with fail
        have hn : num s i = none := by rw [HN1.out]; simp [num2, HP48.out, HDG.out]
        exact ⟨rfl, HFq.out, (fun e k he => by rw [hn] at he; cases he), fun _ => rfl⟩

  case rest =>
    obtain ⟨rfl, j, HN2, HJ, HA, HF3⟩ := hcut
    obtain ⟨wd, hwd⟩ : ∃ wd, wd = wc := ⟨_, rfl⟩
    rw [← hwd] at HA HF3 ⊢
    clear hwd H1 H2 HF1 HF2 HN1 HE1 HI1
    go_upto_if 22 with fail
    refine (show Calls Tryz.prog 64 #[.pointer (some ⟨r, 0, none⟩), .int .u8 46] wd _ from SK.out wd j 46 HA.out HJ.out).mono ?_
    rintro e w4 ⟨rfl, h4, hf4⟩
    have HF4 := hid (HF3.out.trans hf4 (fun _ _ e => e))
    have H4 := hid h4
    clear h4 hf4
    go_upto_if 22 with fail
    go_cut [3] (fun s3 wy => ∃ (k : Int) (q : Nat), s3 = .int .i64 k ∧ Hid (num s i = (num4 s q k).bind fun q => if numEnd s q.1 then some q else none) ∧ Hid (q ≤ s.length) ∧ Hid (RdAt wy r s q f n) ∧ Hid (Fr (· = r) w wy))
    case first =>
      cases hsk : skips s j 46 with
      | true =>
        have HLT := hid (skips_lt hsk)
        have H5 := hid (show RdAt w4 r s (j + 1) f n by have := H4.out; rwa [hsk, if_pos rfl] at this)
        have HN3 := hid (show num3 s j = (digs s (j + 1)).map (fun j => (j, 3)) from by unfold num3; rw [hsk]; rfl)
        clear hsk
        go_wp2_with fail
        refine (RN.out w4 (j + 1) H5.out HLT.out).mono ?_
        rintro e wq ⟨rfl, hq, hfq⟩
        have HLQ := hid (runN_le digB s (j + 1))
        obtain ⟨R, hR⟩ : ∃ R, R = runN digB (s.drop (j + 1)) := ⟨_, rfl⟩
        rw [← hR] at hq HLQ ⊢
        have Hq := hid hq
        have HFq := hid (HF4.out.trans hfq (fun _ _ e => e))
        by_cases hp : 0 < R
        · have HDG := hid (show digs s (j + 1) = some (j + 1 + R) by unfold digs; rw [← hR, if_pos hp])
          have hd : (0 : Int) < (R : Int) := by omega
          have HMU := hid (must_c wq r s (j + 1 + R) f n Hq.out 51)
          clear hq hfq hR
          go_wp2_with fail
          refine HMU.out.mono ?_
          rintro e wm ⟨rfl, rfl⟩
          go_wp2_with fail
          go_meet
          exact ⟨3, j + 1 + R, rfl, hid (by rw [HN2.out, HN3.out, HDG.out]; rfl), hid (by have h1 := HLQ.out; have h2 : j + 1 ≤ s.length := HLT.out; omega), Hq, HFq⟩

        · have HDG := hid (show digs s (j + 1) = none by unfold digs; rw [← hR, if_neg hp])
          have hd : decide ((0 : Int) < (R : Int)) = false := by simp; omega
          have HMU := hid (must_not wq r s (j + 1 + R) f n Hq.out 51)
          clear hq hfq hR
          go_wp2_with fail
          refine HMU.out.mono ?_
          rintro e wm ⟨rfl, rfl⟩
          go_wp2_with fail
          have hn : num s i = none := by rw [HN2.out]; simp [HN3.out, HDG.out]
          exact ⟨rfl, HFq.out, (fun e k he => by rw [hn] at he; cases he), fun _ => rfl⟩

      | false =>
        have H5 := hid (show RdAt w4 r s j f n by have := H4.out; rwa [hsk, if_neg (by decide)] at this)
        have HN3 := hid (show num3 s j = some (j, 2) by unfold num3; rw [hsk]; rfl)
        clear hsk
        go_wp2_with fail
        go_meet
        exact ⟨2, j, rfl, hid (by rw [HN2.out, HN3.out]; rfl), HJ, H5, HF4⟩
    case rest =>
      obtain ⟨k, q, rfl, HN4, HQ, HB, HF5⟩ := hcut
      obtain ⟨we, hwe⟩ : ∃ we, we = wc := ⟨_, rfl⟩
      rw [← hwe] at HB HF5 ⊢
      clear hwe HN2 HJ HA HF3 H4 HF4
      go_upto_region 9 with fail
      go_cut [3, 33] (fun s3 s33 wy => s3 = .int .i64 k ∧ ∃ (b : Bool) (p : Nat), s33 = .bool b ∧ Hid (b = (skips s q 101 || skips s q 69)) ∧ Hid (p = if b then q + 1 else q) ∧ Hid (p ≤ s.length) ∧ Hid (RdAt wy r s p f n) ∧ Hid (Fr (· = r) w wy))
      case first =>
        have HS1 := hid (show Calls Tryz.prog 64 #[.pointer (some ⟨r, 0, none⟩), .int .u8 101] we _ from SK.out we q 101 HB.out HQ.out)
        have HS2 := hid (fun (W : World) (h : RdAt W r s q f n) => show Calls Tryz.prog 64 #[.pointer (some ⟨r, 0, none⟩), .int .u8 69] W _ from SK.out W q 69 h HQ.out)
        cases hsk : skips s q 101 with
        | true =>
          have HLT := hid (skips_lt hsk)
          have Hsk := hid hsk
          rw [hsk] at HS1
          clear hsk
          go_wp2_with fail
          refine HS1.out.mono ?_
          rintro e w6 ⟨rfl, h6, hf6⟩
          have HF6 := hid (HF5.out.trans hf6 (fun _ _ e => e))
          have H6 := hid (show RdAt w6 r s (q + 1) f n from h6)
          clear h6 hf6
          go_wp2_with fail
          go_meet
          exact ⟨rfl, true, q + 1, rfl, hid (by rw [Hsk.out]; rfl), hid rfl, HLT, H6, HF6⟩
        | false =>
          have Hsk := hid hsk
          rw [hsk] at HS1
          clear hsk
          go_wp2_with fail
          refine HS1.out.mono ?_
          rintro e w6 ⟨rfl, h6, hf6⟩
          have HF6 := hid (HF5.out.trans hf6 (fun _ _ e => e))
          have H6 := hid (show RdAt w6 r s q f n from h6)
          clear h6 hf6
          go_wp2_with fail
          refine (HS2.out w6 H6.out).mono ?_
          rintro e w7 ⟨rfl, h7, hf7⟩
          have HF7 := hid (HF6.out.trans hf7 (fun _ _ e => e))
          have H7 := hid h7
          have HL7 := hid (show (if skips s q 69 then q + 1 else q) ≤ s.length from skips_le (c := 69) HQ.out)
          clear h7 hf7
          obtain ⟨b, hb⟩ : ∃ b, b = skips s q 69 := ⟨_, rfl⟩
          rw [← hb] at H7 HL7 ⊢
          have Hb := hid hb
          clear hb
          go_wp2_with fail
          go_meet
          exact ⟨rfl, b, _, rfl, hid (by rw [Hb.out, Hsk.out]; rfl), hid rfl, HL7, H7, HF7⟩
      case rest =>
        obtain ⟨rfl, b, p, rfl, HBQ, HPQ, HPL, HC, HF6⟩ := hcut
        obtain ⟨wf, hwf⟩ : ∃ wf, wf = wc := ⟨_, rfl⟩
        rw [← hwf] at HC HF6 ⊢
        clear hwf HB HF5
        go_upto_if 33 with fail
        go_cut [3] (fun s3 wy => ∃ (k : Int) (q : Nat), s3 = .int .i64 k ∧ Hid (num s i = if numEnd s q then some (q, k) else none) ∧ Hid (q ≤ s.length) ∧ Hid (RdAt wy r s q f n) ∧ Hid (Fr (· = r) w wy))
        case first =>
          cases b with
          | false =>
            have HN5 := hid (show num4 s q k = some (q, k) from by unfold num4; rw [← HBQ.out]; rfl)
            have HC2 := hid (show RdAt wf r s q f n by have h1 := HPQ.out; simp only [Bool.false_eq_true, if_false] at h1; have h2 := HC.out; rwa [h1] at h2)
            go_wp2_with fail
            go_meet
            exact ⟨k, q, rfl, hid (by rw [HN4.out, HN5.out]; rfl), HQ, HC2, HF6⟩
          | true =>
            have HN5 := hid (show num4 s q k = (digs s (esgn s (q + 1))).map (fun j => (j, 3)) from by unfold num4; rw [← HBQ.out]; rfl)
            have HP2 := hid (show p = q + 1 from HPQ.out)
            go_wp2_with fail
            refine (show Calls Tryz.prog 64 #[.pointer (some ⟨r, 0, none⟩), .int .u8 43] wf _ from SK.out wf p 43 HC.out HPL.out).mono ?_
            rintro e w8 ⟨rfl, h8, hf8⟩
            have HF8 := hid (HF6.out.trans hf8 (fun _ _ e => e))
            have H8 := hid h8
            clear h8 hf8
            cases hsk : skips s p 43 with
            | true =>
              have HLT := hid (skips_lt hsk)
              have H9 := hid (show RdAt w8 r s (p + 1) f n by have := H8.out; rwa [hsk, if_pos rfl] at this)
              have HES := hid (show esgn s (q + 1) = p + 1 by rw [← HP2.out]; unfold esgn; rw [hsk]; rfl)
              clear hsk
              go_wp2_with fail
              refine (RN.out w8 (p + 1) H9.out HLT.out).mono ?_
              rintro e wq ⟨rfl, hq, hfq⟩
              have HLQ := hid (runN_le digB s (p + 1))
              obtain ⟨R, hR⟩ : ∃ R, R = runN digB (s.drop (p + 1)) := ⟨_, rfl⟩
              rw [← hR] at hq HLQ ⊢
              have Hq := hid hq
              have HFq := hid (HF8.out.trans hfq (fun _ _ e => e))
              by_cases hp : 0 < R
              · have HDG := hid (show digs s (p + 1) = some (p + 1 + R) by unfold digs; rw [← hR, if_pos hp])
                have hd : (0 : Int) < (R : Int) := by omega
                have HMU := hid (must_c wq r s (p + 1 + R) f n Hq.out 51)
                clear hq hfq hR
                go_wp2_with fail
                refine HMU.out.mono ?_
                rintro e wm ⟨rfl, rfl⟩
                go_wp2_with fail
                go_meet
                exact ⟨3, p + 1 + R, rfl, hid (by rw [HN4.out, HN5.out, HES.out, HDG.out]; rfl), hid (by have h1 := HLQ.out; have h2 : p + 1 ≤ s.length := HLT.out; omega), Hq, HFq⟩

              · have HDG := hid (show digs s (p + 1) = none by unfold digs; rw [← hR, if_neg hp])
                have hd : decide ((0 : Int) < (R : Int)) = false := by simp; omega
                have HMU := hid (must_not wq r s (p + 1 + R) f n Hq.out 51)
                clear hq hfq hR
                go_wp2_with fail
                refine HMU.out.mono ?_
                rintro e wm ⟨rfl, rfl⟩
                go_wp2_with fail
                have hn : num s i = none := by rw [HN4.out]; simp [HN5.out, HES.out, HDG.out]
                exact ⟨rfl, HFq.out, (fun e k he => by rw [hn] at he; cases he), fun _ => rfl⟩
            | false =>
              have H9 := hid (show RdAt w8 r s p f n by have := H8.out; rwa [hsk, if_neg (by decide)] at this)
              have HES := hid (show esgn s (q + 1) = sgn s p 45 by rw [← HP2.out]; unfold esgn; rw [hsk]; rfl)
              clear hsk
              go_wp2_with fail
              refine (show Calls Tryz.prog 64 #[.pointer (some ⟨r, 0, none⟩), .int .u8 45] w8 _ from SK.out w8 p 45 H9.out HPL.out).mono ?_
              rintro e w9 ⟨rfl, h9, hf9⟩
              have HF9 := hid (HF8.out.trans hf9 (fun _ _ e => e))
              obtain ⟨z, hz⟩ : ∃ z, z = sgn s p 45 := ⟨_, rfl⟩
              have HLZ := hid (show z ≤ s.length from hz ▸ skips_le HPL.out)
              have HZ := hid (show RdAt w9 r s z f n from hz ▸ h9)
              rw [← hz] at HES
              clear h9 hf9 hz
              go_wp2_with fail
              refine (RN.out w9 (z) HZ.out HLZ.out).mono ?_
              rintro e wq ⟨rfl, hq, hfq⟩
              have HLQ := hid (runN_le digB s (z))
              obtain ⟨R, hR⟩ : ∃ R, R = runN digB (s.drop (z)) := ⟨_, rfl⟩
              rw [← hR] at hq HLQ ⊢
              have Hq := hid hq
              have HFq := hid (HF9.out.trans hfq (fun _ _ e => e))
              by_cases hp : 0 < R
              · have HDG := hid (show digs s (z) = some (z + R) by unfold digs; rw [← hR, if_pos hp])
                have hd : (0 : Int) < (R : Int) := by omega
                have HMU := hid (must_c wq r s (z + R) f n Hq.out 51)
                clear hq hfq hR
                go_wp2_with fail
                refine HMU.out.mono ?_
                rintro e wm ⟨rfl, rfl⟩
                go_wp2_with fail
                go_meet
                exact ⟨3, z + R, rfl, hid (by rw [HN4.out, HN5.out, HES.out, HDG.out]; rfl), hid (by have h1 := HLQ.out; have h2 : z ≤ s.length := HLZ.out; omega), Hq, HFq⟩

              · have HDG := hid (show digs s (z) = none by unfold digs; rw [← hR, if_neg hp])
                have hd : decide ((0 : Int) < (R : Int)) = false := by simp; omega
                have HMU := hid (must_not wq r s (z + R) f n Hq.out 51)
                clear hq hfq hR
                go_wp2_with fail
                refine HMU.out.mono ?_
                rintro e wm ⟨rfl, rfl⟩
                go_wp2_with fail
                have hn : num s i = none := by rw [HN4.out]; simp [HN5.out, HES.out, HDG.out]
                exact ⟨rfl, HFq.out, (fun e k he => by rw [hn] at he; cases he), fun _ => rfl⟩
        case rest =>
          obtain ⟨k, q, rfl, HN6, HQ, HB, HF7⟩ := hcut
          obtain ⟨wg, hwg⟩ : ∃ wg, wg = wc := ⟨_, rfl⟩
          rw [← hwg] at HB HF7 ⊢
          clear hwg HN4 HBQ HPQ HPL HC HF6
          have g0 : wg.cell? ⟨r, 0, none⟩ = some (.string (bs s)) := cell_at HB.out 0
          have g1 : wg.cell? ⟨r, 1, none⟩ = some (.int .i64 q) := cell_at HB.out 1
          have hz := size_bs s
          by_cases hd : q = s.length
          · have HE := hid (show numEnd s q = true by unfold numEnd; rw [decide_eq_true hd]; rfl)
            have e1 : ((q : Int) == (s.length : Int)) = true := by simp; omega
            have HMU := hid (fun W (h : RdAt W r s q f n) => must_c W r s q f n h 51)
            clear hd
            go_upto_region 14 with fail
            go_quiet (first | (go_at_call 51; with_reducible exact Calls.quiet_of_same (HMU.out _ (RdAt.stay HB.out (by first | exact fr_drewN | exact fr_dn fr_drewN)))))
            go_wp2_with fail
            go_ret
            refine ⟨HF7.out.trans (fr_no (by first | exact fr_drewN | exact fr_dn fr_drewN)) (fun _ _ e => e), fun e k' he => ?_, fun he => (by rw [HN6.out, HE.out] at he; cases he)⟩
            rw [HN6.out, HE.out] at he
            simp only [if_true, Option.some.injEq, Prod.mk.injEq] at he
            obtain ⟨rfl, rfl⟩ := he
            exact ⟨rfl, RdAt.stay HB.out (by first | exact fr_drewN | exact fr_dn fr_drewN)⟩
          · obtain ⟨v, hv⟩ : ∃ v : Int, v = ((pk s q).toNat : Int) := ⟨_, rfl⟩
            have hql : q < s.length := by have h1 : q ≤ s.length := HQ.out; omega
            have hx : ∀ w, (Instr.index 9 (.string (bs s)) (.int .i64 (q : Int))).run Tryz.prog w = .ok (.int .u8 v) w := fun w => hv ▸ idx_bs _ Tryz.underlying9 w s _ q (by omega) hql
            have e1 : ((q : Int) == (s.length : Int)) = false := by simp; omega
            have HCI := hid (fun W => show Calls Tryz.prog 48 #[.string (bs (letB ++ digB ++ [46])), .int .u8 v] W fun e w' => e = .returned (.int .i64 (Lib.indexByte (letB ++ digB ++ [46]) (pk s q))) ∧ w' = W from hv ▸ ib_c W (letB ++ digB ++ [46]) (pk s q))
            cases hb : (letB ++ digB ++ [46]).contains (pk s q) with
            | false =>
              have HE := hid (show numEnd s q = true by unfold numEnd; rw [hb]; simp)
              have HMU := hid (fun W (h : RdAt W r s q f n) => must_c W r s q f n h 51)
              rw [ib_out hb] at HCI
              have HC : Hid (∀ W, Calls Tryz.prog 48 #[.string (bs [95, 97, 98, 99, 100, 101, 102, 103, 104, 105, 106, 107, 108, 109, 110, 111, 112, 113, 114, 115, 116, 117, 118, 119, 120, 121, 122, 65, 66, 67, 68, 69, 70, 71, 72, 73, 74, 75, 76, 77, 78, 79, 80, 81, 82, 83, 84, 85, 86, 87, 88, 89, 90, 48, 49, 50, 51, 52, 53, 54, 55, 56, 57, 46]), .int .u8 v] W fun e w' => e = .returned (.int .i64 (-1)) ∧ w' = W) := HCI
              clear hb hd hv hql HCI
              go_upto_region 14 with fail
              go_quiet (first | (go_at_call 51; with_reducible exact Calls.quiet_of_same (HMU.out _ (RdAt.stay HB.out (by first | exact fr_drewN | exact fr_dn fr_drewN)))) | (go_at_call 48; with_reducible exact Calls.quiet_of_same (HC.out _)))
              go_wp2_with fail
              go_ret
              refine ⟨HF7.out.trans (fr_no (by first | exact fr_drewN | exact fr_dn fr_drewN)) (fun _ _ e => e), fun e k' he => ?_, fun he => (by rw [HN6.out, HE.out] at he; cases he)⟩
              rw [HN6.out, HE.out] at he
              simp only [if_true, Option.some.injEq, Prod.mk.injEq] at he
              obtain ⟨rfl, rfl⟩ := he
              exact ⟨rfl, RdAt.stay HB.out (by first | exact fr_drewN | exact fr_dn fr_drewN)⟩
            | true =>
              obtain ⟨m, hm, hml⟩ := ib_in hb
              have HE := hid (show numEnd s q = false by unfold numEnd; rw [hb, decide_eq_false hd]; rfl)
              have HMU := hid (fun W (h : RdAt W r s q f n) => must_not W r s q f n h 51)
              rw [hm] at HCI
              have HC : Hid (∀ W, Calls Tryz.prog 48 #[.string (bs [95, 97, 98, 99, 100, 101, 102, 103, 104, 105, 106, 107, 108, 109, 110, 111, 112, 113, 114, 115, 116, 117, 118, 119, 120, 121, 122, 65, 66, 67, 68, 69, 70, 71, 72, 73, 74, 75, 76, 77, 78, 79, 80, 81, 82, 83, 84, 85, 86, 87, 88, 89, 90, 48, 49, 50, 51, 52, 53, 54, 55, 56, 57, 46]), .int .u8 v] W fun e w' => e = .returned (.int .i64 m) ∧ w' = W) := HCI
              have hm0 : decide ((m : Int) < 0) = false := by simp
              clear hb hd hv hql HCI hm hml
              go_upto_region 14 with fail
              refine wp_region_held_drew (S := fun w' => w'.cell? ⟨r, 0, none⟩ = some (.string (bs s)) ∧ w'.cell? ⟨r, 1, none⟩ = some (.int .i64 q)) (by kernel_rfl) (⟨g0, g1⟩) (fun hHeld => ?_)
              refine tkN (i := 0) (d := some 44) (oi := { dst := some 44, op := Op.move (Operand.tmp 0), type := 58, pos := "lex.go:112", after := #[], guard := none }) (v := ?v1) rfl rfl (by kernel_rfl) (by kernel_rfl) (by kernel_rfl) (fun _ _ _ h => h) (Or.inl ⟨by rfl, ?hy1⟩) (by assumption) ?rest1
              case hy1 =>
                intro w hSw
                go_simp
                first | done | with_reducible rfl
              try simp only [Act.put, List.setIfInBounds_toArray, List.set_cons_zero, List.set_cons_succ]
              refine tkN (i := 1) (d := some 45) (oi := { dst := some 45, op := Op.move (Operand.tmp 0), type := 58, pos := "lex.go:112", after := #[], guard := none }) (v := ?v2) rfl rfl (by kernel_rfl) (by kernel_rfl) (by kernel_rfl) (fun _ _ _ h => h) (Or.inl ⟨by rfl, ?hy2⟩) (by assumption) ?rest2
              case hy2 =>
                intro w hSw
                go_simp
                first | done | with_reducible rfl
              try simp only [Act.put, List.setIfInBounds_toArray, List.set_cons_zero, List.set_cons_succ]
              refine tkN (i := 2) (d := some 46) (oi := { dst := some 46, op := Op.nilCheck (Operand.tmp 45), type := 0, pos := "lex.go:112", after := #[{ on := 1, ground := Ground.data }], guard := none }) (v := ?v3) rfl rfl (by kernel_rfl) (by kernel_rfl) (by kernel_rfl) (fun _ _ _ h => h) (Or.inl ⟨by rfl, ?hy3⟩) (by assumption) ?rest3
              case hy3 =>
                intro w hSw
                go_simp
                first | done | with_reducible rfl
              try simp only [Act.put, List.setIfInBounds_toArray, List.set_cons_zero, List.set_cons_succ]
              refine tkN (i := 3) (d := some 47) (oi := { dst := some 47, op := Op.fieldAddr 60 (Operand.tmp 46) 1, type := 0, pos := "lex.go:112", after := #[{ on := 2, ground := Ground.data }], guard := none }) (v := ?v4) rfl rfl (by kernel_rfl) (by kernel_rfl) (by kernel_rfl) (fun _ _ _ h => h) (Or.inl ⟨by rfl, ?hy4⟩) (by assumption) ?rest4
              case hy4 =>
                intro w hSw
                go_simp
                first | done | with_reducible rfl
              try simp only [Act.put, List.setIfInBounds_toArray, List.set_cons_zero, List.set_cons_succ]
              refine tkN (i := 4) (d := some 48) (oi := { dst := some 48, op := Op.load 3 (Operand.tmp 47), type := 3, pos := "lex.go:112", after := #[{ on := 3, ground := Ground.data }], guard := none }) (v := ?v5) rfl rfl (by kernel_rfl) (by kernel_rfl) (by kernel_rfl) (fun _ _ _ h => h) (Or.inl ⟨by rfl, ?hy5⟩) (by assumption) ?rest5
              case hy5 =>
                intro w hSw
                go_simp
                first | done | with_reducible rfl
              try simp only [Act.put, List.setIfInBounds_toArray, List.set_cons_zero, List.set_cons_succ]
              refine tkN (i := 5) (d := some 49) (oi := { dst := some 49, op := Op.move (Operand.tmp 0), type := 58, pos := "lex.go:112", after := #[], guard := none }) (v := ?v6) rfl rfl (by kernel_rfl) (by kernel_rfl) (by kernel_rfl) (fun _ _ _ h => h) (Or.inl ⟨by rfl, ?hy6⟩) (by assumption) ?rest6
              case hy6 =>
                intro w hSw
                go_simp
                first | done | with_reducible rfl
              try simp only [Act.put, List.setIfInBounds_toArray, List.set_cons_zero, List.set_cons_succ]
              refine tkN (i := 6) (d := some 50) (oi := { dst := some 50, op := Op.nilCheck (Operand.tmp 49), type := 0, pos := "lex.go:112", after := #[{ on := 5, ground := Ground.data }], guard := none }) (v := ?v7) rfl rfl (by kernel_rfl) (by kernel_rfl) (by kernel_rfl) (fun _ _ _ h => h) (Or.inl ⟨by rfl, ?hy7⟩) (by assumption) ?rest7
              case hy7 =>
                intro w hSw
                go_simp
                first | done | with_reducible rfl
              try simp only [Act.put, List.setIfInBounds_toArray, List.set_cons_zero, List.set_cons_succ]
              refine tkN (i := 7) (d := some 51) (oi := { dst := some 51, op := Op.fieldAddr 60 (Operand.tmp 50) 0, type := 0, pos := "lex.go:112", after := #[{ on := 6, ground := Ground.data }], guard := none }) (v := ?v8) rfl rfl (by kernel_rfl) (by kernel_rfl) (by kernel_rfl) (fun _ _ _ h => h) (Or.inl ⟨by rfl, ?hy8⟩) (by assumption) ?rest8
              case hy8 =>
                intro w hSw
                go_simp
                first | done | with_reducible rfl
              try simp only [Act.put, List.setIfInBounds_toArray, List.set_cons_zero, List.set_cons_succ]
              refine tkN (i := 8) (d := some 52) (oi := { dst := some 52, op := Op.load 9 (Operand.tmp 51), type := 9, pos := "lex.go:112", after := #[{ on := 7, ground := Ground.data }], guard := none }) (v := ?v9) rfl rfl (by kernel_rfl) (by kernel_rfl) (by kernel_rfl) (fun _ _ _ h => h) (Or.inl ⟨by rfl, ?hy9⟩) (by assumption) ?rest9
              case hy9 =>
                intro w hSw
                go_simp
                first | done | with_reducible rfl
              try simp only [Act.put, List.setIfInBounds_toArray, List.set_cons_zero, List.set_cons_succ]
              refine tkN (i := 9) (d := some 53) (oi := { dst := some 53, op := Op.call { callee := Callee.builtin Builtin.len, args := #[Operand.tmp 52], argTypes := #[9] }, type := 3, pos := "lex.go:112", after := #[{ on := 8, ground := Ground.data }], guard := none }) (v := ?v10) rfl rfl (by kernel_rfl) (by kernel_rfl) (by kernel_rfl) (fun _ _ _ h => h) (Or.inl ⟨by rfl, ?hy10⟩) (by assumption) ?rest10
              case hy10 =>
                intro w hSw
                go_simp
                first | done | with_reducible rfl
              try simp only [Act.put, List.setIfInBounds_toArray, List.set_cons_zero, List.set_cons_succ]
              refine tkN (i := 10) (d := some 54) (oi := { dst := some 54, op := Op.binOp BinOp.eql 3 (Operand.tmp 48) (Operand.tmp 53) 3, type := 4, pos := "lex.go:112", after := #[{ on := 4, ground := Ground.data }, { on := 9, ground := Ground.data }], guard := none }) (v := ?v11) rfl rfl (by kernel_rfl) (by kernel_rfl) (by kernel_rfl) (fun _ _ _ h => h) (Or.inl ⟨by rfl, ?hy11⟩) (by assumption) ?rest11
              case hy11 =>
                intro w hSw
                go_simp
                first | done | with_reducible rfl
              try simp only [Act.put, List.setIfInBounds_toArray, List.set_cons_zero, List.set_cons_succ]
              refine tkN (i := 11) (d := some 55) (oi := { dst := some 55, op := Op.move (Operand.tmp 54), type := 4, pos := "lex.go:112", after := #[{ on := 10, ground := Ground.data }], guard := none }) (v := ?v12) rfl rfl (by kernel_rfl) (by kernel_rfl) (by kernel_rfl) (fun _ _ _ h => h) (Or.inl ⟨by rfl, ?hy12⟩) (by assumption) ?rest12
              case hy12 =>
                intro w hSw
                go_simp
                first | done | with_reducible rfl
              try simp only [Act.put, List.setIfInBounds_toArray, List.set_cons_zero, List.set_cons_succ]
              refine tkN (i := 12) (d := some 56) (oi := { dst := some 56, op := Op.move (Operand.tmp 0), type := 58, pos := "lex.go:112", after := #[{ on := 11, ground := Ground.guard }], guard := some (11, false) }) (v := ?v13) rfl rfl (by kernel_rfl) (by kernel_rfl) (by kernel_rfl) (fun _ _ _ h => h) (Or.inl ⟨by rfl, ?hy13⟩) (by assumption) ?rest13
              case hy13 =>
                intro w hSw
                go_simp
                first | done | with_reducible rfl
              try simp only [Act.put, List.setIfInBounds_toArray, List.set_cons_zero, List.set_cons_succ]
              refine tkN (i := 13) (d := some 57) (oi := { dst := some 57, op := Op.nilCheck (Operand.tmp 56), type := 0, pos := "lex.go:112", after := #[{ on := 12, ground := Ground.data }, { on := 11, ground := Ground.guard }], guard := some (11, false) }) (v := ?v14) rfl rfl (by kernel_rfl) (by kernel_rfl) (by kernel_rfl) (fun _ _ _ h => h) (Or.inl ⟨by rfl, ?hy14⟩) (by assumption) ?rest14
              case hy14 =>
                intro w hSw
                go_simp
                first | done | with_reducible rfl
              try simp only [Act.put, List.setIfInBounds_toArray, List.set_cons_zero, List.set_cons_succ]
              refine tkN (i := 14) (d := some 58) (oi := { dst := some 58, op := Op.fieldAddr 60 (Operand.tmp 57) 0, type := 0, pos := "lex.go:112", after := #[{ on := 13, ground := Ground.data }, { on := 11, ground := Ground.guard }], guard := some (11, false) }) (v := ?v15) rfl rfl (by kernel_rfl) (by kernel_rfl) (by kernel_rfl) (fun _ _ _ h => h) (Or.inl ⟨by rfl, ?hy15⟩) (by assumption) ?rest15
              case hy15 =>
                intro w hSw
                go_simp
                first | done | with_reducible rfl
              try simp only [Act.put, List.setIfInBounds_toArray, List.set_cons_zero, List.set_cons_succ]
              refine tkN (i := 15) (d := some 59) (oi := { dst := some 59, op := Op.load 9 (Operand.tmp 58), type := 9, pos := "lex.go:112", after := #[{ on := 14, ground := Ground.data }, { on := 11, ground := Ground.guard }], guard := some (11, false) }) (v := ?v16) rfl rfl (by kernel_rfl) (by kernel_rfl) (by kernel_rfl) (fun _ _ _ h => h) (Or.inl ⟨by rfl, ?hy16⟩) (by assumption) ?rest16
              case hy16 =>
                intro w hSw
                go_simp
                first | done | with_reducible rfl
              try simp only [Act.put, List.setIfInBounds_toArray, List.set_cons_zero, List.set_cons_succ]
              refine tkN (i := 16) (d := some 60) (oi := { dst := some 60, op := Op.move (Operand.tmp 0), type := 58, pos := "lex.go:112", after := #[{ on := 11, ground := Ground.guard }], guard := some (11, false) }) (v := ?v17) rfl rfl (by kernel_rfl) (by kernel_rfl) (by kernel_rfl) (fun _ _ _ h => h) (Or.inl ⟨by rfl, ?hy17⟩) (by assumption) ?rest17
              case hy17 =>
                intro w hSw
                go_simp
                first | done | with_reducible rfl
              try simp only [Act.put, List.setIfInBounds_toArray, List.set_cons_zero, List.set_cons_succ]
              refine tkN (i := 17) (d := some 61) (oi := { dst := some 61, op := Op.nilCheck (Operand.tmp 60), type := 0, pos := "lex.go:112", after := #[{ on := 16, ground := Ground.data }, { on := 11, ground := Ground.guard }], guard := some (11, false) }) (v := ?v18) rfl rfl (by kernel_rfl) (by kernel_rfl) (by kernel_rfl) (fun _ _ _ h => h) (Or.inl ⟨by rfl, ?hy18⟩) (by assumption) ?rest18
              case hy18 =>
                intro w hSw
                go_simp
                first | done | with_reducible rfl
              try simp only [Act.put, List.setIfInBounds_toArray, List.set_cons_zero, List.set_cons_succ]
              refine tkN (i := 18) (d := some 62) (oi := { dst := some 62, op := Op.fieldAddr 60 (Operand.tmp 61) 1, type := 0, pos := "lex.go:112", after := #[{ on := 17, ground := Ground.data }, { on := 11, ground := Ground.guard }], guard := some (11, false) }) (v := ?v19) rfl rfl (by kernel_rfl) (by kernel_rfl) (by kernel_rfl) (fun _ _ _ h => h) (Or.inl ⟨by rfl, ?hy19⟩) (by assumption) ?rest19
              case hy19 =>
                intro w hSw
                go_simp
                first | done | with_reducible rfl
              try simp only [Act.put, List.setIfInBounds_toArray, List.set_cons_zero, List.set_cons_succ]
              refine tkN (i := 19) (d := some 63) (oi := { dst := some 63, op := Op.load 3 (Operand.tmp 62), type := 3, pos := "lex.go:112", after := #[{ on := 18, ground := Ground.data }, { on := 11, ground := Ground.guard }], guard := some (11, false) }) (v := ?v20) rfl rfl (by kernel_rfl) (by kernel_rfl) (by kernel_rfl) (fun _ _ _ h => h) (Or.inl ⟨by rfl, ?hy20⟩) (by assumption) ?rest20
              case hy20 =>
                intro w hSw
                go_simp
                first | done | with_reducible rfl
              try simp only [Act.put, List.setIfInBounds_toArray, List.set_cons_zero, List.set_cons_succ]
              refine tkN (i := 20) (d := some 64) (oi := { dst := some 64, op := Op.index 9 (Operand.tmp 59) (Operand.tmp 63), type := 5, pos := "lex.go:112", after := #[{ on := 15, ground := Ground.data }, { on := 19, ground := Ground.data }, { on := 11, ground := Ground.guard }], guard := some (11, false) }) (v := ?v21) rfl rfl (by kernel_rfl) (by kernel_rfl) (by kernel_rfl) (fun _ _ _ h => h) (Or.inl ⟨by rfl, ?hy21⟩) (by assumption) ?rest21
              case hy21 =>
                intro w hSw
                go_simp
                first | done | with_reducible rfl
              try simp only [Act.put, List.setIfInBounds_toArray, List.set_cons_zero, List.set_cons_succ]
              refine wpAnyH_ready (rs := [21]) (by kernel_rfl) (by simp) ?_
              refine AllReadyH.cons (o := { dst := some 65, op := Op.call { callee := Callee.value (Operand.func 48), args := #[Operand.const (Value.string { data := #[95, 97, 98, 99, 100, 101, 102, 103, 104, 105, 106, 107, 108, 109, 110, 111, 112, 113, 114, 115, 116, 117, 118, 119, 120, 121, 122, 65, 66, 67, 68, 69, 70, 71, 72, 73, 74, 75, 76, 77, 78, 79, 80, 81, 82, 83, 84, 85, 86, 87, 88, 89, 90, 48, 49, 50, 51, 52, 53, 54, 55, 56, 57, 46] }), Operand.tmp 64], argTypes := #[9, 5] }, type := 3, pos := "lex.go:112", after := #[{ on := 20, ground := Ground.data }, { on := 11, ground := Ground.chain }, { on := 11, ground := Ground.guard }], guard := some (11, false) }) rfl (fun K hK => ?_) AllReadyH.nil
              go_simp
              refine (HC.out _).mono ?_
              rintro e w' ⟨rfl, hw'⟩
              rw [hw']
              clear hw'
              go_wp2_with fail
              refine hK.out _ _ (⟨g0, g1⟩) (fun hHeld => ?_)
              clear hK K
              try simp only [Act.put, List.setIfInBounds_toArray, List.set_cons_zero, List.set_cons_succ]
              refine tkN (i := 22) (d := some 66) (oi := { dst := some 66, op := Op.binOp BinOp.lss 3 (Operand.tmp 65) (Operand.const (Value.int IntKind.i64 0)) 3, type := 4, pos := "lex.go:112", after := #[{ on := 21, ground := Ground.data }, { on := 11, ground := Ground.guard }], guard := some (11, false) }) (v := ?v23) rfl rfl (by kernel_rfl) (by kernel_rfl) (by kernel_rfl) (fun _ _ _ h => h) (Or.inl ⟨by rfl, ?hy23⟩) (by assumption) ?rest23
              case hy23 =>
                intro w hSw
                go_simp
                first | done | with_reducible rfl
              try simp only [Act.put, List.setIfInBounds_toArray, List.set_cons_zero, List.set_cons_succ]
              refine tkN (i := 23) (d := some 67) (oi := { dst := some 67, op := Op.pick (Operand.tmp 55) (Operand.const (Value.bool true)) (Operand.tmp 66), type := 4, pos := "lex.go:112", after := #[{ on := 11, ground := Ground.data }, { on := 22, ground := Ground.data }], guard := none }) (v := ?v24) rfl rfl (by kernel_rfl) (by kernel_rfl) (by kernel_rfl) (fun _ _ _ h => h) (Or.inl ⟨by rfl, ?hy24⟩) (by assumption) ?rest24
              case hy24 =>
                intro w hSw
                go_simp
                first | done | with_reducible rfl
              try simp only [Act.put, List.setIfInBounds_toArray, List.set_cons_zero, List.set_cons_succ]
              refine wpAnyH_ready (rs := [24]) (by kernel_rfl) (by simp) ?_
              refine AllReadyH.cons (o := { dst := some 68, op := Op.call { callee := Callee.value (Operand.func 51), args := #[Operand.tmp 44, Operand.tmp 67, Operand.const (Value.int IntKind.i64 51)], argTypes := #[58, 4, 26] }, type := 0, pos := "lex.go:112", after := #[{ on := 0, ground := Ground.data }, { on := 23, ground := Ground.data }, { on := 21, ground := Ground.chain }], guard := none }) rfl (fun K hK => ?_) AllReadyH.nil
              go_simp
              refine (HMU.out _ (RdAt.stay HB.out (Fr.refl (fun _ => False) wg).drew)).mono ?_
              rintro e w' ⟨rfl, hw'⟩
              rw [hw']
              have hn : num s i = none := by rw [HN6.out, HE.out]; rfl
              exact ⟨rfl, HF7.out.trans (fr_no (Fr.refl (fun _ => False) wg).drew) (fun _ _ e => e), (fun e k he => by rw [hn] at he; cases he), fun _ => rfl⟩


end Go.Proofs.YtbmfmnkfdfdjbaaGreatDoor.D
