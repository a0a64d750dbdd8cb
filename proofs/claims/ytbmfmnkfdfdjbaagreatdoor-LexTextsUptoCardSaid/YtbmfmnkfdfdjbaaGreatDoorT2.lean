/-
  Quote: the walk. No condition beyond the sizes that are named.
-/
import Derived.Test.YtbmfmnkfdfdjbaaGreatDoorT1
namespace Go.Proofs.YtbmfmnkfdfdjbaaGreatDoor.D
open Go.RowKit Go.Shelf
set_option linter.unusedVariables false
set_option linter.unusedSimpArgs false

/-- What is written for the bytes from place i on. -/
def qGo (s : List UInt8) : Nat → Nat → List UInt8
  | 0, _ => []
  | d + 1, i =>
    if s.length ≤ i then []
    else if loneC (s.drop i) then esc4 (loneN (s.drop i)) ++ qGo s d (i + 3)
    else if pk s i = 34 ∨ pk s i = 92 then [92] ++ [pk s i] ++ qGo s d (i + 1)
    else if (pk s i).toNat < 32 ∨ (pk s i).toNat = 127 then esc4 (pk s i).toNat ++ qGo s d (i + 1)
    else [pk s i] ++ qGo s d (i + 1)
def quoteAt (s : List UInt8) (i : Nat) : List UInt8 := qGo s (s.length + 1 - i) i
/-- A text, quoted. -/
def quoteB (s : List UInt8) : List UInt8 := [34] ++ quoteAt s 0 ++ [34]
theorem lone_len {l : List UInt8} (h : loneC l = true) : 3 ≤ l.length := by
  unfold loneC at h
  simp only [Bool.and_eq_true, decide_eq_true_eq] at h
  exact h.1
theorem qGo_eq (s : List UInt8) : ∀ (d e i : Nat), s.length + 1 - i ≤ d → s.length + 1 - i ≤ e → qGo s d i = qGo s e i
  | 0, 0, i, h1, h2 => rfl
  | 0, e + 1, i, h1, h2 => by simp only [qGo]; rw [if_pos (by omega)]
  | d + 1, 0, i, h1, h2 => by simp only [qGo]; rw [if_pos (by omega)]
  | d + 1, e + 1, i, h1, h2 => by
    simp only [qGo]
    split
    · rfl
    · split
      · rename_i h0 h
        have := lone_len h
        simp at this
        rw [qGo_eq s d e (i + 3) (by omega) (by omega)]
      · rw [qGo_eq s d e (i + 1) (by omega) (by omega)]
theorem quoteAt_un (s : List UInt8) (i : Nat) (hi : i ≤ s.length) : quoteAt s i =
    if s.length ≤ i then []
    else if loneC (s.drop i) then esc4 (loneN (s.drop i)) ++ quoteAt s (i + 3)
    else if pk s i = 34 ∨ pk s i = 92 then [92] ++ [pk s i] ++ quoteAt s (i + 1)
    else if (pk s i).toNat < 32 ∨ (pk s i).toNat = 127 then esc4 (pk s i).toNat ++ quoteAt s (i + 1)
    else [pk s i] ++ quoteAt s (i + 1) := by
  unfold quoteAt
  obtain ⟨d, hd⟩ : ∃ d, s.length + 1 - i = d + 1 := ⟨s.length - i, by omega⟩
  rw [hd]
  simp only [qGo]
  split
  · rfl
  · split
    · rename_i h0 h
      have := lone_len h
      simp at this
      rw [qGo_eq s d (s.length + 1 - (i + 3)) (i + 3) (by omega) (by omega)]
    · rw [qGo_eq s d (s.length + 1 - (i + 1)) (i + 1) (by omega) (by omega)]
theorem lone_lt (l : List UInt8) : loneN l < 65536 := by unfold loneN; omega

set_option maxRecDepth 100000 in
set_option maxHeartbeats 4000000 in
theorem quote_c (w : World) (s : List UInt8) (hs : s.length ≤ 16000000) :
    Calls Tryz.prog 7 #[.string (bs s)] w fun e w' => e = .returned (.string (bs (quoteB s))) ∧ Fr (fun _ => False) w w' := by
  have hz := size_bs s
  obtain ⟨b, hb⟩ : ∃ b, b = w.heap.size := ⟨_, rfl⟩
  have hb0 := Bd.new w
  obtain ⟨w1, hw1⟩ : ∃ w1, w1 = w.alloc (.cells #[.pointer none, .slice none 0 0] 38) := ⟨_, rfl⟩
  have hs1 : b ≤ w1.heap.size := by rw [hw1, hb]; simp
  rw [← hw1, ← hb] at hb0
  have HF1 := hid (show Below b w w1 from by rw [hw1, hb]; exact (Below.refl _ w).alloc (Nat.le_refl _) _)
  have HW1 := hid (show Calls Tryz.prog 17 #[.pointer (some ⟨b, 0, none⟩), .int .u8 34] w1 _ from wbyte_c w1 b b [] 34 hb0 (by simp) hs1)
  have HS1 := hid hs1
  have HBE := hid hb
  have HW := hid hw1
  clear hb0 hs1 hb hw1
  go_enter Tryz.func7, Tryz.ntmps7
  go_wp2_with fail
  rw [← HW.out, ← HBE.out]
  clear HW
  refine HW1.out.mono ?_
  rintro e w2 ⟨rfl, hb2, hl2⟩
  have HB2 := hid (show Bd w2 b b [34] from hb2)
  have HF2 := hid (HF1.out.trans hl2)
  clear hb2 hl2 HW1 HF1
  go_wp2_with fail
  go_loopw [5] (fun v wx => ∃ (i : Nat) (acc : List UInt8), v = .int .i64 i ∧ i ≤ s.length ∧ acc.length ≤ 1 + 6 * i ∧ Hid (Bd wx b b acc) ∧ Hid ([34] ++ quoteAt s 0 = acc ++ quoteAt s i) ∧ Hid (Below b w wx)) (fun v _ => s.length - (intOf v).toNat)
  case atStart => exact ⟨0, [34], rfl, by omega, by simp, HB2, hid rfl, HF2⟩
  case round =>
    obtain ⟨i, acc, rfl, hi, ha, HA, HQ, HF⟩ := hrel
    have hBw : b ≤ wr.heap.size := by have := HF.out.size; rw [HBE.out]; exact this
    by_cases hd : i < s.length
    · have hx : ∀ w, (Instr.index 9 (.string (bs s)) (.int .i64 (i : Int))).run Tryz.prog w = .ok (.int .u8 ((pk s i).toNat : Int)) w := fun w => idx_bs _ Tryz.underlying9 w s _ i rfl hd
      have sl : ∀ W, (Instr.slice 9 (.string (bs s)) (some (.int .i64 i)) none none).run Tryz.prog W = .ok (.string (bs (s.drop i))) W := fun W => by
        have := slice_from 9 Tryz.underlying9 W s (i : Int) (by omega) (by omega)
        rwa [Int.toNat_natCast] at this
      have HUN := hid (quoteAt_un s i (by omega))
      rw [if_neg (by omega)] at HUN
      have HLC := hid (fun W => lone_c W (s.drop i))
      have hln := lone_lt (s.drop i)
      have hv := UInt8.toNat_lt (pk s i)
      obtain ⟨N, hN⟩ : ∃ N, N = loneN (s.drop i) := ⟨_, rfl⟩
      have HLL := hid (fun h => lone_len (l := s.drop i) h)
      obtain ⟨bb, hbb⟩ : ∃ bb, bb = loneC (s.drop i) := ⟨_, rfl⟩
      have HLC := hid (show ∀ W, Calls Tryz.prog 18 #[.string (bs (s.drop i))] W fun e w' => e = .returned (.tuple #[.int .i64 (if bb then N else 0 : Nat), .bool bb]) ∧ Fr (fun _ => False) W w' from fun W => (HLC.out W).mono (by rintro e w' ⟨h1, h2⟩; rw [hbb, hN]; exact ⟨h2, h1⟩))
      rw [← hN] at HUN hln
      rw [← hbb] at HUN HLL
      obtain ⟨t, ht⟩ : ∃ t, t = s.drop i := ⟨_, rfl⟩
      have HLT := hid (show t.length = s.length - i by rw [ht, List.length_drop])
      rw [← ht] at HLC HLL sl
      obtain ⟨c, hc⟩ : ∃ c, c = pk s i := ⟨_, rfl⟩
      rw [← hc] at HUN hv hx
      have HI := hid (And.intro hd (And.intro hi ha))
      have hi6 : i < 16000000 := by omega
      clear hN hbb ht hc hi ha
      cases bb with
      | true =>
        have HLC := hid (show ∀ W, Calls Tryz.prog 18 #[.string (bs t)] W fun e w' => e = .returned (.tuple #[.int .i64 N, .bool true]) ∧ Fr (fun _ => False) W w' from HLC.out)
        as_aux_lemma =>
          have HLL2 := hid (HLL.out rfl)
          have HQ2 := hid (show [34] ++ quoteAt s 0 = (acc ++ esc4 N) ++ quoteAt s (i + 3) by rw [HQ.out, HUN.out, if_pos rfl, List.append_assoc])
          obtain ⟨z, hz⟩ : ∃ z : Int, z = (c.toNat : Int) := ⟨_, rfl⟩
          rw [← hz] at hx
          clear hz hv HUN HQ
          go_wp2_with fail
          refine (HLC.out _).mono ?_
          rintro e w3 ⟨rfl, hf3⟩
          have HB3 := hid (HA.out.stay hf3)
          have HL3 := hid (HF.out.trans (hf3.toBelow hBw (fun i f => f.elim)))
          have hB3 : b ≤ w3.heap.size := Nat.le_trans hBw hf3.size
          have HEC := hid (esc4_c w3 b b acc N HB3.out (by have := HI.out.2.2; omega) hB3 hln)
          clear hf3 hB3 hBw
          go_wp2_with fail
          refine HEC.out.mono ?_
          rintro e w4 ⟨rfl, hb4, hl4⟩
          have HB4 := hid hb4
          have HL4 := hid (HL3.out.trans hl4)
          clear hb4 hl4 HEC
          go_wp2_with fail
          go_roundw
          case measure => have := HI.out.1; simp [intOf]; omega
          have h1 := HI.out
          have h2 : 3 ≤ t.length := HLL2.out
          have h3 : t.length = s.length - i := HLT.out
          exact ⟨i + 3, acc ++ esc4 N, by go_num, by omega, by rw [List.length_append]; show acc.length + 6 ≤ _; omega, HB4, HQ2, HL4⟩
      | false =>
        have HLC := hid (show ∀ W, Calls Tryz.prog 18 #[.string (bs t)] W fun e w' => e = .returned (.tuple #[.int .i64 0, .bool false]) ∧ Fr (fun _ => False) W w' from HLC.out)
        rw [if_neg (by decide)] at HUN
        by_cases hq : c = 34 ∨ c = 92
        · as_aux_lemma =>
            have HQ2 := hid (show [34] ++ quoteAt s 0 = (acc ++ [92] ++ [c]) ++ quoteAt s (i + 1) by rw [HQ.out, HUN.out, if_pos hq]; simp)
            have e1 : (((c.toNat : Int) == 34) = true) ∨ (((c.toNat : Int) == 34) = false ∧ ((c.toNat : Int) == 92) = true) := by
              rcases hq with rfl | rfl
              · exact Or.inl rfl
              · exact Or.inr ⟨rfl, rfl⟩
            have HWB := hid (fun W ac (h : Bd W b b ac) (hl : ac.length + 1 ≤ 100000000) (hB : b ≤ W.heap.size) => wbyte_c W b b ac c h hl hB)
            have HWQ := hid (fun W (h : Bd W b b acc) (hl : acc.length + 1 ≤ 100000000) (hB : b ≤ W.heap.size) => show Calls Tryz.prog 17 #[.pointer (some ⟨b, 0, none⟩), .int .u8 92] W fun e w' => e = .returned .nilIface ∧ Bd w' b b (acc ++ [92]) ∧ Below b W w' from wbyte_c W b b acc 92 h hl hB)
            obtain ⟨z, hz⟩ : ∃ z : Int, z = (c.toNat : Int) := ⟨_, rfl⟩
            rw [← hz] at hx e1 HWB
            clear hz hv HUN HQ hq HLL
            rcases e1 with e1 | ⟨e1, e2⟩
            all_goals
              go_wp2_with fail
              refine (HLC.out _).mono ?_
              rintro e w3 ⟨rfl, hf3⟩
              have HB3 := hid (HA.out.stay hf3)
              have HL3 := hid (HF.out.trans (hf3.toBelow hBw (fun i f => f.elim)))
              have hB3 : b ≤ w3.heap.size := Nat.le_trans hBw hf3.size
              have HEC := hid (HWQ.out w3 HB3.out (by have := HI.out.2.2; omega) hB3)
              have HBS := hid hB3
              clear hf3 hB3 hBw HWQ
              go_wp2_with fail
              refine HEC.out.mono ?_
              rintro e w4 ⟨rfl, hb4, hl4⟩
              have HB4 := hid hb4
              have HL4 := hid (HL3.out.trans hl4)
              have HEC2 := hid (HWB.out w4 _ hb4 (by have := HI.out.2.2; rw [List.length_append, List.length_cons, List.length_nil]; omega) (Nat.le_trans HBS.out hl4.size))
              clear hb4 hl4 HEC HWB
              go_wp2_with fail
              refine HEC2.out.mono ?_
              rintro e w5 ⟨rfl, hb5, hl5⟩
              have HB5 := hid hb5
              have HL5 := hid (HL4.out.trans hl5)
              clear hb5 hl5 HEC2
              go_wp2_with fail
              go_roundw
              case measure => have := HI.out.1; simp [intOf]; omega
              have h1 := HI.out
              exact ⟨i + 1, acc ++ [92] ++ [c], by go_num, by omega, by rw [List.length_append, List.length_append, List.length_cons, List.length_cons, List.length_nil]; omega, HB5, HQ2, HL5⟩
        · rw [if_neg hq] at HUN
          have e1 : ((c.toNat : Int) == 34) = false := by
            have := byte_eq c 34
            rw [show ((34 : UInt8).toNat : Int) = 34 by rfl] at this
            rw [this]
            simp only [beq_eq_false_iff_ne, ne_eq]
            exact fun e => hq (Or.inl e)
          have e2 : ((c.toNat : Int) == 92) = false := by
            have := byte_eq c 92
            rw [show ((92 : UInt8).toNat : Int) = 92 by rfl] at this
            rw [this]
            simp only [beq_eq_false_iff_ne, ne_eq]
            exact fun e => hq (Or.inr e)
          by_cases hl : c.toNat < 32 ∨ c.toNat = 127
          · as_aux_lemma =>
              have HQ2 := hid (show [34] ++ quoteAt s 0 = (acc ++ esc4 c.toNat) ++ quoteAt s (i + 1) by rw [HQ.out, HUN.out, if_pos hl]; simp)
              have e3 : ((c.toNat : Int) < 32) ∨ (decide ((c.toNat : Int) < 32) = false ∧ ((c.toNat : Int) == 127) = true) := by
                by_cases h32 : c.toNat < 32
                · exact Or.inl (by omega)
                · exact Or.inr ⟨by simp; omega, by simp; omega⟩
              have hv6 : c.toNat < 65536 := by omega
              obtain ⟨z, hz⟩ : ∃ z : Nat, z = c.toNat := ⟨_, rfl⟩
              rw [← hz] at hx e1 e2 e3 HQ2 hv hv6
              clear hz HUN HQ hq hl HLL
              rcases e3 with e3 | ⟨e3, e4⟩
              all_goals
                go_wp2_with fail
                refine (HLC.out _).mono ?_
                rintro e w3 ⟨rfl, hf3⟩
                have HB3 := hid (HA.out.stay hf3)
                have HL3 := hid (HF.out.trans (hf3.toBelow hBw (fun i f => f.elim)))
                have hB3 : b ≤ w3.heap.size := Nat.le_trans hBw hf3.size
                have HEC := hid (esc4_c w3 b b acc z HB3.out (by have := HI.out.2.2; omega) hB3 hv6)
                clear hf3 hB3 hBw
                go_wp2_with fail
                refine HEC.out.mono ?_
                rintro e w4 ⟨rfl, hb4, hl4⟩
                have HB4 := hid hb4
                have HL4 := hid (HL3.out.trans hl4)
                clear hb4 hl4 HEC
                go_wp2_with fail
                go_roundw
                case measure => have := HI.out.1; simp [intOf]; omega
                have h1 := HI.out
                exact ⟨i + 1, acc ++ esc4 z, by go_num, by omega, by rw [List.length_append]; show acc.length + 6 ≤ _; omega, HB4, HQ2, HL4⟩
          · as_aux_lemma =>
              have HQ2 := hid (show [34] ++ quoteAt s 0 = (acc ++ [c]) ++ quoteAt s (i + 1) by rw [HQ.out, HUN.out, if_neg hl]; simp)
              have e3 : decide ((c.toNat : Int) < 32) = false := by simp; omega
              have e4 : ((c.toNat : Int) == 127) = false := by simp; omega
              have HWB := hid (fun W (h : Bd W b b acc) (hl : acc.length + 1 ≤ 100000000) (hB : b ≤ W.heap.size) => wbyte_c W b b acc c h hl hB)
              obtain ⟨z, hz⟩ : ∃ z : Int, z = (c.toNat : Int) := ⟨_, rfl⟩
              rw [← hz] at hx e1 e2 e3 e4 HWB
              clear hz hv HUN HQ hq hl HLL
              go_wp2_with fail
              refine (HLC.out _).mono ?_
              rintro e w3 ⟨rfl, hf3⟩
              have HB3 := hid (HA.out.stay hf3)
              have HL3 := hid (HF.out.trans (hf3.toBelow hBw (fun i f => f.elim)))
              have hB3 : b ≤ w3.heap.size := Nat.le_trans hBw hf3.size
              have HEC := hid (HWB.out w3 HB3.out (by have := HI.out.2.2; omega) hB3)
              clear hf3 hB3 hBw HWB
              go_wp2_with fail
              refine HEC.out.mono ?_
              rintro e w4 ⟨rfl, hb4, hl4⟩
              have HB4 := hid hb4
              have HL4 := hid (HL3.out.trans hl4)
              clear hb4 hl4 HEC
              go_wp2_with fail
              go_roundw
              case measure => have := HI.out.1; simp [intOf]; omega
              have h1 := HI.out
              exact ⟨i + 1, acc ++ [c], by go_num, by omega, by rw [List.length_append, List.length_cons, List.length_nil]; omega, HB4, HQ2, HL4⟩
    · as_aux_lemma =>
        have hd' : decide ((i : Int) < (s.length : Int)) = false := by simp; omega
        have HQ2 := hid (show quoteB s = acc ++ [34] by unfold quoteB; rw [HQ.out, quoteAt_un s i hi, if_pos (by omega)]; simp)
        have HEC := hid (show Calls Tryz.prog 17 #[.pointer (some ⟨b, 0, none⟩), .int .u8 34] wr _ from wbyte_c wr b b acc 34 HA.out (by omega) hBw)
        have HBS := hid hBw
        clear HQ ha hBw
        go_wp2_with fail
        refine HEC.out.mono ?_
        rintro e w4 ⟨rfl, hb4, hl4⟩
        have HST := hid (bstr_c w4 b b (acc ++ [34]) hb4 (Nat.le_trans HBS.out hl4.size))
        have HL4 := hid (HF.out.trans hl4)
        clear hb4 hl4 HEC
        go_wp2_with fail
        refine HST.out.mono ?_
        rintro e w5 ⟨rfl, hl5⟩
        have HL5 := hid (HL4.out.trans hl5)
        clear hl5
        go_wp2_with fail
        go_ret
        exact ⟨by rw [HQ2.out]; rfl, below_fr HL5.out (by rw [HBE.out]; exact Nat.le_refl _)⟩

end Go.Proofs.YtbmfmnkfdfdjbaaGreatDoor.D
