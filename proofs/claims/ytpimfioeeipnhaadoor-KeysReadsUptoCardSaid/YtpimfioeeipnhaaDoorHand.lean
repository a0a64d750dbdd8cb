/-
  What five functions that the keys' laws call come to: strings.IndexByte, strings.Compare, strings.ReplaceAll (an old text of one byte), floats.Cmp, keys.text. No condition.
-/
import Derived.Test.YtpimfioeeipnhaaDoorRep1
import Derived.Test.YtpimfioeeipnhaaDoorShelf
import Derived.Below
import Derived.WalkKit
import Derived.WalkLawsBesides
import Derived.Deep.QuietTactic
import Derived.BigQuiet
import Derived.Deep.LoopGhost
import Derived.Outline
import Derived.Lib.Hide
import Derived.Test.YtpimfioeeipnhaaDoorWWords
namespace Go.Proofs.YtpimfioeeipnhaaDoor.Hand
open Go.RowKit Go.Proofs.YtpimfioeeipnhaaDoorW.PrintWords Go.Lib
set_option linter.unusedVariables false
set_option linter.unusedSimpArgs false

def strings_IndexByte.f (a0 : ByteArray) (a1 : Int) : Option Int := some (Lib.indexByte a0.data.toList a1.toNat.toUInt8)
theorem strings_IndexByte.calls (a0 : ByteArray) (a1 : Int) (r : Int) (w : World) (h : strings_IndexByte.f a0 a1 = some r) :
    Calls Tryd.prog 56 #[.string a0, .int .u8 a1] w fun e w' => e = .returned (.int .i64 r) ∧ Drawn0 w w' := by
  obtain rfl := Option.some.inj h
  exact (Tryd.strings_IndexByte a0 a1 w).mono fun e w' ⟨he, hw⟩ => ⟨he, hw ▸ Drawn0.refl _⟩

def strings_Compare.f (a0 a1 : ByteArray) : Option Int := some (Lib.compareBytes a0.data.toList a1.data.toList)
theorem strings_Compare.calls (a0 : ByteArray) (a1 : ByteArray) (r : Int) (w : World) (h : strings_Compare.f a0 a1 = some r) :
    Calls Tryd.prog 33 #[.string a0, .string a1] w fun e w' => e = .returned (.int .i64 r) ∧ Drawn0 w w' := by
  obtain rfl := Option.some.inj h
  exact (Tryd.strings_Compare a0 a1 w).mono fun e w' ⟨he, hw⟩ => ⟨he, hw ▸ Drawn0.refl _⟩

def strings_ReplaceAll.f (a0 a1 a2 : ByteArray) : Option ByteArray :=
  if a1.size = 1 then (if a0.size + Lib.countB a0 a1 * a2.size ≤ 140737488355328 then some ⟨(Lib.replaceAll a0.data.toList a1.data.toList a2.data.toList).toArray⟩ else none) else none
theorem strings_ReplaceAll.calls (a0 : ByteArray) (a1 : ByteArray) (a2 : ByteArray) (r : ByteArray) (w : World) (h : strings_ReplaceAll.f a0 a1 a2 = some r) :
    Calls Tryd.prog 25 #[.string a0, .string a1, .string a2] w fun e w' => e = .returned (.string r) ∧ Below w.heap.size w w' := by
  unfold strings_ReplaceAll.f at h
  split at h
  · rename_i h1
    split at h
    · rename_i h2
      obtain rfl := Option.some.inj h
      exact Rep1.ReplaceAll { Tryd.bl with } Tryd.blX a0 a1 a2 w h1 h2
    · cases h
  · cases h

def floats_Cmp.f (a0 a1 : Int) : Option (Int × Bool) :=
  if FloatKind.f64.format.order a0.toNat a0.toNat = some .eq then
    (if FloatKind.f64.format.order a1.toNat a1.toNat = some .eq then
      (if FloatKind.f64.format.order a0.toNat a1.toNat = some .lt then some (-1, true)
       else if FloatKind.f64.format.order a0.toNat a1.toNat = some .gt then some (1, true) else some (0, true))
     else some (0, false))
  else some (0, false)

theorem floats_Cmp.calls (a0 : Int) (a1 : Int) (r1 : Int) (r2 : Bool) (w : World) (h : floats_Cmp.f a0 a1 = some (r1, r2)) :
    Calls Tryd.prog 32 #[.int .u64 a0, .int .u64 a1] w fun e w' => e = .returned (.tuple #[.int .i64 r1, .bool r2]) ∧ Drawn0 w w' := by
  have e47 : ∀ (a : Int) (w : World), (callFunc 47 #[.int .u64 a]).run Tryd.prog w = .ok (.value (.float .f64 a.toNat)) w := fun a w => by kernel_rfl
  have H := Lib.hid h
  clear h
  go_enter Tryd.func32, Tryd.ntmps32
  go_wp2
  all_goals (
    go_ret2
    have H' := H.out
    unfold floats_Cmp.f at H'
    (repeat' split at H') <;> first | (exfalso; simp_all; done) | (simp only [Option.some.injEq, Prod.mk.injEq] at H'; obtain ⟨rfl, rfl⟩ := H'; exact ⟨rfl, Drawn0.refl _⟩))

/-- What keys.text reads: the text ahead of the two bytes 0 that end it, and what stands behind. -/
def txt : List UInt8 → List UInt8 → List UInt8 × List UInt8 × Bool
  | _, [] => ([], [], false)
  | acc, c :: l =>
    if c = 0 then
      match l with
      | [] => ([], [], false)
      | d :: l' => if d = 0 then (acc, l', true) else if d = 255 then txt (acc ++ [0]) l' else ([], [], false)
    else txt (acc ++ [c]) l

def keys_text.f (a0 : ByteArray) : Option (ByteArray × ByteArray × Bool) :=
  if a0.size ≤ 140737488355328 then some (⟨(txt [] a0.data.toList).1.toArray⟩, ⟨(txt [] a0.data.toList).2.1.toArray⟩, (txt [] a0.data.toList).2.2) else none

theorem of_toList_nil {s : ByteArray} (h : s.data.toList = []) : s = ⟨#[]⟩ := by
  obtain ⟨⟨l⟩⟩ := s
  simp at h
  subst h
  rfl

theorem mark_eq {m : ByteArray} {d : UInt8} (h : m.data.toList = [0, d]) :
    (d = 0 → (m.toList == [0, 0]) = true) ∧ (d ≠ 0 → (m.toList == [0, 0]) = false) ∧ (d = 255 → (m.toList == [0, 255]) = true) ∧ (d ≠ 255 → (m.toList == [0, 255]) = false) := by
  rw [Lib.toList_data, h]
  refine ⟨fun e => ?_, fun e => ?_, fun e => ?_, fun e => ?_⟩ <;> simp [e]

theorem of_toList_eq {s t : ByteArray} (h : s.data.toList = t.data.toList) : s = t := by
  obtain ⟨⟨a⟩⟩ := s
  obtain ⟨⟨b⟩⟩ := t
  simp at h
  subst h
  rfl

def szOf : Value → Nat
  | .string s => s.size
  | _ => 0

theorem txt_ne {c : UInt8} {l acc : List UInt8} (h : c ≠ 0) : txt acc (c :: l) = txt (acc ++ [c]) l := by
  conv => lhs; unfold txt
  rw [if_neg h]
theorem txt_one (acc : List UInt8) : txt acc [0] = ([], [], false) := by
  unfold txt; rfl
theorem txt_two (acc : List UInt8) (d : UInt8) (l : List UInt8) : txt acc (0 :: d :: l) = if d = 0 then (acc, l, true) else if d = 255 then txt (acc ++ [0]) l else ([], [], false) := by
  conv => lhs; unfold txt
  rw [if_pos rfl]

theorem txt_none : ∀ (l acc : List UInt8), Lib.indexByte l 0 = -1 → txt acc l = ([], [], false)
  | [], _, _ => rfl
  | c :: l, acc, h => by
    rw [Lib.indexByte] at h
    by_cases hc : c = 0
    · rw [if_pos (by simp [hc])] at h; cases h
    · rw [if_neg (by simp [hc])] at h
      have h2 : Lib.indexByte l 0 = -1 := by
        by_cases e : Lib.indexByte l 0 = -1
        · exact e
        · rw [if_neg (by simp [e])] at h
          have := Lib.indexByte_ge l 0
          omega
      rw [txt_ne hc]
      exact txt_none l _ h2

theorem txt_some : ∀ (l acc : List UInt8) (i : Nat), Lib.indexByte l 0 = (i : Int) → i < l.length ∧ txt acc l = txt (acc ++ l.take i) (l.drop i) ∧ l.drop i = 0 :: l.drop (i + 1)
  | [], _, i, h => by rw [Lib.indexByte] at h; omega
  | c :: l, acc, i, h => by
    rw [Lib.indexByte] at h
    by_cases hc : c = 0
    · rw [if_pos (by simp [hc])] at h
      obtain rfl : i = 0 := by omega
      subst hc
      refine ⟨by simp, by simp, by simp⟩
    · rw [if_neg (by simp [hc])] at h
      by_cases e : Lib.indexByte l 0 = -1
      · rw [if_pos (by simp [e])] at h; omega
      · rw [if_neg (by simp [e])] at h
        have := Lib.indexByte_ge l 0
        obtain ⟨j, rfl⟩ : ∃ j, i = j + 1 := ⟨i - 1, by omega⟩
        obtain ⟨h1, h2, h3⟩ := txt_some l (acc ++ [c]) j (by omega)
        refine ⟨by simp; omega, ?_, ?_⟩
        · rw [txt_ne hc, h2, List.take_succ_cons, List.drop_succ_cons, List.append_assoc]; rfl
        · rw [List.drop_succ_cons, List.drop_succ_cons]; exact h3

set_option maxHeartbeats 4000000 in
set_option maxRecDepth 100000 in
theorem keys_text.calls (a0 : ByteArray) (r1 r2 : ByteArray) (r3 : Bool) (w : World) (h : keys_text.f a0 = some (r1, r2, r3)) :
    Calls Tryd.prog 43 #[.string a0] w fun e w' => e = .returned (.tuple #[.string r1, .string r2, .bool r3]) ∧ Below w.heap.size w w' := by
  unfold keys_text.f at h
  split at h
  case isFalse => cases h
  rename_i hsz
  have H : Hid (txt [] a0.data.toList = (r1.data.toList, r2.data.toList, r3)) := by
    have h := Option.some.inj h
    simp only [Prod.mk.injEq] at h
    obtain ⟨rfl, rfl, rfl⟩ := h
    exact Lib.hid rfl
  clear h
  have HB0 := Lib.hid (((Below.refl w.heap.size w).alloc (Nat.le_refl _) (.cells #[.pointer none, .slice none 0 0] 70)))
  go_enter Tryd.func43, Tryd.ntmps43
  go_wp2_with fail
  go_loopw [0] (fun v wx => ∃ (t : ByteArray) (acc : List UInt8), v = .string t ∧ Hid (txt acc t.data.toList = (r1.data.toList, r2.data.toList, r3)) ∧ acc.length + t.size ≤ 140737488355328 ∧
      Hid (Lib.IsBuilder 70 5 w.heap.size w.heap.size (Lib.byteCells acc) wx) ∧ Hid (Below w.heap.size w wx)) (fun v _ => szOf v)
  case atStart => exact ⟨a0, [], rfl, H, by simpa using hsz, Lib.hid (Lib.fresh_isBuilder _ _ _), HB0⟩
  case round =>
    obtain ⟨t, acc, rfl, HT, hlen, HBd, HW⟩ := hrel
    have hBw : w.heap.size ≤ wr.heap.size := HW.out.size
    have hts : t.data.toList.length = t.size := (Lib.size_eq t).symm
    have HTS := Lib.hid hts
    clear hts
    have e0 : (0 : Int).toNat.toUInt8 = (0 : UInt8) := rfl
    by_cases hm : Lib.indexByte t.data.toList 0 = -1
    · have HC : Hid (Calls Tryd.prog 56 #[.string t, .int .u8 0] wr fun e w' => e = .returned (.int .i64 (-1)) ∧ w' = wr) := Lib.hid (by have := Tryd.strings_IndexByte t 0 wr; rwa [e0, hm] at this)
      have hF := txt_none t.data.toList acc hm
      rw [HT.out] at hF
      have HF := Lib.hid hF
      clear hm hF e0
      go_wp2_with fail
      refine HC.out.mono ?_
      rintro e w' ⟨rfl, rfl⟩
      go_wp2_with fail
      go_ret3
      have hF := HF.out
      simp only [Prod.mk.injEq] at hF
      obtain ⟨h1, h2, h3⟩ := hF
      exact ⟨by rw [h3, of_toList_nil h1, of_toList_nil h2]; rfl, HW.out⟩
    · have hge := Lib.indexByte_ge t.data.toList 0
      obtain ⟨i, hi⟩ : ∃ i : Nat, Lib.indexByte t.data.toList 0 = (i : Int) := ⟨(Lib.indexByte t.data.toList 0).toNat, by omega⟩
      have HC : Hid (Calls Tryd.prog 56 #[.string t, .int .u8 0] wr fun e w' => e = .returned (.int .i64 i) ∧ w' = wr) := Lib.hid (by have := Tryd.strings_IndexByte t 0 wr; rwa [e0, hi] at this)
      obtain ⟨hlt, ht1, ht2⟩ := txt_some t.data.toList acc i hi
      have HZ := Lib.hid ht2
      rw [HTS.out] at hlt
      rw [HT.out, ht2] at ht1
      have HT1 := Lib.hid ht1
      clear hm hge hi ht1 ht2 e0
      by_cases hend : i + 1 = t.size
      · have hb : (((i : Int) + 1) == (t.size : Int)) = true := by simp; omega
        have hd : t.data.toList.drop (i + 1) = [] := by rw [List.drop_eq_nil_iff, HTS.out]; omega
        have hF := HT1.out
        rw [hd, txt_one] at hF
        have HF := Lib.hid hF
        clear hF hd
        go_wp2_with fail
        refine HC.out.mono ?_
        rintro e w' ⟨rfl, rfl⟩
        go_wp2_with fail
        go_ret3
        have hF := HF.out
        simp only [Prod.mk.injEq] at hF
        obtain ⟨h1, h2, h3⟩ := hF
        exact ⟨by rw [h3, of_toList_nil h1, of_toList_nil h2]; rfl, HW.out⟩
      · have hb : (((i : Int) + 1) == (t.size : Int)) = false := by simp; omega
        obtain ⟨d, l', hd⟩ : ∃ d l', t.data.toList.drop (i + 1) = d :: l' := by
          cases hh : t.data.toList.drop (i + 1) with
          | nil => rw [List.drop_eq_nil_iff, HTS.out] at hh; omega
          | cons d l' => exact ⟨d, l', rfl⟩
        have hl' : l' = t.data.toList.drop (i + 2) := by
          have := congrArg (List.drop 1) hd
          rw [List.drop_drop] at this
          simpa using this.symm
        have ht2 := HT1.out
        rw [hd, txt_two, hl'] at ht2
        have hmk : (t.extract i (i + 2)).data.toList = [0, d] := by
          rw [Lib.extract_data, Nat.add_sub_cancel_left]
          have hz : t.data.toList.drop i = 0 :: d :: l' := by
            have := HZ.out; rw [hd] at this; exact this
          rw [hz]; rfl
        have hext : (t.extract (i + 2) t.size).data.toList = t.data.toList.drop (i + 2) := by rw [Lib.extract_to_end]
        have HX := Lib.hid hext
        have HT2 := Lib.hid ht2
        have c1 : (i : Int) ≤ (i : Int) + 2 := by omega
        have c2 : (i : Int) + 2 ≤ (t.size : Int) := by omega
        have mk := mark_eq hmk
        clear hd hl' ht2 hmk hext HZ HT1
        go_wp2_with fail
        refine HC.out.mono ?_
        rintro e w' ⟨rfl, rfl⟩
        go_wp2_with fail
        refine (Any.Builder_WriteString { Tryd.bl with } Tryd.blX w.heap.size w.heap.size _ (t.extract 0 i) _ HBd.out (by rw [Lib.byteCells_length, ByteArray.size_extract]; omega) hBw).mono ?_
        rintro e w3 ⟨rfl, h3, hb3⟩
        rw [Lib.strCells_eq, Lib.extract_data, List.drop_zero, Nat.sub_zero, ← Lib.byteCells_append] at h3
        have H3 := Lib.hid (Or.inr h3 : Lib.IsBuilder 70 5 w.heap.size w.heap.size _ w3)
        have Hb3 := Lib.hid (HW.out.trans hb3)
        have hBw3 : w.heap.size ≤ w3.heap.size := Hb3.out.size
        clear h3 hb3 HBd HW hBw
        by_cases d0 : d = 0
        · have mk0 := mk.1 d0
          clear mk
          go_wp2_with fail
          refine (Any.Builder_String_any { Tryd.bl with } Tryd.blX w.heap.size w.heap.size _ w3 H3.out hBw3).mono ?_
          rintro e w5 ⟨rfl, hb5⟩
          have Hb5 := Lib.hid (Hb3.out.trans hb5)
          clear hb5
          go_wp2_with fail
          go_ret3
          have hF := HT2.out
          rw [if_pos d0] at hF
          simp only [Prod.mk.injEq] at hF
          obtain ⟨h1, h2, h3⟩ := hF
          refine ⟨?_, Hb5.out⟩
          rw [h3, ← h1, of_toList_eq (h2.trans HX.out.symm)]
          rfl
        · have mk0 := mk.2.1 d0
          by_cases d1 : d = 255
          · have mk1 := mk.2.2.1 d1
            clear mk
            go_wp2_with fail
            refine (Any.Builder_WriteByte Tryd.bl167 Tryd.blX w.heap.size w.heap.size _ 0 w3 H3.out (by rw [Lib.byteCells_length, List.length_append, List.length_take, HTS.out]; omega) hBw3).mono ?_
            rintro e w5 ⟨rfl, h5, hb5⟩
            have H5 := Lib.hid (Or.inr h5 : Lib.IsBuilder 70 5 w.heap.size w.heap.size _ w5)
            have Hb5 := Lib.hid (Hb3.out.trans hb5)
            clear h5 hb5
            go_wp2_with fail
            go_roundw
            case rel =>
              have hF := HT2.out
              rw [if_neg d0, if_pos d1] at hF
              refine ⟨_, acc ++ List.take i t.data.toList ++ [0], rfl, Lib.hid (by rw [HX.out]; exact hF.symm), ?_, Lib.hid ?_, Hb5⟩
              · simp only [List.length_append, List.length_take, HTS.out, ByteArray.size_extract, List.length_singleton]; omega
              · rw [Lib.byteCells_append]; exact H5.out
            case measure => simp [szOf]; omega
          · have mk1 := mk.2.2.2 d1
            clear mk
            go_wp2_with fail
            go_ret3
            have hF := HT2.out
            rw [if_neg d0, if_neg d1] at hF
            simp only [Prod.mk.injEq] at hF
            obtain ⟨h1, h2, h3⟩ := hF
            exact ⟨by rw [h3, of_toList_nil h1, of_toList_nil h2]; rfl, Hb3.out⟩

end Go.Proofs.YtpimfioeeipnhaaDoor.Hand
