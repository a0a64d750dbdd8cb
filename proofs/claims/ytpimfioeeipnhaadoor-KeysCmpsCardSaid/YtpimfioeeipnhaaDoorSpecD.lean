/-
  What keys.After comes to: a plain function of the bytes. Condition: the text is shorter than 2^47.
-/
import Derived.Test.YtpimfioeeipnhaaDoorKx14
import Derived.Test.YtpimfioeeipnhaaDoorSpecA
namespace Go.Proofs.YtpimfioeeipnhaaDoor.Pl
open Go.Proofs.YtpimfioeeipnhaaDoor.Hand Go.Proofs.YtpimfioeeipnhaaDoor.K Go.Lib Go.RowKit Go.Proofs.YtpimfioeeipnhaaDoorW.PrintWords Go.Proofs.YtpimfioeeipnhaaDoorW.PrintMore
set_option linter.unusedVariables false
set_option linter.unusedSimpArgs false

def aftR (l : List UInt8) : ByteArray × Bool := match aft l with
  | none => (⟨#[]⟩, false)
  | some e => (⟨e.toArray⟩, true)

theorem bt_get (s : ByteArray) (i : Nat) (h : i < s.data.toList.length) : bt s (i : Int) = (s.data.toList[i].toNat : Int) := by
  have h' : i < s.size := by rw [Lib.size_eq]; exact h
  have := bt_at s (i : Int) (by simpa using h')
  rw [← this]
  rfl

theorem split_last (s : ByteArray) (h : s.data.toList ≠ []) : ∃ (l : List UInt8) (c : UInt8), s.data.toList = l ++ [c] ∧ s.size = l.length + 1 ∧ bt s (l.length : Int) = (c.toNat : Int) ∧ (s.extract 0 l.length).data.toList = l := by
  obtain ⟨l, c, e⟩ : ∃ l c, s.data.toList = l ++ [c] := ⟨_, _, (List.dropLast_concat_getLast h).symm⟩
  have hs : s.size = l.length + 1 := by rw [Lib.size_eq, e]; simp
  refine ⟨l, c, e, hs, ?_, ?_⟩
  · rw [bt_get s l.length (by rw [e]; simp)]
    simp [e]
  · rw [Lib.extract_data, e]; simp

theorem after_ev : ∀ (n : Nat) (s : ByteArray), s.size = n → n ≤ 140737488355328 → Ev (fun k => keys_After.l0 k s) (aftR s.data.toList)
  | 0, s, h, hb => by
    have e : s.data.toList = [] := List.eq_nil_of_length_eq_zero (by rw [← Lib.size_eq]; exact h)
    rw [e]
    refine Ev.step (f := fun k => keys_After.j1 k s) (fun k => by simp only [keys_After.l0]; rw [if_pos (by rw [Lib.toList_data]; exact e)]) ?_
    exact Ev.step (f := fun _ => some (⟨#[]⟩, false)) (fun k => by simp only [keys_After.j1]; rw [if_pos (by rw [Lib.toList_data]; exact e)]) (Ev.now _)
  | n + 1, s, h, hb => by
    have hne : s.data.toList ≠ [] := fun e => by have := Lib.size_eq s; rw [e, List.length_nil] at this; omega
    obtain ⟨l, c, e, hs, hc, hx⟩ := split_last s hne
    have hn : l.length = n := by omega
    have hw : wrap64 ((s.size : Int) - 1) = (l.length : Int) := by rw [hs]; unfold wrap64; omega
    have hnil : ¬ s.toList = ([] : List UInt8) := by rw [Lib.toList_data]; exact hne
    by_cases c255 : c = 255
    · subst c255
      have ih := after_ev n (s.extract 0 l.length) (by rw [Lib.size_eq, hx]; exact hn) (by omega)
      rw [hx] at ih
      have ea : aftR s.data.toList = aftR l := by unfold aftR; rw [e, aft_snoc_255]
      rw [ea]
      refine Ev.step (f := fun k => keys_After.l0 k (s.extract 0 l.length)) (fun k => ?_) ih
      simp only [keys_After.l0]
      rw [if_neg hnil, hw, if_pos (by omega), if_pos (by omega), hc, if_pos (by rfl), if_pos (by omega), Int.toNat_natCast]
    · have hc' : ¬ (c.toNat : Int) = 255 := fun z => by
        have z2 : c.toNat = (255 : UInt8).toNat := by show c.toNat = 255; omega
        exact c255 (UInt8.toNat_inj.mp z2)
      have ea : aftR s.data.toList = (⟨(l ++ [c + 1]).toArray⟩, true) := by unfold aftR; rw [e, aft_snoc l c c255]
      rw [ea]
      refine Ev.step (f := fun k => keys_After.j1 k s) (fun k => ?_) (Ev.step (f := fun _ => some ((⟨(l ++ [c + 1]).toArray⟩ : ByteArray), true)) (fun k => ?_) (Ev.now _))
      · simp only [keys_After.l0]
        rw [if_neg hnil, hw, if_pos (by omega), if_pos (by omega), hc, if_neg hc']
      · have hd : strOfNums [((c.toNat : Int) + 1) % 256] = ⟨[c + 1].toArray⟩ := by
          have : ((c.toNat : Int) + 1) % 256 = (((c + 1).toNat : Nat) : Int) := by rw [UInt8.toNat_add]; simp
          rw [this]
          exact strOf_nums [c + 1]
        have hsz : (s.extract 0 l.length).size = l.length := by rw [Lib.size_eq, hx]
        have hone : (⟨[c + 1].toArray⟩ : ByteArray).size = 1 := rfl
        simp only [keys_After.j1]
        rw [if_neg hnil, hw, if_pos (by omega), if_pos (by omega), if_pos (by omega), hc, Option.bind_some, hd, Int.toNat_natCast, hsz, hone, if_pos (by omega)]
        congr 2
        refine of_toList_eq ?_
        rw [ByteArray.data_append, Array.toList_append, hx]

theorem after_f (s : ByteArray) (h : s.size ≤ 140737488355328) : Ev (fun k => keys_After.f k s) (aftR s.data.toList) := by
  unfold keys_After.f
  exact after_ev s.size s rfl h

end Go.Proofs.YtpimfioeeipnhaaDoor.Pl
